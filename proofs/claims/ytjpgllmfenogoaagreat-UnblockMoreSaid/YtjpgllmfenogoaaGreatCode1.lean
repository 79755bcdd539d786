/- Lemmas for UnblockMoreSaid, which YtjpgllmfenogoaaGreatFinU5 proves. -/
import Derived.Test.YtjpgllmfenogoaaGreatLift35
import Derived.Test.YtjpgllmfenogoaaGreatProg
import Derived.KernelRfl
namespace Go.Lift
open Go.RowKit
variable {P : Program} {X : KA} {ops : Array Oper}
theorem RB {st : St} (b c : Nat) {e ix k e2 : Nat} {cols cols2 : List Ow} {rows rows2 rows' : List (List T)} {row : List T} (hb : st.bx b = some (.hol e cols ix k c rows)) (hc : st.bx c = some (inner e2 cols2 rows2)) (hcol : cols.getD k .s = .x e2 cols2) (hrow : rows[ix]? = some row)
  (hbl : BI b = false) (hcl : BI c = false) (hr : rows.set ix (row.set k (.sl rows2)) = rows') : He P X st ⟨st.env, Bl st.bx [(b, .dvec e cols rows'), (c, .gone)]⟩ := by
 have hcb : c ≠ b := fun e' => by rw [e', hb] at hc; unfold inner at hc; split at hc <;> cases hc
 subst hr
 rintro a w ⟨G, hs⟩
 obtain ⟨β, cap, arr, el, Rf, hβ, h1, h2, h3, h4, h5, h6, h7, h8, h9, h10, h11⟩ := hs.blk b _ hb
 have hX := NL (hs.blk c _ hc)
 have hre := h5 ix row hrow
 let G' : Gh := { G with more := fun d => if d = b then (fun γ => G.more b γ ∨ G.has c γ) else G.more d }
 have hcβ : ∀ γ, G.has c γ → γ ≠ β := fun γ h e' => hcb (hs.at_inj c b _ _ γ hc hb Do rfl h (.inl (e' ▸ hβ)))
 have hbx : ∀ d, Bl st.bx [(b, .dvec e cols (rows.set ix (row.set k (.sl rows2)))), (c, .gone)] d = if d = b then some (.dvec e cols (rows.set ix (row.set k (.sl rows2)))) else if d = c then some .gone else st.bx d := fun d => rfl
 have hasO : ∀ d γ, d ≠ b → (G'.has d γ ↔ G.has d γ) := fun d γ h => by unfold Gh.has; simp only [G', if_neg h]
 have hasB : ∀ γ, G'.has b γ → G.has b γ ∨ G.has c γ := fun γ h => by
  unfold Gh.has at h
  simp only [G', if_true] at h
  rcases h with h | h | h
  ·exact .inl (.inl h)
  ·exact .inl (.inr h)
  ·exact .inr h
 refine ⟨G', ?_⟩
 refine hs.frame2 (fun d hd => ?_) (fun _ h => h) (fun _ _ => rfl) (fun _ _ => rfl) (fun _ _ => rfl) ?_ ?_ ?_ hs.S_lt hs.S_src hs.below (fun d hd => ?_)
 ·rw [hbx]; split
  ·rfl
  ·split
   ·rfl
   ·exact hd
 ·intro d kk hd
  rw [hbx] at hd
  split at hd
  ·rename_i e1; subst e1; cases hd
   refine .inr ⟨.inr ⟨β, cap, arr, el, fun i0 j0 γ => if i0 = ix ∧ j0 = k then G.has c γ else Rf i0 j0 γ, hβ, by rw [List.length_set]; exact h1, h2, by rw [List.length_set]; exact h3, h4, ?_, ?_, ?_, ?_, ?_⟩, fun c' hc' => by cases hc'⟩
   ·intro j0 row' hj
    rcases Fr hj with ⟨_, rfl⟩ | ⟨_, hj⟩
    ·rw [List.length_set]; exact hre
    ·exact h5 j0 row' hj
   ·intro i0 row' j0 t0 hi hj
    have hj0 : j0 < e := by
     have := AB hj
     rcases Fr hi with ⟨_, rfl⟩ | ⟨_, hi⟩
     ·rw [List.length_set] at this; omega
     ·have := h5 i0 row' hi; omega
    by_cases hh : i0 = ix ∧ j0 = k
    ·obtain ⟨rfl, rfl⟩ := hh
     rw [hcol]
     have ht0 : t0 = .sl rows2 := by
      rcases Fr hi with ⟨_, rfl⟩ | ⟨hne, _⟩
      ·rcases Fr hj with ⟨_, rfl⟩ | ⟨hne, _⟩
       ·rfl
       ·exact (hne rfl).elim
      ·exact (hne rfl).elim
     subst ht0
     rw [h10]
     exact hX.mono (fun _ _ => rfl) (fun _ h => h) (fun γ hγ => by simp only [and_self, if_true]; exact hγ)
    ·have hold : ∃ row0, rows[i0]? = some row0 ∧ row0[j0]? = some t0 := by
      rcases Fr hi with ⟨hii, rfl⟩ | ⟨_, hi⟩
      ·subst hii
       rcases Fr hj with ⟨hjj, _⟩ | ⟨_, hj⟩
       ·exact (hh ⟨rfl, hjj⟩).elim
       ·exact ⟨row, hrow, hj⟩
      ·exact ⟨row', hi, hj⟩
     obtain ⟨row0, q1, q2⟩ := hold
     exact (h6 i0 row0 j0 t0 q1 q2 hh).mono (fun _ _ => rfl) (fun _ h => h) (fun γ hγ => by simp only [if_neg hh]; exact hγ)
   ·intro i0 j0 γ hγ
    simp only [G', if_true]
    split at hγ
    ·exact .inr hγ
    ·exact .inl (h7 i0 j0 γ hγ)
   ·intro i0 j0 hγ
    split at hγ
    ·exact hcβ β hγ rfl
    ·exact h8 i0 j0 hγ
   ·intro i0 j0 i1 j1 γ hγ hγ'
    have cross : ∀ i j, Rf i j γ → G.has c γ → False := fun i j hr hh => hcb (hs.at_inj c d _ _ γ hc hb Do rfl hh (.inr (h7 i j γ hr)))
    split at hγ <;> split at hγ'
    ·rename_i q q'; exact ⟨q.1.trans q'.1.symm, q.2.trans q'.2.symm⟩
    ·exact (cross _ _ hγ' hγ).elim
    ·exact (cross _ _ hγ hγ').elim
    ·exact h9 i0 j0 i1 j1 γ hγ hγ'
  ·rename_i e1
   split at hd
   ·cases hd; exact .inr ⟨trivial, fun c' hc' => by cases hc'⟩
   ·rename_i e2'
    exact .inl ⟨hd, by simp only [G', if_neg e1], fun _ _ _ => rfl⟩
 ·intro d kk γ hd hr hγ
  rw [hbx] at hd
  split at hd
  ·rename_i e1; subst e1
   rcases hasB γ hγ with h | h
   ·exact hs.at_ok d _ γ hb rfl h
   ·have := hs.at_ok c _ γ hc Do h
    exact ⟨.new (this.1.1 hcl), this.2⟩
  ·rename_i e1
   split at hd
   ·cases hd; cases hr
   ·exact hs.at_ok d kk γ hd hr ((hasO d γ e1).1 hγ)
 ·intro d d' kk kk' γ hd hd' hr hr' hγ hγ'
  rw [hbx] at hd hd'
  have cl : ∀ d kk, (if d = b then some (BL.dvec e cols (rows.set ix (row.set k (.sl rows2)))) else if d = c then some .gone else st.bx d) = some kk → kk.real = true → G'.has d γ → (d = b ∧ (G.has b γ ∨ G.has c γ)) ∨ (d ≠ b ∧ d ≠ c ∧ st.bx d = some kk ∧ G.has d γ) := by
   intro d kk hd hr hγ
   split at hd
   ·rename_i e1; subst e1; exact .inl ⟨rfl, hasB γ hγ⟩
   ·rename_i e1
    split at hd
    ·cases hd; cases hr
    ·rename_i e2'; exact .inr ⟨e1, e2', hd, (hasO d γ e1).1 hγ⟩
  rcases cl d kk hd hr hγ with ⟨q1, q2⟩ | ⟨q1, q2, q3, q4⟩ <;> rcases cl d' kk' hd' hr' hγ' with ⟨q1', q2'⟩ | ⟨q1', q2', q3', q4'⟩
  ·rw [q1, q1']
  ·rcases q2 with h | h
   ·exact (q1' (hs.at_inj d' b _ _ γ q3' hb hr' rfl q4' h)).elim
   ·exact (q2' (hs.at_inj d' c _ _ γ q3' hc hr' Do q4' h)).elim
  ·rcases q2' with h | h
   ·exact (q1 (hs.at_inj d b _ _ γ q3 hb hr rfl q4 h)).elim
   ·exact (q2 (hs.at_inj d c _ _ γ q3 hc hr Do q4 h)).elim
  ·exact hs.at_inj d d' kk kk' γ q3 q3' hr hr' q4 q4'
 ·have e1 : d ≠ b := fun e' => by rw [e', hbl] at hd; cases hd
  refine ⟨rfl, rfl, ?_⟩
  simp only [G', if_neg e1]
section run
variable {dr : Bool} {Q : St → Prop} {r i : Nat} {st : St} {log : List (Nat × DD)} {o : Oper} {gs : List (Operand × D)}
def Xi (bx : Nat → Option BL) : C → Ow → T → Prop
 | .pure u, .s, t => u = t
 | .own c, .x e2 cols2, .sl rows2 => bx c = some (inner e2 cols2 rows2)
 | _, _, _ => False
def Vl (bx : Nat → Option BL) : Nat → List Ow → List C → List T → Prop
 | _, _, [], [] => True
 | j, cols, c :: cs, t :: ts => Xi bx c (cols.getD j .s) t ∧ Vl bx (j + 1) cols cs ts
 | _, _, _, _ => False
def QB : Nat → List Ow → List C → List T → List (Nat × BL)
 | j, cols, .own c :: cs, .sl rows2 :: ts => (match cols.getD j .s with | .x e2 cols2 => [(c, inner e2 cols2 rows2)] | .s => []) ++ QB (j + 1) cols cs ts
 | j, cols, _ :: cs, _ :: ts => QB (j + 1) cols cs ts
 | _, _, _, _ => []
theorem P3 {bx : Nat → Option BL} {cols : List Ow} : ∀ {cs : List C} {ts : List T} {j0 : Nat}, Vl bx j0 cols cs ts → cs.length = ts.length ∧ ∀ (j : Nat) (c : C) (t : T), cs[j]? = some c → ts[j]? = some t → Xi bx c (cols.getD (j0 + j) .s) t
 | [], [], _, _ => ⟨rfl, fun j c t h => by simp at h⟩
 | c :: cs, t :: ts, j0, h => by
  obtain ⟨g1, g2⟩ := P3 h.2
  refine ⟨by simp [g1], fun j c' t' hc ht => ?_⟩
  cases j with
  | zero => simp at hc ht; subst hc; subst ht; exact h.1
  | succ j =>
   have := g2 j c' t' (by simpa using hc) (by simpa using ht)
   rwa [show j0 + 1 + j = j0 + (j + 1) from by omega] at this
end run
end Go.Lift
namespace Go.Lift
open List renaming mem_of_getElem? → lM
open Go.RowKit
variable {P : Program} {X : KA} {ops : Array Oper}
theorem XU {e : Nat} {arr : Array Value} {v : Value} (ha : arr.size = 1 * e) (hv : v.cells.size = e) :
  ∃ arr', Instr.fill (fun i => some (i * e, e)) arr [(0, v)] = some arr' ∧ arr'.size = 1 * e ∧ ∀ j, j < e → Az arr' j = Az v.cells j := by
 refine ⟨Gp arr 0 v.cells.toList, ?_, by rw [GD, ha], fun j hj => ?_⟩
 ·simp only [Instr.fill]
  rw [if_neg (by simp; omega), MK]
  simp
 ·rw [Fj _ _ _ _ (by simp; omega), if_pos (by simp; omega), Gi, Nat.sub_zero]
theorem WV {bx : Nat → Option BL} {c : C} {o : Ow} {t : T} (h : Xi bx c o t) : (∃ u, c = .pure u ∧ o = .s ∧ t = u) ∨ ∃ b e2 cols2 rows2, c = .own b ∧ o = .x e2 cols2 ∧ t = .sl rows2 ∧ bx b = some (inner e2 cols2 rows2) := by
 cases c with
 | pure u =>
  cases o with
  | s => exact .inl ⟨u, rfl, rfl, h.symm⟩
  | x e cols => exact h.elim
 | own b =>
  cases o with
  | s => exact h.elim
  | x e cols =>
   cases t with
   | sl rows2 => exact .inr ⟨b, e, cols, rows2, rfl, rfl, rfl, h⟩
   | _ => exact h.elim
 | _ => cases o <;> exact h.elim
section run
variable {dr : Bool} {Q : St → Prop} {r i : Nat} {st : St} {log : List (Nat × DD)} {o : Oper} {gs : List (Operand × D)}
def EA : List C → List Nat
 | [] => []
 | .own c :: cs => c :: EA cs
 | _ :: cs => EA cs
theorem HS {b : Nat} : ∀ {cs : List C}, b ∈ EA cs ↔ .own b ∈ cs
 | [] => by simp [EA]
 | c :: cs => by
  cases c <;> simp [EA, HS (cs := cs)]
theorem O7 : ∀ {cs : List C}, (EA cs).Nodup → ∀ (j j' b : Nat), cs[j]? = some (.own b) → cs[j']? = some (.own b) → j = j'
 | [], _, j, j', b, h, _ => by simp at h
 | c :: cs, hn, j, j', b, h, h' => by
  have hn2 : (EA cs).Nodup := by
   cases c <;> simp only [EA] at hn <;> first | exact hn | exact (List.nodup_cons.1 hn).2
  have hnot : c = .own b → .own b ∉ cs := fun e hm => by
   subst e
   simp only [EA] at hn
   exact (List.nodup_cons.1 hn).1 (HS.2 hm)
  cases j with
  | zero =>
   cases j' with
   | zero => rfl
   | succ j' =>
    simp at h h'
    exact (hnot h (lM h')).elim
  | succ j =>
   cases j' with
   | zero =>
    simp at h h'
    exact (hnot h' (lM h)).elim
   | succ j' =>
    rw [O7 hn2 j j' b (by simpa using h) (by simpa using h')]
theorem Jq {t el : TypeId} {s e : Nat} {z : Value} {y : Operand} {x : E} {cs : List C} {ts : List T} (cols : List Ow) (rb : List (Nat × BL)) {parts : Array (Nat × Operand)} (hat : At st.env ops i X.n (.buildSlice t 1 parts) s gs) (hps : parts = #[(0, y)])
  (hx : opd st.env y = some (.e x)) (hcs : x.cells = cs) (hlen : cs.length = e) (hrb : QB 0 cols cs ts = rb) (hb : IR st.bx rb) (hcx : Vl st.bx 0 cols cs ts) (hnew : st.bx s = none)
  (hnd : JL (EA cs) = true) (hnl : (EA cs).all (fun c => !BI c) = true) (ht : sliceB P t el = true) (he : Ic P el e = true) (hz : Fu P el = some z) (hsm : e ≤ 16777216)
  (next : Bh P X ops dr Q r (i + 1) (DD.upd ⟨gs ++ [(y, .e x)], rb, some s, some (.e (.one (.own s))), (s, .dvec e cols [ts]) :: Ib (EA cs), [s]⟩ st) ((i, ⟨gs ++ [(y, .e x)], rb, some s, some (.e (.one (.own s))), (s, .dvec e cols [ts]) :: Ib (EA cs), [s]⟩) :: log)) : Bh P X ops dr Q (r + 1) i st log := by
 obtain ⟨o, ho, hop, hdst, hn, hg, hgp⟩ := hat.out
 have hndp := JG hnd
 refine Bh.step next ⟨Ap.2 ⟨hgp, hx, trivial⟩, hb, hnew, trivial⟩ (LR.value ho hg rfl hdst.symm (DQ hdst hn) ?_)
 have hcx0 := P3 hcx
 intro G st' a w hs hpre
 have hx := (Ap.1 hpre.r).2.1
 have hnew := hpre.n.1
 have hb := hpre.b
 have hpb : ∀ {l : List (Nat × BL)}, IR st'.bx l → ∀ p, p ∈ l → st'.bx p.1 = some p.2 := by
  intro l
  induction l with
  | nil => intro _ p hp; cases hp
  | cons q l ih =>
   intro h p hp
   rcases List.mem_cons.1 hp with e | e
   ·subst e; exact h.1
   ·exact ih h.2 p e
 -- what each cell is, in this state
 have hown : ∀ (j : Nat) (c : C) (u : T), cs[j]? = some c → ts[j]? = some u → (∃ v, c = .pure v ∧ cols.getD j .s = .s ∧ u = v) ∨ ∃ b e2 cols2 rows2, c = .own b ∧ cols.getD j .s = .x e2 cols2 ∧ u = .sl rows2 ∧ st'.bx b = some (inner e2 cols2 rows2) := by
  intro j c u hc hu
  have h1 := hcx0.2 j c u hc hu
  rw [Nat.zero_add] at h1
  rcases WV h1 with h2 | ⟨b, e2, cols2, rows2, rfl, h3, rfl, _⟩
  ·exact .inl h2
  ·refine .inr ⟨b, e2, cols2, rows2, rfl, h3, rfl, ?_⟩
   have hmem : ∀ (cs : List C) (ts : List T) (j0 j : Nat), cs[j]? = some (.own b) → ts[j]? = some (.sl rows2) → cols.getD (j0 + j) .s = .x e2 cols2 → (b, inner e2 cols2 rows2) ∈ QB j0 cols cs ts := by
    intro cs
    induction cs with
    | nil => intro ts j0 j h; simp at h
    | cons c cs ih =>
     intro ts j0 j h h' hcol
     cases ts with
     | nil => simp at h'
     | cons t ts =>
      cases j with
      | zero =>
       simp at h h'; subst h; subst h'
       rw [Nat.add_zero] at hcol
       simp only [QB, hcol]
       exact List.mem_append_left _ (by simp)
      | succ j =>
       have := ih ts (j0 + 1) j (by simpa using h) (by simpa using h') (by rwa [show j0 + 1 + j = j0 + (j + 1) from by omega])
       cases c <;> first | (simp only [QB]; exact this) | (cases t <;> simp only [QB] <;> first | exact this | exact List.mem_append_right _ this)
   have := hmem cs ts 0 j hc hu (by rw [Nat.zero_add]; exact h3)
   rw [hrb] at this
   exact hpb hb _ this
 obtain ⟨hcsz, hcr⟩ := (show JR P w G (a.eval y) x from hs.opd hx).cells
 rw [hcs] at hcsz hcr
 have hve : (a.eval y).cells.size = e := by rw [hcsz, hlen]
 have hgn : ∀ c, c ∈ EA cs → ∃ (j e2 : Nat) (cols2 : List Ow) (rows2 : List (List T)), cs[j]? = some (.own c) ∧ cols.getD j .s = .x e2 cols2 ∧ st'.bx c = some (inner e2 cols2 rows2) := by
  intro c hc
  obtain ⟨j, hj⟩ := List.mem_iff_getElem?.1 (HS.1 hc)
  have hjt : j < ts.length := by rw [← hcx0.1]; exact AB hj
  rcases hown j _ ts[j] hj (by simp [hjt]) with ⟨v, h, _⟩ | ⟨b, e2, cols2, rows2, h1, h2, _, h4⟩
  ·cases h
  ·cases h1; exact ⟨j, e2, cols2, rows2, hj, h2, h4⟩
 have hs0 : s ∉ EA cs := fun hm => by
  obtain ⟨_, _, _, _, _, _, h⟩ := hgn s hm
  rw [hnew] at h; cases h
 obtain ⟨arr', r1, r2, r3⟩ := XU (e := e) (arr := (Array.range (1 * e)).map (fun k => (if 1 * e = 0 then (#[] : Array Value) else z.cells)[k % (if 1 * e = 0 then (#[] : Array Value) else z.cells).size]!)) (v := a.eval y) (by simp) hve
 let w' := w.alloc (.cells arr' el)
 let G' : Gh := { S := G.S, loc := fun c => if c = s then some w.heap.size else G.loc c, hd := fun c => if c = s then .slice (some ⟨w.heap.size, 0, none⟩) 1 1 else G.hd c, more := fun c => if c = s then (fun γ => ∃ b, b ∈ EA cs ∧ G.has b γ) else G.more c }
 have hheap : ∀ γ, γ < w.heap.size → w'.heap[γ]? = w.heap[γ]? := fun γ hγ => by show (w.alloc _).heap[γ]? = _; rw [DX, if_neg (by omega)]
 have hatw : w'.heap[w.heap.size]? = some (.cells arr' el) := by show (w.alloc _).heap[_]? = _; rw [DX, if_pos rfl]
 have hsz : w'.heap.size = w.heap.size + 1 := by show (w.heap.push _).size = _; simp
 have hbx : ∀ d, Bl st'.bx ((s, .dvec e cols [ts]) :: Ib (EA cs)) d = if d = s then some (.dvec e cols [ts]) else if d ∈ EA cs then some .gone else st'.bx d := fun d => by
  simp only [Bl]; split
  ·rfl
  ·exact Mv
 have hsome : ∀ c, (st'.bx c).isSome = true → c ≠ s := fun c hc e => by rw [e, hnew] at hc; cases hc
 have hasO : ∀ d γ, d ≠ s → (G'.has d γ ↔ G.has d γ) := fun d γ h => by unfold Gh.has; simp only [G', if_neg h]
 have hasS : ∀ γ, G'.has s γ → γ = w.heap.size ∨ ∃ b, b ∈ EA cs ∧ G.has b γ := fun γ h => by
  unfold Gh.has at h
  simp only [G', if_true] at h
  rcases h with h | h
  ·cases h; exact .inl rfl
  ·exact .inr h
 have hlt : ∀ b γ, b ∈ EA cs → G.has b γ → PN X b γ ∧ γ < w.heap.size ∧ ¬ G.S γ := fun b γ hbm hγ => by
  obtain ⟨_, _, _, _, _, _, h⟩ := hgn b hbm
  exact hs.at_ok b _ γ h Do hγ
 have hcsj : ∀ (j : Nat) (c : C), cs[j]? = some c → FY P w G (Az (a.eval y).cells j) c := hcr
 have key : Ee P X G' ⟨st'.env, Bl st'.bx ((s, .dvec e cols [ts]) :: Ib (EA cs))⟩ a w' := by
  refine hs.frame2 (fun d hd => ?_) (fun _ h => h) (fun c hc => by simp only [G']; rw [if_neg (hsome c hc)]) (fun c hc => by simp only [G']; rw [if_neg (hsome c hc)]) (fun γ hγ => hheap γ (hs.S_lt γ hγ)) ?_ ?_ ?_ (fun γ hγ => by have := hs.S_lt γ hγ; omega) hs.S_src (hs.below.alloc hs.below.size _) (fun d hd => ?_)
  ·rw [hbx]; split
   ·rfl
   ·split
    ·rfl
    ·exact hd
  ·intro d kk hd
   rw [hbx] at hd
   split at hd
   ·rename_i e1; subst e1; cases hd
    refine .inr ⟨.inr ⟨w.heap.size, 1, arr', el, fun i0 j0 γ => i0 = 0 ∧ ∃ b, cs[j0]? = some (.own b) ∧ G.has b γ, by simp [G'], by simp [G'], hatw, by simp, r2, ?_, ?_, ?_, ?_, ?_⟩, fun c' hc' => by cases hc'⟩
    ·intro i0 row hi
     cases i0 with
     | zero => simp at hi; subst hi; rw [← hcx0.1, hlen]
     | succ i0 => simp at hi
    ·intro i0 row j0 t0 hi hj
     cases i0 with
     | succ i0 => simp at hi
     | zero =>
      simp at hi; subst hi
      have hj0 : j0 < cs.length := by rw [hcx0.1]; exact AB hj
      have hcj : cs[j0]? = some cs[j0] := by simp [hj0]
      rw [Nat.zero_mul, Nat.zero_add, r3 j0 (by omega)]
      have hR := hcsj j0 _ hcj
      rcases hown j0 _ t0 hcj hj with ⟨v, h1, h2, h3⟩ | ⟨b, e2, cols2, rows2, h1, h2, h3, h4⟩
      ·rw [h2, h3]
       rw [h1] at hR
       exact .s ((show EL w G.S _ v from hR).mono (fun γ hγ => hheap γ (hs.S_lt γ hγ)) fun _ h => h)
      ·rw [h2, h3]
       rw [h1] at hR hcj
       have hvv : Az (a.eval y).cells j0 = G.hd b := hR.1
       rw [hvv]
       refine (NL (hs.blk b _ h4)).mono (fun γ hγ => hheap γ ?_) (fun _ h => h) (fun γ hγ => ⟨rfl, b, hcj, hγ⟩)
       rcases hγ with h | h
       ·exact hs.S_lt γ h
       ·exact (hs.at_ok b _ γ h4 Do h).2.1
    ·rintro i0 j0 γ ⟨_, b, hcb, hγ⟩
     simp only [G', if_true]
     exact ⟨b, HS.2 (lM hcb), hγ⟩
    ·rintro i0 j0 ⟨_, b, hcb, hγ⟩
     exact Nat.lt_irrefl _ (hlt b _ (HS.2 (lM hcb)) hγ).2.1
    ·rintro i0 j0 i1 j1 γ ⟨q0, b, hcb, hγ⟩ ⟨q1, b', hcb', hγ'⟩
     refine ⟨q0.trans q1.symm, ?_⟩
     obtain ⟨_, _, _, _, _, _, k1⟩ := hgn b (HS.2 (lM hcb))
     obtain ⟨_, _, _, _, _, _, k2⟩ := hgn b' (HS.2 (lM hcb'))
     have := hs.at_inj b b' _ _ γ k1 k2 Do Do hγ hγ'
     subst this
     exact O7 hndp _ _ b hcb hcb'
   ·rename_i e1
    split at hd
    ·cases hd; exact .inr ⟨trivial, fun c' hc' => by cases hc'⟩
    ·exact .inl ⟨hd, by simp only [G', if_neg e1], fun γ hr hγ => hheap γ (hs.at_ok d kk γ hd hr hγ).2.1⟩
  ·intro d kk γ hd hr hγ
   rw [hbx] at hd
   split at hd
   ·rename_i e1; subst e1
    rcases hasS γ hγ with h | ⟨b, hbm, h⟩
    ·subst h
     exact ⟨.new hs.below.size, by omega, fun h => Nat.lt_irrefl _ (hs.S_lt _ h)⟩
    ·have := hlt b γ hbm h
     have hbl : BI b = false := by
      have := List.all_eq_true.1 hnl b hbm
      simpa using this
     exact ⟨.new (this.1.1 hbl), by omega, this.2.2⟩
   ·rename_i e1
    split at hd
    ·cases hd; cases hr
    ·have := hs.at_ok d kk γ hd hr ((hasO d γ e1).1 hγ)
     exact ⟨this.1, by omega, this.2.2⟩
  ·intro d d' kk kk' γ hd hd' hr hr' hγ hγ'
   rw [hbx] at hd hd'
   have cl : ∀ d kk, (if d = s then some (BL.dvec e cols [ts]) else if d ∈ EA cs then some .gone else st'.bx d) = some kk → kk.real = true → G'.has d γ → (d = s ∧ (γ = w.heap.size ∨ ∃ b, b ∈ EA cs ∧ G.has b γ)) ∨ (d ≠ s ∧ d ∉ EA cs ∧ st'.bx d = some kk ∧ G.has d γ) := by
    intro d kk hd hr hγ
    split at hd
    ·rename_i e1; subst e1; exact .inl ⟨rfl, hasS γ hγ⟩
    ·rename_i e1
     split at hd
     ·cases hd; cases hr
     ·rename_i e2'; exact .inr ⟨e1, e2', hd, (hasO d γ e1).1 hγ⟩
   have cross : ∀ d kk, d ∉ EA cs → st'.bx d = some kk → kk.real = true → G.has d γ → (γ = w.heap.size ∨ ∃ b, b ∈ EA cs ∧ G.has b γ) → False := by
    intro d kk hdm hd hr hγ h
    rcases h with h | ⟨b, hbm, h⟩
    ·have := (hs.at_ok d kk γ hd hr hγ).2.1; omega
    ·obtain ⟨_, _, _, _, _, _, k1⟩ := hgn b hbm
     exact hdm (hs.at_inj d b _ _ γ hd k1 hr Do hγ h ▸ hbm)
   rcases cl d kk hd hr hγ with ⟨q1, q2⟩ | ⟨q1, q2, q3, q4⟩ <;> rcases cl d' kk' hd' hr' hγ' with ⟨q1', q2'⟩ | ⟨q1', q2', q3', q4'⟩
   ·rw [q1, q1']
   ·exact (cross d' kk' q2' q3' hr' q4' q2).elim
   ·exact (cross d kk q2 q3 hr q4 q2').elim
   ·exact hs.at_inj d d' kk kk' γ q3 q3' hr hr' q4 q4'
  ·have e1 : d ≠ s := fun e' => by rw [e', hs.nl hn] at hd; cases hd
   refine ⟨?_, ?_, ?_⟩ <;> simp only [G', if_neg e1]
 refine ⟨.slice (some ⟨w.heap.size, 0, none⟩) 1 1, w', G', ?_, key, ?_⟩
 ·simp only [execOp, hop, hps]
  refine Al (w1 := w') (a := .slice (some ⟨w.heap.size, 0, none⟩) 1 1) ?_ rfl
  have hpa : ((#[(0, y)] : Array (Nat × Operand)).map fun (i, x) => (i, a.eval x)) = #[(0, a.eval y)] := by simp
  unfold sliceB at ht
  split at ht
  ·rename_i e' hu
   have : e' = el := by simpa using ht
   subst this
   rw [hpa]
   unfold Instr.buildSlice
   refine Al (AS hu w) ?_
   refine Al (E9 he w) ?_
   rw [if_neg (by omega)]
   by_cases hne : 1 * e = 0
   ·rw [if_pos hne] at r1
    rw [if_pos hne]
    refine Al (a := (#[] : Array Value)) (w1 := w) rfl ?_
    simp only [r1]
    rfl
   ·rw [if_neg hne] at r1
    rw [if_neg hne]
    refine Al (Gk hz w) ?_
    refine Al (a := z.cells) (w1 := w) rfl ?_
    simp only [r1]
    rfl
  ·cases ht
 ·rintro d ⟨⟩
  refine ⟨⟨by simp [G'], _, _, _, rfl⟩, fun b hb => ?_⟩
  have : b = s := by simpa [D.names, E.names, C.names] using hb
  subst this
  rw [hbx, if_pos rfl]; rfl
end run
end Go.Lift
namespace Go.Lift
open Go.RowKit
variable {P : Program} {X : KA} {ops : Array Oper}
theorem PD {α : Type} (f : α → List T) (xs : List α) (n e : Nat) (cols : List Ow) : vl (.pvec n e cols (xs.map f)) = some (e, xs.length) := by simp [vl]
theorem Qh {st : St} (b : Nat) (k k' : BL) (hb : st.bx b = some k) (hr : k.real = true) (hn : k'.names = []) (h : ∀ (w : World) (G : Gh), Fs P w G b k → Fs P w G b k') : He P X st (St.setB st b k') := by
 rintro a w ⟨G, hs⟩
 refine ⟨G, hs.frame (bx' := (St.setB st b k').bx) ?_ ⟨fun _ h => h, fun _ _ => rfl, fun _ _ => rfl, fun _ _ => rfl⟩ (fun _ _ => rfl) ?_ ?_ ?_ hs.S_lt hs.S_src hs.below (fun _ _ => ⟨rfl, rfl, rfl⟩)⟩
 ·intro c hc; simp only [St.setB]; split <;> simp [hc]
 ·intro c kk hc
  simp only [St.setB] at hc
  split at hc
  ·rename_i e1; subst e1; cases hc
   exact .inr ⟨h w G (hs.blk c _ hb), fun c' hc' => by rw [hn] at hc'; cases hc'⟩
  ·exact .inl ⟨hc, fun _ _ _ => rfl⟩
 ·intro c kk β hc hr' hβ
  simp only [St.setB] at hc
  split at hc
  ·rename_i e1; subst e1; exact hs.at_ok _ _ β hb hr hβ
  ·exact hs.at_ok c kk β hc hr' hβ
 ·intro c c' kk kk' β hc hc' hr1 hr2 hβ hβ'
  simp only [St.setB] at hc hc'
  have old : ∀ c kk, (if c = b then some k' else st.bx c) = some kk → kk.real = true → ∃ k0, st.bx c = some k0 ∧ k0.real = true := by
   intro c kk hc hr'
   split at hc
   ·rename_i e1; subst e1; exact ⟨_, hb, hr⟩
   ·exact ⟨kk, hc, hr'⟩
  obtain ⟨k0, q1, q2⟩ := old c kk hc hr1
  obtain ⟨k0', q1', q2'⟩ := old c' kk' hc' hr2
  exact hs.at_inj c c' k0 k0' β q1 q1' q2 q2' hβ hβ'
theorem TR {st : St} (b e : Nat) (cols : List Ow) (rows : List (List T)) (hb : st.bx b = some (.vec e rows)) : He P X st (St.setB st b (.pvec 0 e cols rows)) :=
 Qh b _ _ hb rfl rfl fun _ _ h => ⟨Nat.zero_le _, h.imp id fun ⟨β, cap, arr, el, h0, h1, h2, h3, h4, h5, h6⟩ =>
  ⟨β, cap, arr, el, fun _ _ _ => False, h0, h1, h2, h3, h4, h5, fun i row j t hi hj => by rw [if_neg (by omega)]; exact .s (h6 i row j t hi hj), fun _ _ _ h => h.elim, fun _ _ h => h, fun _ _ _ _ _ h => h.elim⟩⟩
theorem TP {st : St} (b : Nat) {n m e : Nat} {cols : List Ow} {rows : List (List T)} (hb : st.bx b = some (.pvec n e cols rows)) (h : n = m) : He P X st (St.setB st b (.pvec m e cols rows)) :=
 Qh b _ _ hb rfl rfl fun _ _ hk => h ▸ hk
theorem T4 {st : St} (b : Nat) {n e : Nat} {cols : List Ow} {rows : List (List T)} (hb : st.bx b = some (.pvec n e cols rows)) (h : n = rows.length) : He P X st (St.setB st b (.dvec e cols rows)) :=
 Qh b _ _ hb rfl rfl fun _ _ hk => by
  obtain ⟨_, hk⟩ := hk
  refine hk.imp id fun ⟨β, cap, arr, el, Rf, h0, h1, h2, h3, h4, h5, h6, h7⟩ => ⟨β, cap, arr, el, Rf, h0, h1, h2, h3, h4, h5, fun i row j t hi hj => ?_, h7⟩
  have := h6 i row j t hi hj
  rwa [if_pos (by rw [h]; exact AB hi)] at this
section run
variable {dr : Bool} {Q : St → Prop} {r i : Nat} {st : St} {log : List (Nat × DD)} {o : Oper} {gs : List (Operand × D)}
theorem TL {x : Operand} {b n e ix k s : Nat} {cols : List Ow} {rows : List (List T)} {row : List T} {u : T} {t : TypeId} (hat : At st.env ops i X.n (.load t x) s gs)
  (hx : opd st.env x = some (.e (.one (.eptr b e ix k)))) (ht : Gg P t false = true) (hb : st.bx b = some (.pvec n e cols rows)) (hrow : rows[ix]? = some row) (hc : row[k]? = some u) (hn : n ≤ ix)
  (next : Bh P X ops dr Q r (i + 1) (DD.upd ⟨gs ++ [(x, .e (.one (.eptr b e ix k)))], [(b, .pvec n e cols rows)], some s, some (one u), [], []⟩ st) ((i, ⟨gs ++ [(x, .e (.one (.eptr b e ix k)))], [(b, .pvec n e cols rows)], some s, some (one u), [], []⟩) :: log)) : Bh P X ops dr Q (r + 1) i st log := by
 obtain ⟨o, ho, hop, hd, hn', hg, hgp⟩ := hat.out
 refine Bh.step next ⟨Ap.2 ⟨hgp, hx, trivial⟩, ⟨hb, trivial⟩, trivial⟩ (LR.value ho hg rfl hd.symm (DQ hd hn') ?_)
 intro G st a w hs hpre
 have hx := (Ap.1 hpre.r).2.1
 have hb := hpre.b.1
 obtain ⟨β, hβ, hv⟩ : FY P w G (a.eval x) (.eptr b e ix k) := hs.opd hx
 obtain ⟨_, hbk⟩ := hs.blk b _ hb
 obtain ⟨β', cap, arr, el, Rf, h0, h1, h2, h3, h4, h5, h6, h7⟩ := hbk.resolve_left (fun ⟨_, _, h, _⟩ => by rw [h] at hrow; cases hrow)
 rw [hβ] at h0; cases h0
 have hre := h5 ix row hrow
 have hk := AB hc
 have hix := AB hrow
 have hbnd : ix * e + e ≤ arr.size := by rw [h4, ← Nat.succ_mul]; exact Nat.mul_le_mul_right e (Nat.le_trans hix h3)
 have hcell := h6 ix row k u hrow hc
 rw [if_neg (by omega)] at hcell
 refine ⟨Az arr (ix * e + k), w, G, ?_, hs, ?_⟩
 ·simp only [execOp, hop, hv]
  exact Al (JH ht h2 (by omega)) rfl
 ·rintro d ⟨⟩
  cases hcell with
  | s h => exact ⟨h, fun b hb => by cases hb⟩
theorem Rs {x y : Operand} {b c n ix e2 : Nat} {cols cols2 : List Ow} {rows rows2 rows' : List (List T)} {row : List T} {t : TypeId} (hat : Rr ops i = some (.store t x y))
  (hx : opd st.env x = some (.e (.one (.eptr b 1 ix 0)))) (hy : opd st.env y = some (.e (.one (.own c)))) (hb : st.bx b = some (.pvec n 1 cols rows)) (hc : st.bx c = some (inner e2 cols2 rows2)) (hcol : cols.getD 0 .s = .x e2 cols2) (hrow : rows[ix]? = some row) (hixn : n = ix) (hz : Ic P t 1 = true)
  (hbl : BI b = false) (hcl : BI c = false) (hr : rows.set ix (row.set 0 (.sl rows2)) = rows')
  (next : Bh P X ops dr Q r (i + 1) (DD.upd ⟨[(x, .e (.one (.eptr b 1 ix 0))), (y, .e (.one (.own c)))], [(b, .pvec n 1 cols rows), (c, inner e2 cols2 rows2)], none, none, [(b, .pvec (n + 1) 1 cols rows'), (c, .gone)], []⟩ st) ((i, ⟨[(x, .e (.one (.eptr b 1 ix 0))), (y, .e (.one (.own c)))], [(b, .pvec n 1 cols rows), (c, inner e2 cols2 rows2)], none, none, [(b, .pvec (n + 1) 1 cols rows'), (c, .gone)], []⟩) :: log)) : Bh P X ops dr Q (r + 1) i st log := by
 obtain ⟨o, ho, hop, hd, hgn⟩ := MH hat
 have hg : WB ops o [] := .none hgn
 have hcb : c ≠ b := fun e' => by rw [e', hb] at hc; unfold inner at hc; split at hc <;> cases hc
 refine Bh.step next ⟨⟨hx, hy, trivial⟩, ⟨hb, hc, trivial⟩, trivial⟩ (LR.skip (rs := [(x, .e (.one (.eptr b 1 ix 0))), (y, .e (.one (.own c)))]) ho hg rfl hd rfl ?_)
 intro G st a w hs hpre
 obtain ⟨hx, hy, _⟩ := hpre.r
 obtain ⟨hb, hc, _⟩ := hpre.b
 subst hr
 obtain ⟨β, hβ, hv⟩ : FY P w G (a.eval x) (.eptr b 1 ix 0) := hs.opd hx
 obtain ⟨hy1, pp, pn, pq, hy2⟩ : FY P w G (a.eval y) (.own c) := hs.opd hy
 obtain ⟨hnl, hbk⟩ := hs.blk b _ hb
 obtain ⟨β', cap, arr, el, Rf, h0, h1, h2, h3, h4, h5, h6, h7, h8, h9⟩ := hbk.resolve_left (fun ⟨_, _, h, _⟩ => by rw [h] at hrow; cases hrow)
 rw [hβ] at h0; cases h0
 subst hixn
 have hX := NL (hs.blk c _ hc)
 have hatb := hs.at_ok b _ β hb rfl (.inl hβ)
 have hre := h5 n row hrow
 have hix := AB hrow
 have hbnd : n * 1 + 1 ≤ arr.size := by rw [h4, ← Nat.succ_mul]; exact Nat.mul_le_mul_right 1 (Nat.le_trans hix h3)
 have hone : IG (a.eval y) = true := by rw [hy2]; rfl
 have hst := Fa (P := P) (β := β) (el := el) [a.eval y] w (n * 1 + 0) 0 arr h2 (by simp; omega) (fun v hv => by simp at hv; subst hv; exact hone)
 rw [Nat.add_zero] at hst
 let G' : Gh := { G with more := fun d => if d = b then (fun γ => G.more b γ ∨ G.has c γ) else G.more d }
 let arr' := Gp arr (n * 1 + 0) [a.eval y]
 let w' := GI w β (.cells arr' el (0, 0))
 have hover : ∀ j, Az arr' j = if j = n * 1 + 0 then a.eval y else Az arr j := fun j => by
  show Az (Gp arr (n * 1 + 0) [a.eval y]) j = _
  rw [Fj _ _ _ _ (by simp; omega)]
  simp only [List.length_singleton]
  by_cases hj : j = n * 1 + 0
  ·subst hj; rw [if_pos (by omega), if_pos rfl]; simp
  ·rw [if_neg (by omega), if_neg hj]
 have hheap : ∀ γ, γ ≠ β → w'.heap[γ]? = w.heap[γ]? := fun γ hγ => by show (GI w β _).heap[γ]? = _; rw [Em, if_neg (fun h => hγ h.1)]
 have hsz : w'.heap.size = w.heap.size := by show (GI w β _).heap.size = _; simp [GI]
 have hcβ : ∀ γ, G.has c γ → γ ≠ β := fun γ h e' => hcb (hs.at_inj c b _ _ γ hc hb Do rfl h (.inl (e' ▸ hβ)))
 have hbx : ∀ d, Bl st.bx [(b, .pvec (n + 1) 1 cols (rows.set n (row.set 0 (.sl rows2)))), (c, .gone)] d = if d = b then some (.pvec (n + 1) 1 cols (rows.set n (row.set 0 (.sl rows2)))) else if d = c then some .gone else st.bx d := fun d => rfl
 have hasO : ∀ d γ, d ≠ b → (G'.has d γ ↔ G.has d γ) := fun d γ h => by unfold Gh.has; simp only [G', if_neg h]
 have hasB : ∀ γ, G'.has b γ → G.has b γ ∨ G.has c γ := fun γ h => by
  unfold Gh.has at h
  simp only [G', if_true] at h
  rcases h with h | h | h
  ·exact .inl (.inl h)
  ·exact .inl (.inr h)
  ·exact .inr h
 have hix2 : ∀ i0 j0, j0 < 1 → i0 * 1 + j0 = n * 1 + 0 → i0 = n ∧ j0 = 0 := by
  intro i0 j0 hj0 he
  rcases Nat.lt_trichotomy i0 n with h | h | h
  ·have : i0 * 1 + 1 ≤ n * 1 := by rw [← Nat.succ_mul]; exact Nat.mul_le_mul_right 1 h
   omega
  ·subst h; exact ⟨rfl, by omega⟩
  ·have : n * 1 + 1 ≤ i0 * 1 := by rw [← Nat.succ_mul]; exact Nat.mul_le_mul_right 1 h
   omega
 refine ⟨w', G', ?_, ?_⟩
 ·simp only [execOp, hop, hv]
  have hcells : (a.eval y).cells.toList = [a.eval y] := by rw [hy2]; rfl
  refine Al (a := ()) (w1 := w') ?_ rfl
  have := KS (P := P) (n := 1) hz (v := a.eval y) (by rw [hy2]; rfl) h2 (show n * 1 + 0 + 1 ≤ arr.size by omega) (fun u hu => by rw [hcells] at hu; simp at hu; subst hu; exact hone)
  rw [hcells] at this
  exact this
 ·refine hs.frame2 (fun d hd => ?_) (fun _ h => h) (fun _ _ => rfl) (fun _ _ => rfl) (fun γ hγ => hheap γ fun e' => hatb.2.2 (e' ▸ hγ)) ?_ ?_ ?_ (fun γ hγ => by rw [hsz]; exact hs.S_lt γ hγ) hs.S_src (Kx hs.below hatb.1.2 _) (fun d hd => ?_)
  ·rw [hbx]; split
   ·rfl
   ·split
    ·rfl
    ·exact hd
  ·intro d kk hd
   rw [hbx] at hd
   split at hd
   ·rename_i e1; subst e1; cases hd
    refine .inr ⟨⟨by rw [List.length_set]; exact AB hrow, .inr ⟨β, cap, arr', el, fun i0 j0 γ => if i0 = n ∧ j0 = 0 then G.has c γ else Rf i0 j0 γ, hβ, by rw [List.length_set]; exact h1, by show (GI w β _).heap[β]? = _; rw [Em, if_pos ⟨rfl, hatb.2.1⟩], by rw [List.length_set]; exact h3, by show (Gp _ _ _).size = _; rw [GD, h4], ?_, ?_, ?_, ?_, ?_⟩⟩, fun c' hc' => by cases hc'⟩
    ·intro j0 row' hj
     rcases Fr hj with ⟨_, rfl⟩ | ⟨_, hj⟩
     ·rw [List.length_set]; exact hre
     ·exact h5 j0 row' hj
    ·intro i0 row' j0 t0 hi hj
     have hj0 : j0 < 1 := by
      have := AB hj
      rcases Fr hi with ⟨_, rfl⟩ | ⟨_, hi⟩
      ·rw [List.length_set] at this; omega
      ·have := h5 i0 row' hi; omega
     rw [hover]
     by_cases hh : i0 = n ∧ j0 = 0
     ·obtain ⟨rfl, rfl⟩ := hh
      rw [if_pos rfl, hcol]
      have ht0 : t0 = .sl rows2 := by
       rcases Fr hi with ⟨_, rfl⟩ | ⟨hne, _⟩
       ·rcases Fr hj with ⟨_, rfl⟩ | ⟨hne, _⟩
        ·rfl
        ·exact (hne rfl).elim
       ·exact (hne rfl).elim
      subst ht0
      rw [hy1, if_pos (Nat.lt_succ_self _)]
      refine hX.mono (fun γ hγ => hheap γ ?_) (fun _ h => h) (fun γ hγ => by simp only [and_self, if_true]; exact hγ)
      rcases hγ with h | h
      ·exact fun e' => hatb.2.2 (e' ▸ h)
      ·exact hcβ γ h
     ·rw [if_neg (fun h => hh (hix2 i0 j0 hj0 h))]
      have hold : ∃ row0, rows[i0]? = some row0 ∧ row0[j0]? = some t0 := by
       rcases Fr hi with ⟨hii, rfl⟩ | ⟨_, hi⟩
       ·subst hii
        rcases Fr hj with ⟨hjj, _⟩ | ⟨_, hj⟩
        ·exact (hh ⟨rfl, hjj⟩).elim
        ·exact ⟨row, hrow, hj⟩
       ·exact ⟨row', hi, hj⟩
      obtain ⟨row0, q1, q2⟩ := hold
      have hne : i0 ≠ n := fun e' => hh ⟨e', by omega⟩
      have hif : (if i0 < n + 1 then cols.getD j0 .s else .s) = if i0 < n then cols.getD j0 .s else .s := by
       by_cases hl : i0 < n
       ·rw [if_pos hl, if_pos (by omega)]
       ·rw [if_neg hl, if_neg (by omega)]
      rw [hif]
      refine (h6 i0 row0 j0 t0 q1 q2).mono (fun γ hγ => hheap γ ?_) (fun _ h => h) (fun γ hγ => by simp only [if_neg hh]; exact hγ)
      rcases hγ with h | h
      ·exact fun e' => hatb.2.2 (e' ▸ h)
      ·exact fun e' => h8 i0 j0 (e' ▸ h)
    ·intro i0 j0 γ hγ
     simp only [G', if_true]
     split at hγ
     ·exact .inr hγ
     ·exact .inl (h7 i0 j0 γ hγ)
    ·intro i0 j0 hγ
     split at hγ
     ·exact hcβ β hγ rfl
     ·exact h8 i0 j0 hγ
    ·intro i0 j0 i1 j1 γ hγ hγ'
     have cross : ∀ i j, Rf i j γ → G.has c γ → False := fun i j hr hh => hcb (hs.at_inj c d _ _ γ hc hb Do rfl hh (.inr (h7 i j γ hr)))
     split at hγ <;> split at hγ'
     ·rename_i q q'; exact ⟨q.1.trans q'.1.symm, q.2.trans q'.2.symm⟩
     ·exact (cross _ _ hγ' hγ).elim
     ·exact (cross _ _ hγ hγ').elim
     ·exact h9 i0 j0 i1 j1 γ hγ hγ'
   ·rename_i e1
    split at hd
    ·cases hd; exact .inr ⟨trivial, fun c' hc' => by cases hc'⟩
    ·rename_i e2'
     refine .inl ⟨hd, by simp only [G', if_neg e1], fun γ hr hγ => hheap γ fun e' => e1 (hs.at_inj d b kk _ γ hd hb hr rfl hγ (.inl (e' ▸ hβ)))⟩
  ·intro d kk γ hd hr hγ
   rw [hbx] at hd
   rw [hsz]
   split at hd
   ·rename_i e1; subst e1
    rcases hasB γ hγ with h | h
    ·exact hs.at_ok d _ γ hb rfl h
    ·have := hs.at_ok c _ γ hc Do h
     exact ⟨.new (this.1.1 hcl), this.2⟩
   ·rename_i e1
    split at hd
    ·cases hd; cases hr
    ·exact hs.at_ok d kk γ hd hr ((hasO d γ e1).1 hγ)
  ·intro d d' kk kk' γ hd hd' hr hr' hγ hγ'
   rw [hbx] at hd hd'
   have cl : ∀ d kk, (if d = b then some (BL.pvec (n + 1) 1 cols (rows.set n (row.set 0 (.sl rows2)))) else if d = c then some .gone else st.bx d) = some kk → kk.real = true → G'.has d γ → (d = b ∧ (G.has b γ ∨ G.has c γ)) ∨ (d ≠ b ∧ d ≠ c ∧ st.bx d = some kk ∧ G.has d γ) := by
    intro d kk hd hr hγ
    split at hd
    ·rename_i e1; subst e1; exact .inl ⟨rfl, hasB γ hγ⟩
    ·rename_i e1
     split at hd
     ·cases hd; cases hr
     ·rename_i e2'; exact .inr ⟨e1, e2', hd, (hasO d γ e1).1 hγ⟩
   rcases cl d kk hd hr hγ with ⟨q1, q2⟩ | ⟨q1, q2, q3, q4⟩ <;> rcases cl d' kk' hd' hr' hγ' with ⟨q1', q2'⟩ | ⟨q1', q2', q3', q4'⟩
   ·rw [q1, q1']
   ·rcases q2 with h | h
    ·exact (q1' (hs.at_inj d' b _ _ γ q3' hb hr' rfl q4' h)).elim
    ·exact (q2' (hs.at_inj d' c _ _ γ q3' hc hr' Do q4' h)).elim
   ·rcases q2' with h | h
    ·exact (q1 (hs.at_inj d b _ _ γ q3 hb hr rfl q4 h)).elim
    ·exact (q2 (hs.at_inj d c _ _ γ q3 hc hr Do q4 h)).elim
   ·exact hs.at_inj d d' kk kk' γ q3 q3' hr hr' q4 q4'
  ·have e1 : d ≠ b := fun e' => by rw [e', hbl] at hd; cases hd
   refine ⟨rfl, rfl, ?_⟩
   simp only [G', if_neg e1]
end run
theorem ZS {α : Type} {f : α → List T} {xs : List α} {b e len : Nat} {bs : List (Nat × BL)} {l l' : List D} (h : 0 + len ≤ xs.length) (hb : lent bs b = some (xs.map f)) (h2 : l.map (fun d => (d.lend bs).nrm) = l') :
  (D.e (.one (.view b e 0 len)) :: l).map (fun d => (d.lend bs).nrm) = .e (.one (.pure (.sl ((xs.take len).map f)))) :: l' := by
 rw [List.map_cons, h2, VI h bs hb]; rfl
theorem ZL {d : D} {bs : List (Nat × BL)} {l l' : List D} (h2 : l.map (fun d => (d.lend bs).nrm) = l') : (d :: l).map (fun d => (d.lend bs).nrm) = (d.lend bs).nrm :: l' := by
 rw [List.map_cons, h2]
end Go.Lift
namespace Go.Lift
open Go.RowKit
variable {P : Program} {X : KA}
theorem Ba {α : Type} {c : Operand} {x y : Code} {Q : Exit → St → Prop} {st : St} {b : Bool} {e1 e2 : Option α} {v : α} (h : AW b e1 e2 = some v) (hc : opd st.env c = some (bD b)) (ht : e1 = some v → W P X x Q st) (hf : e2 = some v → W P X y Q st) : W P X (.cond c x y) Q st :=
 aX hc (fun k => ht (ay k h)) (fun k => hf (ap k h))
theorem E7 {ops : Array Oper} {dr : Bool} {Q : St → Prop} {r i : Nat} {st : St} {log : List (Nat × DD)} {α : Type} {b : Bool} {e1 e2 : Option α} {v : α} (t : Nat) (h : AW b e1 e2 = some v) (hx : st.env t = some (bD b)) (h1 : e1 = some v → Bh P X ops dr Q r i (St.put st (some t) (some (bD true))) log) (h2 : e2 = some v → Bh P X ops dr Q r i (St.put st (some t) (some (bD false))) log) : Bh P X ops dr Q r i st log :=
 YN hx (fun k => h1 (ay k h)) (fun k => h2 (ap k h))
theorem sn {V R : Type} {J : V → Option R} {r : R} {S : V → St} {s : St} {v : V} {el : List (Nat × D)} {bl : List (Nat × BL)} (l : List (Nat × Nat)) (h : J v = some r) (e : S v = mk el bl := by exact rfl) (h1 : (dj s.env el, cK (rn l) s.bx bl) = (da (rn l) el, df (rn l) bl) := by exact rfl) (h2 : ((JL ((GV bl).map (rn l)) && OP (rn l) (GV bl)) && (Rz (GV bl) el && RO (GV bl) bl)) = true := by exact rfl) : ∃ v, J v = some r ∧ He P X s (S v) :=
 ⟨v, h, e ▸ sm l el bl h1 h2⟩
theorem Ar {y : Code} {id : Nat} {ops : Array Oper} {dr : Bool} {Q : Exit → St → Prop} {st : St} {n : Nat} (hm : P.follows .mixedOrders = true) (hn : ops.size = n)
  (h : Bh P X ops dr (fun st' => W P X y Q st') n 0 st []) : W P X (.seq (.region id ops dr) y) Q st :=
 Ao (Ai hm hn h)
theorem Bb {G : Prop} {α β : Type} {xs : List α} {i : Int} {f : α → Option β} {r : β} (h : (A5 xs i).bind f = some r) (k : ∀ x, 0 ≤ i → xs[i.toNat]? = some x → f x = some r → G) : G := by
 obtain ⟨x, a, b, c⟩ := Yq h
 exact k x a b c
theorem BR {G : Prop} {α β : Type} {x : Option α} {f : α → Option β} {r : β} (h : x.bind f = some r) (k : ∀ a, x = some a → f a = some r → G) : G := by
 obtain ⟨a, b, c⟩ := bind_some h
 exact k a b c
theorem GA {G : Prop} {β : Type} {p : Prop} [Decidable p] {f : Unit → Option β} {r : β} (h : (Eh p).bind f = some r) (k : p → f () = some r → G) : G := k (F9 h).1 (F9 h).2
section
variable {ops : Array Oper} {dr : Bool} {Q : St → Prop} {r i : Nat} {st : St} {log : List (Nat × DD)} {gs : List (Operand × D)}
theorem qe {x : Operand} {d : D} {s : Nat} (h : (hd st.env ops i X.n, opd st.env x) = (some (.assign x, s, gs), some d)) (k : Q (DD.upd ⟨gs ++ [(x, d)], [], some s, some d, [], []⟩ st)) : Bh P X ops false Q (0 + 1) i st log :=
 qa h (Ae k)
end
end Go.Lift
namespace Go.Lift
def Av (n : Int) : List T := [.val (.int .i64 n)]
def ER (n : Int) : List T := [.val (.int .u8 n)]
def ey (n : Int) : List T := [.val (.int .u16 n)]
abbrev Dc (n : Int) : T := .val (.int .i64 n)
abbrev tB (b : Bool) : T := .val (.bool b)
def eB (b : Bool) : List T := [.val (.bool b)]
def FX {α : Type} (f : α → List T) (xs : List α) : List T := [.sl (xs.map f)]
theorem Te : Yg Av := ⟨by intro x y h; simpa [Av] using h⟩
theorem cq : Yg ER := ⟨by intro x y h; simpa [ER] using h⟩
theorem dS : Yg eB := ⟨by intro x y h; simpa [eB] using h⟩
theorem dJ {α : Type} {f : α → List T} (h : Yg f) : Yg (FX f) := ⟨by intro x y hx; simp only [FX, List.cons.injEq, T.sl.injEq, and_true] at hx; exact MO h.inj _ _ hx⟩
structure Iw where
 ff : Int
 fg : Int
 fk : Int
 fp : Bool
 fB : Int
 fC : Int
def H0 (x : Iw) : List T := [.val (.int .u8 x.ff), .val (.int .u8 x.fg), .val (.int .u8 x.fk), .val (.bool x.fp), .val (.int .u16 x.fB), .val (.int .u16 x.fC)]
structure B1 where
 fc : List Int
 fh : List Int
 fm : List Int
 fA : List Iw
def NS (x : B1) : List T := [.sl (x.fc.map ER), .sl (x.fh.map ER), .sl (x.fm.map ER), .sl (x.fA.map H0)]
structure Aq where
 ff : Int
 fg : Int
 fk : Int
 fp : Bool
 fi : List (List Bool)
 fo : List (List Bool)
def AL (x : Aq) : List T := [.val (.int .i64 x.ff), .val (.int .i64 x.fg), .val (.int .i64 x.fk), .val (.bool x.fp), .sl (x.fi.map (FX eB)), .sl (x.fo.map (FX eB))]
structure Ad where
 fc : List Int
 fh : List Int
 fm : List Int
 fb : List Aq
structure Aa where
 fw : Int
 fv : Int
 fu : Int
def Ab (x : Aa) : List T := [.val (.int .i64 x.fw), .val (.int .i64 x.fv), .val (.int .i64 x.fu)]
theorem A3 : Yg Ab := ⟨by
 rintro ⟨a1, a2, a3⟩ ⟨b1, b2, b3⟩ h
 simp only [Ab, List.cons.injEq, T.val.injEq, Value.int.injEq, and_true, true_and] at h
 obtain ⟨h1, h2, h3⟩ := h
 subst h1
 subst h2
 subst h3
 rfl⟩
structure Ag where
 fd : List Int
 fa : List Int
 fe : List Int
def F0 (x : Ag) : List T := [.sl (x.fd.map Av), .sl (x.fa.map Av), .sl (x.fe.map ER)]
structure Ah where
 ff : Int
 fj : Int
 fr : Int
def AN (x : Ah) : List T := [.val (.int .i64 x.ff), .val (.int .i64 x.fj), .val (.int .i64 x.fr)]
theorem PU : Yg AN := ⟨by
 rintro ⟨a1, a2, a3⟩ ⟨b1, b2, b3⟩ h
 simp only [AN, List.cons.injEq, T.val.injEq, Value.int.injEq, and_true, true_and] at h
 obtain ⟨h1, h2, h3⟩ := h
 subst h1
 subst h2
 subst h3
 rfl⟩
structure AM where
 fy : Ag
 fD : Int
 ft : Ah
def CZ (x : AM) : List T := [.sl (x.fy.fd.map Av), .sl (x.fy.fa.map Av), .sl (x.fy.fe.map ER), .val (.int .i64 x.fD), .val (.int .i64 x.ft.ff), .val (.int .i64 x.ft.fj), .val (.int .i64 x.ft.fr)]
structure AG where
 fq : Ag
 fg : Int
 ft : Ah
 fa : List Int
def Bs (x : AG) : List T := [.sl (x.fq.fd.map Av), .sl (x.fq.fa.map Av), .sl (x.fq.fe.map ER), .val (.int .i64 x.fg), .val (.int .i64 x.ft.ff), .val (.int .i64 x.ft.fj), .val (.int .i64 x.ft.fr), .sl (x.fa.map Av)]
theorem Uq : Yg Bs := ⟨by
 rintro ⟨⟨a1, a2, a3⟩, a4, ⟨a5, a6, a7⟩, a8⟩ ⟨⟨b1, b2, b3⟩, b4, ⟨b5, b6, b7⟩, b8⟩ h
 simp only [Bs, List.cons.injEq, T.val.injEq, T.sl.injEq, Value.int.injEq, and_true, true_and] at h
 obtain ⟨h1, h2, h3, h4, h5, h6, h7, h8⟩ := h
 have h1 := MO Te.inj _ _ h1
 subst h1
 have h2 := MO Te.inj _ _ h2
 subst h2
 have h3 := MO cq.inj _ _ h3
 subst h3
 subst h4
 subst h5
 subst h6
 subst h7
 have h8 := MO Te.inj _ _ h8
 subst h8
 rfl⟩
open IntKind renaming wrap → wI
def Fg (_ : Nat) (p0 : List Int) (p1 : Int) : Option Int :=
 AW ((decide (p1 < (p0.length : Int))))
  ((A5 p0 p1).bind fun v2 =>
  some ((wI .i64 v2)))
  (some 0)
def Bg (_ : Nat) (p0 : Aq) : Option Bool :=
 Bd (fun (v1 : Bool) =>
  some v1)
 fun j1 =>
 AW ((p0.ff == 3))
  (j1 true)
  (j1 (p0.ff == 4))
def C8 (N : Nat) (p1 : Int) (p2 : Int) (p3 : Bool) (v1 : (List (List Bool)) × Int) (j4 : ((List Bool)) → Option ((List (List Bool)))) : Nat → ((List Bool) × Int) → Option ((List (List Bool)))
 | 0, _ => none
 | n4 + 1, v4 =>
  AW ((decide (v4.2 < p1)))
   (Bd (fun (v7 : (List Bool)) =>
    C8 N p1 p2 p3 v1 j4 n4 (v7, (wI .i64 (v4.2 + 1))))
   fun j7 =>
   AW p3
    (AW ((v1.2 == v4.2))
     ((Eh (v4.1.length + (([true] : List Bool)).length ≤ DP)).bind fun _ =>
     j7 (v4.1 ++ (([true] : List Bool))))
     ((Eh (0 ≤ (wI .i64 ((wI .i64 (3 * v1.2)) + v4.2)))).bind fun _ =>
     (Eh (v4.1.length + (([((Int.tmod ((FA .u16 p2 ((wI .i64 ((wI .i64 (3 * v1.2)) + v4.2))))) 2) == 0)] : List Bool)).length ≤ DP)).bind fun _ =>
     j7 (v4.1 ++ (([((Int.tmod ((FA .u16 p2 ((wI .i64 ((wI .i64 (3 * v1.2)) + v4.2))))) 2) == 0)] : List Bool)))))
    ((Eh (0 ≤ (wI .i64 ((wI .i64 (3 * v1.2)) + v4.2)))).bind fun _ =>
    (Eh (v4.1.length + (([((Int.tmod ((FA .u16 p2 ((wI .i64 ((wI .i64 (3 * v1.2)) + v4.2))))) 2) == 0)] : List Bool)).length ≤ DP)).bind fun _ =>
    j7 (v4.1 ++ (([((Int.tmod ((FA .u16 p2 ((wI .i64 ((wI .i64 (3 * v1.2)) + v4.2))))) 2) == 0)] : List Bool)))))
   (j4 v4.1)
def C4 (N : Nat) (p0 : Int) (p1 : Int) (p2 : Int) (p3 : Bool) (j1 : ((List (List Bool))) → Option ((List (List Bool)))) : Nat → ((List (List Bool)) × Int) → Option ((List (List Bool)))
 | 0, _ => none
 | n1 + 1, v1 =>
  AW ((decide (v1.2 < p0)))
   (C8 N p1 p2 p3 v1 (fun (v5 : (List Bool)) =>
    (Eh (v1.1.length + (([v5] : List (List Bool))).length ≤ DP)).bind fun _ =>
    C4 N p0 p1 p2 p3 j1 n1 (v1.1 ++ (([v5] : List (List Bool))), (wI .i64 (v1.2 + 1)))) N (([] : List Bool), 0))
   (j1 v1.1)
def Fi (N : Nat) (p0 : Int) (p1 : Int) (p2 : Int) (p3 : Bool) : Option ((List (List Bool))) :=
 C4 N p0 p1 p2 p3 (fun (v2 : (List (List Bool))) =>
  some v2) N (([] : List (List Bool)), 0)
def DE (N : Nat) (p0 : B1) (j4 : ((List Int) × (List Int) × (List Int)) → Option (Ad × Bool)) : Nat → ((List Int) × (List Int) × (List Int) × Int) → Option (Ad × Bool)
 | 0, _ => none
 | n4 + 1, v4 =>
  AW ((decide (v4.2.2.2 < (p0.fc.length : Int))))
   ((A5 p0.fc v4.2.2.2).bind fun v7 =>
   (Eh (v4.1.length + (([(wI .i64 (1 + (wI .i64 ((Int.tmod v7 3)))))] : List Int)).length ≤ DP)).bind fun _ =>
   (Fg N p0.fh v4.2.2.2).bind fun v9 =>
   (Eh ((wI .i64 (1 + (wI .i64 ((Int.tmod v7 3))))) ≠ 0)).bind fun _ =>
   (Eh (v4.2.1.length + (([(Int.tmod v9 ((wI .i64 (1 + (wI .i64 ((Int.tmod v7 3)))))))] : List Int)).length ≤ DP)).bind fun _ =>
   (Fg N p0.fm v4.2.2.2).bind fun v12 =>
   (Eh ((wI .i64 (1 + (wI .i64 ((Int.tmod v7 3))))) ≠ 0)).bind fun _ =>
   (Eh (v4.2.2.1.length + (([(Int.tmod v12 ((wI .i64 (1 + (wI .i64 ((Int.tmod v7 3)))))))] : List Int)).length ≤ DP)).bind fun _ =>
   DE N p0 j4 n4 (v4.1 ++ (([(wI .i64 (1 + (wI .i64 ((Int.tmod v7 3)))))] : List Int)), v4.2.1 ++ (([(Int.tmod v9 ((wI .i64 (1 + (wI .i64 ((Int.tmod v7 3)))))))] : List Int)), v4.2.2.1 ++ (([(Int.tmod v12 ((wI .i64 (1 + (wI .i64 ((Int.tmod v7 3)))))))] : List Int)), (wI .i64 (v4.2.2.2 + 1))))
   (j4 (v4.1, v4.2.1, v4.2.2.1))
def BT (N : Nat) (p0 : B1) (v5 : (List Int) × (List Int) × (List Int)) (j15 : ((List Aq)) → Option (Ad × Bool)) : Nat → ((List Aq) × Int) → Option (Ad × Bool)
 | 0, _ => none
 | n15 + 1, v15 =>
  Bd (fun (v17 : Bool) =>
   AW v17
    ((A5 p0.fA v15.2).bind fun v20 =>
    (Eh ((v5.1.length : Int) ≠ 0)).bind fun _ =>
    (Eh ((v5.1.length : Int) ≠ 0)).bind fun _ =>
    Bd (fun (v23 : Bool) =>
     (A5 v5.1 ((Int.tmod ((wI .i64 v20.fg)) ((v5.1.length : Int))))).bind fun v26 =>
     (A5 v5.1 ((Int.tmod ((wI .i64 v20.fk)) ((v5.1.length : Int))))).bind fun v27 =>
     (Fi N v26 v27 v20.fB false).bind fun v28 =>
     Bd (fun (v29 : (List (List Bool))) =>
      (Eh (v15.1.length + (([(Aq.mk ((wI .i64 (1 + (wI .i64 ((Int.tmod v20.ff 4)))))) ((Int.tmod ((wI .i64 v20.fg)) ((v5.1.length : Int)))) ((Int.tmod ((wI .i64 v20.fk)) ((v5.1.length : Int)))) v23 v28 v29)] : List Aq)).length ≤ DP)).bind fun _ =>
      BT N p0 v5 j15 n15 (v15.1 ++ (([(Aq.mk ((wI .i64 (1 + (wI .i64 ((Int.tmod v20.ff 4)))))) ((Int.tmod ((wI .i64 v20.fg)) ((v5.1.length : Int)))) ((Int.tmod ((wI .i64 v20.fk)) ((v5.1.length : Int)))) v23 v28 v29)] : List Aq)), (wI .i64 (v15.2 + 1))))
     fun j29 =>
     AW (((wI .i64 (1 + (wI .i64 ((Int.tmod v20.ff 4))))) == 4))
      ((A5 v5.1 ((Int.tmod ((wI .i64 v20.fg)) ((v5.1.length : Int))))).bind fun v31 =>
      (A5 v5.1 ((Int.tmod ((wI .i64 v20.fg)) ((v5.1.length : Int))))).bind fun v32 =>
      (Fi N v31 v32 v20.fC true).bind fun v33 =>
      j29 v33)
      (j29 ([] : List (List Bool))))
    fun j23 =>
    AW v20.fp
     ((Bg N ((Aq.mk ((wI .i64 (1 + (wI .i64 ((Int.tmod v20.ff 4)))))) ((Int.tmod ((wI .i64 v20.fg)) ((v5.1.length : Int)))) ((Int.tmod ((wI .i64 v20.fk)) ((v5.1.length : Int)))) false (([] : List (List Bool))) (([] : List (List Bool)))))).bind fun v25 =>
     j23 (!v25))
     (j23 false))
    (j15 v15.1))
  fun j17 =>
  AW ((decide (v15.2 < (p0.fA.length : Int))))
   (j17 (decide (0 < (v5.1.length : Int))))
   (j17 false)
def GG (N : Nat) (p0 : B1) : Option (Ad × Bool) :=
 Bd (fun (v1 : Bool) =>
  AW v1
   (some ((Ad.mk (([] : List Int)) (([] : List Int)) (([] : List Int)) (([] : List Aq))), false))
   (DE N p0 (fun (v5 : (List Int) × (List Int) × (List Int)) =>
    BT N p0 v5 (fun (v16 : (List Aq)) =>
     some ((Ad.mk v5.1 v5.2.1 v5.2.2 v16), true)) N (([] : List Aq), 0)) N (([] : List Int), ([] : List Int), ([] : List Int), 0)))
 fun j1 =>
 AW ((decide (3 < (p0.fc.length : Int))))
  (j1 true)
  (j1 (decide (4 < (p0.fA.length : Int))))
def CY (N : Nat) (p0 : Ad) (v1 : (List Aa) × Int) (v4 : (List Aa) × Int) (j8 : ((List Aa)) → Option ((List Aa))) : Nat → ((List Aa) × Int) → Option ((List Aa))
 | 0, _ => none
 | n8 + 1, v8 =>
  (A5 p0.fb v1.2).bind fun v10 =>
  (A5 v10.fi v4.2).bind fun v11 =>
  AW ((decide (v8.2 < (v11.length : Int))))
   (Bd (fun (v13 : (List Aa)) =>
    CY N p0 v1 v4 j8 n8 (v13, (wI .i64 (v8.2 + 1))))
   fun j13 =>
   (A5 p0.fb v1.2).bind fun v14 =>
   (A5 v14.fi v4.2).bind fun v15 =>
   (A5 v15 v8.2).bind fun v16 =>
   AW ((!v16))
    ((Eh (v8.1.length + (([(Aa.mk v1.2 v4.2 v8.2)] : List Aa)).length ≤ DP)).bind fun _ =>
    j13 (v8.1 ++ (([(Aa.mk v1.2 v4.2 v8.2)] : List Aa))))
    (j13 v8.1))
   (j8 v8.1)
def Cj (N : Nat) (p0 : Ad) (v1 : (List Aa) × Int) (j4 : ((List Aa)) → Option ((List Aa))) : Nat → ((List Aa) × Int) → Option ((List Aa))
 | 0, _ => none
 | n4 + 1, v4 =>
  (A5 p0.fb v1.2).bind fun v6 =>
  AW ((decide (v4.2 < (v6.fi.length : Int))))
   (CY N p0 v1 v4 (fun (v9 : (List Aa)) =>
    Cj N p0 v1 j4 n4 (v9, (wI .i64 (v4.2 + 1)))) N (v4.1, 0))
   (j4 v4.1)
def BQ (N : Nat) (p0 : Ad) (j1 : ((List Aa)) → Option ((List Aa))) : Nat → ((List Aa) × Int) → Option ((List Aa))
 | 0, _ => none
 | n1 + 1, v1 =>
  AW ((decide (v1.2 < (p0.fb.length : Int))))
   (Cj N p0 v1 (fun (v5 : (List Aa)) =>
    BQ N p0 j1 n1 (v5, (wI .i64 (v1.2 + 1)))) N (v1.1, 0))
   (j1 v1.1)
def DK (N : Nat) (p0 : Ad) : Option ((List Aa)) :=
 BQ N p0 (fun (v2 : (List Aa)) =>
  some v2) N (([] : List Aa), 0)
def ES (N : Nat) (p0 : List Aa) (p1 : Aa) (j1 : Unit → Option Bool) : Nat → Int → Option Bool
 | 0, _ => none
 | n1 + 1, v1 =>
  AW ((decide (v1 < (p0.length : Int))))
   ((A5 p0 v1).bind fun v4 =>
   AW (((v4.fw == p1.fw) && ((v4.fv == p1.fv) && ((v4.fu == p1.fu) && true))))
    (some true)
    (ES N p0 p1 j1 n1 (wI .i64 (v1 + 1))))
   (j1 ())
def FZ (N : Nat) (p0 : List Aa) (p1 : Aa) : Option Bool :=
 ES N p0 p1 (fun (_ : Unit) =>
  some false) N 0
def CQ (N : Nat) (p1 : List Aa) (v4 : (List Aq) × Int) (v8 : (List (List Bool)) × Int) (j15 : ((List Bool)) → Option Ad) : Nat → ((List Bool) × Int) → Option Ad
 | 0, _ => none
 | n15 + 1, v15 =>
  AW ((decide (v15.2 < (v15.1.length : Int))))
   (Bd (fun (v18 : (List Bool)) =>
    CQ N p1 v4 v8 j15 n15 (v18, (wI .i64 (v15.2 + 1))))
   fun j18 =>
   (A5 v15.1 v15.2).bind fun v19 =>
   AW v19
    ((A5 v15.1 v15.2).bind fun _ =>
    j18 (v15.1.set ((v15.2).toNat) true))
    ((FZ N p1 ((Aa.mk v4.2 v8.2 v15.2))).bind fun v22 =>
    (A5 v15.1 v15.2).bind fun _ =>
    j18 (v15.1.set ((v15.2).toNat) v22)))
   (j15 v15.1)
def DM (N : Nat) (p0 : Ad) (p1 : List Aa) (v4 : (List Aq) × Int) (j8 : ((List (List Bool))) → Option Ad) : Nat → ((List (List Bool)) × Int) → Option Ad
 | 0, _ => none
 | n8 + 1, v8 =>
  (A5 p0.fb v4.2).bind fun v10 =>
  AW ((decide (v8.2 < (v10.fi.length : Int))))
   ((A5 p0.fb v4.2).bind fun v12 =>
   (A5 v12.fi v8.2).bind fun v13 =>
   (Eh ((([] : List Bool)).length + v13.length ≤ DP)).bind fun _ =>
   CQ N p1 v4 v8 (fun (v16 : (List Bool)) =>
    (Eh (v8.1.length + (([v16] : List (List Bool))).length ≤ DP)).bind fun _ =>
    DM N p0 p1 v4 j8 n8 (v8.1 ++ (([v16] : List (List Bool))), (wI .i64 (v8.2 + 1)))) N ((([] : List Bool)) ++ v13, 0))
   (j8 v8.1)
def CU (N : Nat) (p0 : Ad) (v4 : (List Aq) × Int) (j25 : ((List (List Bool))) → Option Ad) : Nat → ((List (List Bool)) × Int) → Option Ad
 | 0, _ => none
 | n25 + 1, v25 =>
  (A5 p0.fb v4.2).bind fun v27 =>
  AW ((decide (v25.2 < (v27.fo.length : Int))))
   ((A5 p0.fb v4.2).bind fun v29 =>
   (A5 v29.fo v25.2).bind fun v30 =>
   (Eh ((([] : List Bool)).length + v30.length ≤ DP)).bind fun _ =>
   (Eh (v25.1.length + (([(([] : List Bool)) ++ v30] : List (List Bool))).length ≤ DP)).bind fun _ =>
   CU N p0 v4 j25 n25 (v25.1 ++ (([(([] : List Bool)) ++ v30] : List (List Bool))), (wI .i64 (v25.2 + 1))))
   (j25 v25.1)
def Cv (N : Nat) (p0 : Ad) (p1 : List Aa) (j4 : ((List Aq)) → Option Ad) : Nat → ((List Aq) × Int) → Option Ad
 | 0, _ => none
 | n4 + 1, v4 =>
  AW ((decide (v4.2 < (p0.fb.length : Int))))
   ((A5 p0.fb v4.2).bind fun v7 =>
   DM N p0 p1 v4 (fun (v9 : (List (List Bool))) =>
    CU N p0 v4 (fun (v26 : (List (List Bool))) =>
     (Eh (v4.1.length + (([(Aq.mk v7.ff v7.fg v7.fk v7.fp v9 v26)] : List Aq)).length ≤ DP)).bind fun _ =>
     Cv N p0 p1 j4 n4 (v4.1 ++ (([(Aq.mk v7.ff v7.fg v7.fk v7.fp v9 v26)] : List Aq)), (wI .i64 (v4.2 + 1)))) N (([] : List (List Bool)), 0)) N (([] : List (List Bool)), 0))
   (j4 v4.1)
def Ev (N : Nat) (p0 : Ad) (p1 : List Aa) : Option Ad :=
 (Eh ((([] : List Int)).length + p0.fc.length ≤ DP)).bind fun _ =>
 (Eh ((([] : List Int)).length + p0.fh.length ≤ DP)).bind fun _ =>
 (Eh ((([] : List Int)).length + p0.fm.length ≤ DP)).bind fun _ =>
 Cv N p0 p1 (fun (v5 : (List Aq)) =>
  some ((Ad.mk ((([] : List Int)) ++ p0.fc) ((([] : List Int)) ++ p0.fh) ((([] : List Int)) ++ p0.fm) v5))) N (([] : List Aq), 0)
def Dd (N : Nat) (p0 : List (List Bool)) (p1 : Int) (p2 : Int) (j2 : Unit → Option Bool) : Nat → Int → Option Bool
 | 0, _ => none
 | n2 + 1, v2 =>
  AW ((decide (v2 < p1)))
   ((A5 p0 v2).bind fun v5 =>
   AW (((v5.length : Int) != p2))
    (some false)
    (Dd N p0 p1 p2 j2 n2 (wI .i64 (v2 + 1))))
   (j2 ())
def EI (N : Nat) (p0 : List (List Bool)) (p1 : Int) (p2 : Int) : Option Bool :=
 AW (((p0.length : Int) != p1))
  (some false)
  (Dd N p0 p1 p2 (fun (_ : Unit) =>
   some true) N 0)
def CA (N : Nat) (p1 : Aq) (j22 : Unit → Option Int) : Nat → Int → Option Int
 | 0, _ => none
 | n22 + 1, v22 =>
  AW ((decide (v22 < (p1.fo.length : Int))))
   ((A5 p1.fo v22).bind fun v25 =>
   (A5 v25 v22).bind fun v26 =>
   AW ((!v26))
    (some 1)
    (CA N p1 j22 n22 (wI .i64 (v22 + 1))))
   (j22 ())
def FO (N : Nat) (p0 : Ad) (p1 : Aq) : Option Int :=
 Bd (fun (v1 : Bool) =>
  AW v1
   (some 1)
   (Bd (fun (v7 : Bool) =>
    AW v7
     (some 4)
     ((A5 p0.fc p1.fg).bind fun v12 =>
     (A5 p0.fc p1.fk).bind fun v13 =>
     (EI N p1.fi v12 v13).bind fun v14 =>
     AW ((!v14))
      (some 6)
      (AW ((p1.ff != 4))
       (AW (((p1.fo.length : Int) != 0))
        (some 6)
        (some 0))
       ((A5 p0.fc p1.fg).bind fun v18 =>
       (A5 p0.fc p1.fg).bind fun v19 =>
       (EI N p1.fo v18 v19).bind fun v20 =>
       AW ((!v20))
        (some 6)
        (CA N p1 (fun (_ : Unit) =>
         some 0) N 0)))))
   fun j7 =>
   AW ((decide (p1.fg < 0)))
    (j7 true)
    (AW ((decide ((p0.fc.length : Int) ≤ p1.fg)))
     (j7 true)
     (AW ((decide (p1.fk < 0)))
      (j7 true)
      (j7 (decide ((p0.fc.length : Int) ≤ p1.fk)))))))
 fun j1 =>
 AW ((decide (p1.ff < 1)))
  (j1 true)
  (AW ((decide (4 < p1.ff)))
   (j1 true)
   (AW p1.fp
    ((Bg N p1).bind fun v5 =>
    j1 v5)
    (j1 false)))
def BC (N : Nat) (p0 : Ad) (j7 : Unit → Option Int) : Nat → Int → Option Int
 | 0, _ => none
 | n7 + 1, v7 =>
  AW ((decide (v7 < (p0.fc.length : Int))))
   ((A5 p0.fc v7).bind fun v10 =>
   Bd (fun (v11 : Bool) =>
    AW v11
     (some 7)
     (BC N p0 j7 n7 (wI .i64 (v7 + 1))))
   fun j11 =>
   AW ((decide (v10 < 1)))
    (j11 true)
    (AW ((decide (6 < v10)))
     (j11 true)
     ((A5 p0.fh v7).bind fun v14 =>
     AW ((decide (v14 < 0)))
      (j11 true)
      ((A5 p0.fh v7).bind fun v16 =>
      AW ((decide (v10 ≤ v16)))
       (j11 true)
       ((A5 p0.fm v7).bind fun v18 =>
       AW ((decide (v18 < 0)))
        (j11 true)
        ((A5 p0.fm v7).bind fun v20 =>
        j11 (decide (v10 ≤ v20))))))))
   (j7 ())
def Bp (N : Nat) (p0 : Ad) (j22 : Unit → Option Int) : Nat → Int → Option Int
 | 0, _ => none
 | n22 + 1, v22 =>
  AW ((decide (v22 < (p0.fb.length : Int))))
   ((A5 p0.fb v22).bind fun v25 =>
   (FO N p0 v25).bind fun v26 =>
   AW ((v26 != 0))
    (some v26)
    (Bp N p0 j22 n22 (wI .i64 (v22 + 1))))
   (j22 ())
def BY (N : Nat) (p0 : Ad) : Option Int :=
 Bd (fun (v1 : Bool) =>
  AW v1
   (some 3)
   (Bd (fun (v4 : Bool) =>
    AW v4
     (some 6)
     (BC N p0 (fun (_ : Unit) =>
      Bp N p0 (fun (_ : Unit) =>
       some 0) N 0) N 0))
   fun j4 =>
   AW (((p0.fh.length : Int) != (p0.fc.length : Int)))
    (j4 true)
    (j4 ((p0.fm.length : Int) != (p0.fc.length : Int)))))
 fun j1 =>
 AW ((decide (6 < (p0.fc.length : Int))))
  (j1 true)
  (j1 (decide (12 < (p0.fb.length : Int))))
def CT (N : Nat) (p0 : Ad) (j3 : ((List Int) × (List Int)) → Option (Ag × Int)) : Nat → ((List Int) × (List Int) × Int) → Option (Ag × Int)
 | 0, _ => none
 | n3 + 1, v3 =>
  AW ((decide (v3.2.2 < (p0.fc.length : Int))))
   ((A5 p0.fh v3.2.2).bind fun v6 =>
   (Eh (v3.1.length + (([v6] : List Int)).length ≤ DP)).bind fun _ =>
   (Eh (v3.2.1.length + (([(-1)] : List Int)).length ≤ DP)).bind fun _ =>
   CT N p0 j3 n3 (v3.1 ++ (([v6] : List Int)), v3.2.1 ++ (([(-1)] : List Int)), (wI .i64 (v3.2.2 + 1))))
   (j3 (v3.1, v3.2.1))
def By (N : Nat) (p0 : Ad) (j9 : ((List Int)) → Option (Ag × Int)) : Nat → ((List Int) × Int) → Option (Ag × Int)
 | 0, _ => none
 | n9 + 1, v9 =>
  AW ((decide (v9.2 < (p0.fb.length : Int))))
   (Bd (fun (v12 : Int) =>
    (Eh (v9.1.length + (([v12] : List Int)).length ≤ DP)).bind fun _ =>
    By N p0 j9 n9 (v9.1 ++ (([v12] : List Int)), (wI .i64 (v9.2 + 1))))
   fun j12 =>
   (A5 p0.fb v9.2).bind fun v13 =>
   (Bg N v13).bind fun v14 =>
   AW v14
    ((A5 p0.fb v9.2).bind fun v16 =>
    (A5 p0.fh v16.fg).bind fun v17 =>
    (Eh (0 ≤ v17)).bind fun _ =>
    j12 (Dw .u8 1 v17))
    (j12 0))
   (j9 v9.1)
def FV (N : Nat) (p0 : Ad) : Option (Ag × Int) :=
 (BY N p0).bind fun v1 =>
 AW ((v1 != 0))
  (some ((Ag.mk (([] : List Int)) (([] : List Int)) (([] : List Int))), v1))
  (CT N p0 (fun (v4 : (List Int) × (List Int)) =>
   By N p0 (fun (v10 : (List Int)) =>
    some ((Ag.mk v4.1 v4.2 v10), 0)) N (([] : List Int), 0)) N (([] : List Int), ([] : List Int), 0))
def Fy (_ : Nat) (p0 : Ag) : Option Ag :=
 (Eh ((([] : List Int)).length + p0.fd.length ≤ DP)).bind fun _ =>
 (Eh ((([] : List Int)).length + p0.fa.length ≤ DP)).bind fun _ =>
 (Eh ((([] : List Int)).length + p0.fe.length ≤ DP)).bind fun _ =>
 some ((Ag.mk ((([] : List Int)) ++ p0.fd) ((([] : List Int)) ++ p0.fa) ((([] : List Int)) ++ p0.fe)))
def Dg (N : Nat) (p0 : Ag) (j1 : Int → Option ((List Ag))) : Nat → (Int × Int) → Option ((List Ag))
 | 0, _ => none
 | n1 + 1, v1 =>
  AW ((decide (v1.2 < (p0.fa.length : Int))))
   (Bd (fun (v4 : Int) =>
    Dg N p0 j1 n1 (v4, (wI .i64 (v1.2 + 1))))
   fun j4 =>
   (A5 p0.fa v1.2).bind fun v5 =>
   AW ((decide (0 ≤ v5)))
    (j4 (wI .i64 (v1.1 + 1)))
    (j4 v1.1))
   (j1 v1.1)
def Cw (N : Nat) (p0 : Ag) (v7 : (List Ag) × Int) (j12 : ((List Int)) → Option ((List Ag))) : Nat → ((List Int) × Int × Int) → Option ((List Ag))
 | 0, _ => none
 | n12 + 1, v12 =>
  AW ((decide (v12.2.2 < (p0.fa.length : Int))))
   (Bd (fun (v15 : (List Int) × Int) =>
    Cw N p0 v7 j12 n12 (v15.1, v15.2, (wI .i64 (v12.2.2 + 1))))
   fun j15 =>
   (A5 p0.fa v12.2.2).bind fun v16 =>
   AW ((decide (v16 < 0)))
    (j15 (v12.1, v12.2.1))
    (Bd (fun (v18 : (List Int)) =>
     j15 (v18, (wI .i64 (v12.2.1 + 1))))
    fun j18 =>
    (Eh (0 ≤ v12.2.1)).bind fun _ =>
    AW (((Int.tmod ((FA .i64 v7.2 v12.2.1)) 2) == 1))
     ((A5 v12.1 v12.2.2).bind fun _ =>
     j18 (v12.1.set ((v12.2.2).toNat) ((-1))))
     (j18 v12.1)))
   (j12 v12.1)
def BU (N : Nat) (p0 : Ag) (v2 : Int) (j7 : ((List Ag)) → Option ((List Ag))) : Nat → ((List Ag) × Int) → Option ((List Ag))
 | 0, _ => none
 | n7 + 1, v7 =>
  (Eh (0 ≤ v2)).bind fun _ =>
  AW ((decide (v7.2 < (Dw .i64 1 v2))))
   ((Fy N p0).bind fun v11 =>
   Cw N p0 v7 (fun (v13 : (List Int)) =>
    (Eh (v7.1.length + (([(Ag.mk v11.fd v13 v11.fe)] : List Ag)).length ≤ DP)).bind fun _ =>
    BU N p0 v2 j7 n7 (v7.1 ++ (([(Ag.mk v11.fd v13 v11.fe)] : List Ag)), (wI .i64 (v7.2 + 1)))) N (v11.fa, 0, 0))
   (j7 v7.1)
def FD (N : Nat) (p0 : Ag) : Option ((List Ag)) :=
 Dg N p0 (fun (v2 : Int) =>
  BU N p0 v2 (fun (v8 : (List Ag)) =>
   some v8) N (([] : List Ag), 0)) N (0, 0)
def Ct (_ : Nat) (p0 : Ag) (p1 : Int) : Option Int :=
 (A5 p0.fd p1).bind fun v1 =>
 (Eh (0 ≤ v1)).bind fun _ =>
 Bd (fun (v3 : Int) =>
  some v3)
 fun j3 =>
 (A5 p0.fa p1).bind fun v4 =>
 AW ((decide (0 ≤ v4)))
  ((A5 p0.fa p1).bind fun v6 =>
  (Eh (0 ≤ v6)).bind fun _ =>
  j3 (Q3 .u8 ((Dw .u8 1 v1)) ((Dw .u8 1 v6))))
  (j3 (Dw .u8 1 v1))
def Db (_ : Nat) (p0 : Int) (p1 : Int) : Option Bool :=
 (Eh (0 ≤ p1)).bind fun _ =>
 some (((Hh .u8 ((FA .u8 p0 p1)) 1) == 1))
def BH (N : Nat) (p0 : Ad) (p1 : Ag) (v1 : (List Aa) × Int) (v4 : Aq) (v10 : (List Aa) × Int) (j17 : ((List Aa) × Bool) → Option ((List Aa))) : Nat → ((List Aa) × Bool × Int) → Option ((List Aa))
 | 0, _ => none
 | n17 + 1, v17 =>
  (A5 p0.fc v4.fk).bind fun v19 =>
  AW ((decide (v17.2.2 < v19)))
   (Bd (fun (v21 : (List Aa) × Bool) =>
    BH N p0 p1 v1 v4 v10 j17 n17 (v21.1, v21.2, (wI .i64 (v17.2.2 + 1))))
   fun j21 =>
   (Ct N p1 v4.fk).bind fun v22 =>
   (Db N v22 v17.2.2).bind fun v23 =>
   AW ((!v23))
    (j21 (v17.1, v17.2.1))
    (Bd (fun (v25 : Bool) =>
     Bd (fun (v29 : Bool) =>
      AW v29
       ((Eh (v17.1.length + (([(Aa.mk v1.2 v10.2 v17.2.2)] : List Aa)).length ≤ DP)).bind fun _ =>
       j21 (v17.1 ++ (([(Aa.mk v1.2 v10.2 v17.2.2)] : List Aa)), v25))
       (j21 (v17.1, v25)))
     fun j29 =>
     AW ((!v4.fp))
      ((A5 v4.fi v10.2).bind fun v31 =>
      (A5 v31 v17.2.2).bind fun v32 =>
      j29 (!v32))
      (j29 false))
    fun j25 =>
    AW v17.2.1
     (j25 true)
     ((A5 v4.fi v10.2).bind fun v27 =>
     (A5 v27 v17.2.2).bind fun v28 =>
     j25 v28)))
   (j17 (v17.1, v17.2.1))
def B6 (N : Nat) (p0 : Ad) (p1 : Ag) (v1 : (List Aa) × Int) (v4 : Aq) (v6 : Int) (j10 : ((List Aa)) → Option ((List Aa))) : Nat → ((List Aa) × Int) → Option ((List Aa))
 | 0, _ => none
 | n10 + 1, v10 =>
  (A5 p0.fc v4.fg).bind fun v12 =>
  AW ((decide (v10.2 < v12)))
   (Bd (fun (v14 : (List Aa)) =>
    B6 N p0 p1 v1 v4 v6 j10 n10 (v14, (wI .i64 (v10.2 + 1))))
   fun j14 =>
   (Db N v6 v10.2).bind fun v15 =>
   AW ((!v15))
    (j14 v10.1)
    (BH N p0 p1 v1 v4 v10 (fun (v18 : (List Aa) × Bool) =>
     Bd (fun (v35 : Bool) =>
      AW v35
       ((Eh (v18.1.length + (([(Aa.mk v1.2 v10.2 ((-1)))] : List Aa)).length ≤ DP)).bind fun _ =>
       j14 (v18.1 ++ (([(Aa.mk v1.2 v10.2 ((-1)))] : List Aa))))
       (j14 v18.1))
     fun j35 =>
     AW v4.fp
      (j35 (!v18.2))
      (j35 false)) N (v10.1, false, 0)))
   (j10 v10.1)
def Dn (N : Nat) (p0 : Ad) (p1 : Ag) (j1 : ((List Aa)) → Option ((List Aa))) : Nat → ((List Aa) × Int) → Option ((List Aa))
 | 0, _ => none
 | n1 + 1, v1 =>
  AW ((decide (v1.2 < (p0.fb.length : Int))))
   ((A5 p0.fb v1.2).bind fun v4 =>
   (Ct N p1 v4.fg).bind fun v5 =>
   Bd (fun (v6 : Int) =>
    B6 N p0 p1 v1 v4 v6 (fun (v11 : (List Aa)) =>
     Dn N p0 p1 j1 n1 (v11, (wI .i64 (v1.2 + 1)))) N (v1.1, 0))
   fun j6 =>
   (Bg N v4).bind fun v7 =>
   AW v7
    ((A5 p1.fe v1.2).bind fun v9 =>
    j6 v9)
    (j6 v5))
   (j1 v1.1)
def FQ (N : Nat) (p0 : Ad) (p1 : Ag) : Option ((List Aa)) :=
 Dn N p0 p1 (fun (v2 : (List Aa)) =>
  some v2) N (([] : List Aa), 0)
def Fw (N : Nat) (p0 : Ad) (p1 : Ag) : Option Bool :=
 (FQ N p0 p1).bind fun v1 =>
 some (((v1.length : Int) == 0))
def CL (N : Nat) (p0 : Ad) (v1 : (List Ag)) (j2 : Unit → Option Bool) : Nat → Int → Option Bool
 | 0, _ => none
 | n2 + 1, v2 =>
  AW ((decide (v2 < (v1.length : Int))))
   ((A5 v1 v2).bind fun v5 =>
   (Fw N p0 v5).bind fun v6 =>
   AW ((!v6))
    (some false)
    (CL N p0 v1 j2 n2 (wI .i64 (v2 + 1))))
   (j2 ())
def D8 (N : Nat) (p0 : Ad) (p1 : Ag) : Option Bool :=
 (FD N p1).bind fun v1 =>
 CL N p0 v1 (fun (_ : Unit) =>
  some true) N 0
def CP (N : Nat) (p0 : Ad) (p1 : Ag) (j7 : Unit → Option Int) : Nat → Int → Option Int
 | 0, _ => none
 | n7 + 1, v7 =>
  AW ((decide (v7 < (p0.fc.length : Int))))
   (Bd (fun (v10 : Bool) =>
    AW v10
     (some 7)
     ((A5 p1.fd v7).bind fun v21 =>
     (A5 p1.fa v7).bind fun v22 =>
     AW ((v21 == v22))
      (some 1)
      (CP N p0 p1 j7 n7 (wI .i64 (v7 + 1)))))
   fun j10 =>
   (A5 p1.fd v7).bind fun v11 =>
   AW ((decide (v11 < 0)))
    (j10 true)
    ((A5 p1.fd v7).bind fun v13 =>
    (A5 p0.fc v7).bind fun v14 =>
    AW ((decide (v14 ≤ v13)))
     (j10 true)
     ((A5 p1.fa v7).bind fun v16 =>
     AW ((decide (v16 < (-1))))
      (j10 true)
      ((A5 p1.fa v7).bind fun v18 =>
      (A5 p0.fc v7).bind fun v19 =>
      j10 (decide (v19 ≤ v18))))))
   (j7 ())
def Cz (N : Nat) (p0 : Ad) (p1 : Ag) (j24 : Unit → Option Int) : Nat → Int → Option Int
 | 0, _ => none
 | n24 + 1, v24 =>
  AW ((decide (v24 < (p0.fb.length : Int))))
   ((A5 p0.fb v24).bind fun v27 =>
   (A5 p0.fc v27.fg).bind fun v28 =>
   (Eh (0 ≤ v28)).bind fun _ =>
   Bd (fun (v30 : Bool) =>
    AW v30
     (some 1)
     (Cz N p0 p1 j24 n24 (wI .i64 (v24 + 1))))
   fun j30 =>
   (Bg N v27).bind fun v31 =>
   AW ((!v31))
    ((A5 p1.fe v24).bind fun v33 =>
    AW ((v33 != 0))
     (j30 true)
     ((Bg N v27).bind fun v35 =>
     AW v35
      ((A5 p1.fe v24).bind fun v37 =>
      AW (((Ek .u8 v37 ((wI .u8 ((Dw .u8 1 v28) - 1)))) != 0))
       (j30 true)
       ((Ct N p1 v27.fg).bind fun v39 =>
       (A5 p1.fe v24).bind fun v40 =>
       j30 ((Ek .u8 v39 v40) != 0)))
      (j30 false)))
    ((Bg N v27).bind fun v41 =>
    AW v41
     ((A5 p1.fe v24).bind fun v43 =>
     AW (((Ek .u8 v43 ((wI .u8 ((Dw .u8 1 v28) - 1)))) != 0))
      (j30 true)
      ((Ct N p1 v27.fg).bind fun v45 =>
      (A5 p1.fe v24).bind fun v46 =>
      j30 ((Ek .u8 v45 v46) != 0)))
     (j30 false)))
   (j24 ())
def FK (N : Nat) (p0 : Ad) (p1 : Ag) : Option Int :=
 (BY N p0).bind fun v1 =>
 AW ((v1 != 0))
  (some v1)
  (Bd (fun (v3 : Bool) =>
   AW v3
    (some 6)
    (CP N p0 p1 (fun (_ : Unit) =>
     Cz N p0 p1 (fun (_ : Unit) =>
      some 0) N 0) N 0))
  fun j3 =>
  AW (((p1.fd.length : Int) != (p0.fc.length : Int)))
   (j3 true)
   (AW (((p1.fa.length : Int) != (p0.fc.length : Int)))
    (j3 true)
    (j3 ((p1.fe.length : Int) != (p0.fb.length : Int)))))
def FU (_ : Nat) (p0 : Ah) : Option Bool :=
 Bd (fun (v1 : Bool) =>
  some v1)
 fun j1 =>
 AW ((decide (1 ≤ p0.ff)))
  (AW ((decide (p0.ff ≤ 4)))
   (AW ((decide (0 ≤ p0.fj)))
    (AW ((decide (0 ≤ p0.fr)))
     (AW ((p0.ff == 1))
      (j1 true)
      (j1 (p0.fr == 0)))
     (j1 false))
    (j1 false))
   (j1 false))
  (j1 false)
def CB (N : Nat) (p0 : Ad) (p2 : Ah) (j12 : ((List Int)) → Option (Ag × Bool)) : Nat → ((List Int) × Int) → Option (Ag × Bool)
 | 0, _ => none
 | n12 + 1, v12 =>
  AW ((decide (v12.2 < (p0.fb.length : Int))))
   (Bd (fun (v15 : (List Int)) =>
    CB N p0 p2 j12 n12 (v15, (wI .i64 (v12.2 + 1))))
   fun j15 =>
   Bd (fun (v16 : Bool) =>
    AW v16
     ((A5 v12.1 v12.2).bind fun v22 =>
     (Eh (0 ≤ p2.fr)).bind fun _ =>
     (A5 v12.1 v12.2).bind fun _ =>
     j15 (v12.1.set ((v12.2).toNat) ((Q3 .u8 v22 ((Dw .u8 1 p2.fr))))))
     (j15 v12.1))
   fun j16 =>
   (A5 p0.fb v12.2).bind fun v17 =>
   AW ((v17.fg == p2.fj))
    ((A5 p0.fb v12.2).bind fun v19 =>
    (Bg N v19).bind fun v20 =>
    j16 v20)
    (j16 false))
   (j12 v12.1)
def B2 (N : Nat) (p0 : Ad) (p1 : Ag) (p2 : Ah) (v32 : Aq) (v35 : Int) (j38 : Unit → Option (Ag × Bool)) : Nat → Int → Option (Ag × Bool)
 | 0, _ => none
 | n38 + 1, v38 =>
  (A5 p0.fc v32.fg).bind fun v40 =>
  AW ((decide (v38 < v40)))
   (Bd (fun (v42 : Bool) =>
    Bd (fun (v47 : Bool) =>
     AW v47
      (some ((Ag.mk (([] : List Int)) (([] : List Int)) (([] : List Int))), false))
      (B2 N p0 p1 p2 v32 v35 j38 n38 (wI .i64 (v38 + 1))))
    fun j47 =>
    AW v42
     (AW ((v32.ff == 4))
      ((A5 v32.fo v38).bind fun v50 =>
      (A5 p1.fd v32.fg).bind fun v51 =>
      (A5 v50 v51).bind fun v52 =>
      j47 (!v52))
      (j47 false))
     (j47 false))
   fun j42 =>
   (A5 p1.fe p2.fj).bind fun v43 =>
   (Db N v43 v38).bind fun v44 =>
   AW v44
    ((Db N v35 v38).bind fun v46 =>
    j42 (!v46))
    (j42 false))
   (j38 ())
def DF (N : Nat) (p0 : Ad) (p1 : Ag) (p2 : Ah) : Option (Ag × Bool) :=
 (Eh ((([] : List Int)).length + p1.fd.length ≤ DP)).bind fun _ =>
 (Eh ((([] : List Int)).length + p1.fa.length ≤ DP)).bind fun _ =>
 (Eh ((([] : List Int)).length + p1.fe.length ≤ DP)).bind fun _ =>
 Bd (fun (v4 : (List Int) × (List Int) × (List Int)) =>
  some ((Ag.mk v4.1 v4.2.1 v4.2.2), true))
 fun j4 =>
 AW ((p2.ff == 1))
  (Bd (fun (v6 : Bool) =>
   AW v6
    (some ((Ag.mk (([] : List Int)) (([] : List Int)) (([] : List Int))), false))
    ((A5 ((([] : List Int)) ++ p1.fa) p2.fj).bind fun _ =>
    CB N p0 p2 (fun (v13 : (List Int)) =>
     j4 ((([] : List Int)) ++ p1.fd, ((([] : List Int)) ++ p1.fa).set ((p2.fj).toNat) p2.fr, v13)) N ((([] : List Int)) ++ p1.fe, 0)))
  fun j6 =>
  (A5 p1.fa p2.fj).bind fun v7 =>
  AW ((decide (0 ≤ v7)))
   (j6 true)
   ((A5 p1.fd p2.fj).bind fun v9 =>
   j6 (p2.fr == v9)))
  (AW ((p2.ff == 2))
   ((A5 p1.fa p2.fj).bind fun v26 =>
   AW ((decide (v26 < 0)))
    (some ((Ag.mk (([] : List Int)) (([] : List Int)) (([] : List Int))), false))
    ((A5 p1.fa p2.fj).bind fun v28 =>
    (A5 ((([] : List Int)) ++ p1.fd) p2.fj).bind fun _ =>
    (A5 ((([] : List Int)) ++ p1.fa) p2.fj).bind fun _ =>
    j4 (((([] : List Int)) ++ p1.fd).set ((p2.fj).toNat) v28, ((([] : List Int)) ++ p1.fa).set ((p2.fj).toNat) ((-1)), (([] : List Int)) ++ p1.fe)))
   (AW ((p2.ff == 3))
    ((A5 p0.fb p2.fj).bind fun v32 =>
    (Bg N v32).bind fun v33 =>
    AW ((!v33))
     (some ((Ag.mk (([] : List Int)) (([] : List Int)) (([] : List Int))), false))
     ((Ct N p1 v32.fg).bind fun v35 =>
     (A5 p1.fe p2.fj).bind fun v36 =>
     AW ((v36 == v35))
      (some ((Ag.mk (([] : List Int)) (([] : List Int)) (([] : List Int))), false))
      (B2 N p0 p1 p2 v32 v35 (fun (_ : Unit) =>
       (A5 ((([] : List Int)) ++ p1.fe) p2.fj).bind fun _ =>
       j4 ((([] : List Int)) ++ p1.fd, (([] : List Int)) ++ p1.fa, ((([] : List Int)) ++ p1.fe).set ((p2.fj).toNat) v35)) N 0)))
    ((A5 p1.fa p2.fj).bind fun v55 =>
    AW ((decide (v55 < 0)))
     (some ((Ag.mk (([] : List Int)) (([] : List Int)) (([] : List Int))), false))
     ((A5 ((([] : List Int)) ++ p1.fa) p2.fj).bind fun _ =>
     j4 ((([] : List Int)) ++ p1.fd, ((([] : List Int)) ++ p1.fa).set ((p2.fj).toNat) ((-1)), (([] : List Int)) ++ p1.fe)))))
def FP (N : Nat) (p0 : Ad) (p1 : Ag) (p2 : Ah) : Option (Ag × Int) :=
 (FK N p0 p1).bind fun v1 =>
 AW ((v1 != 0))
  (some ((Ag.mk (([] : List Int)) (([] : List Int)) (([] : List Int))), v1))
  ((FU N p2).bind fun v3 =>
  AW ((!v3))
   (some ((Ag.mk (([] : List Int)) (([] : List Int)) (([] : List Int))), 1))
   (Bd (fun (v5 : Bool) =>
    AW v5
     (some ((Ag.mk (([] : List Int)) (([] : List Int)) (([] : List Int))), 4))
     (Bd (fun (v11 : Bool) =>
      AW v11
       (some ((Ag.mk (([] : List Int)) (([] : List Int)) (([] : List Int))), 4))
       ((DF N p0 p1 p2).bind fun v15 =>
       AW ((!v15.2))
        (some ((Ag.mk (([] : List Int)) (([] : List Int)) (([] : List Int))), 11))
        (some (v15.1, 0))))
     fun j11 =>
     AW ((p2.ff == 1))
      ((A5 p0.fc p2.fj).bind fun v13 =>
      j11 (decide (v13 ≤ p2.fr)))
      (j11 false)))
   fun j5 =>
   AW ((p2.ff == 3))
    (AW ((decide ((p0.fb.length : Int) ≤ p2.fj)))
     (j5 true)
     (AW ((p2.ff != 3))
      (j5 (decide ((p0.fc.length : Int) ≤ p2.fj)))
      (j5 false)))
    (AW ((p2.ff != 3))
     (j5 (decide ((p0.fc.length : Int) ≤ p2.fj)))
     (j5 false))))
def CR (N : Nat) (p0 : Ad) (p1 : Ag) (v1 : (List Ah) × Int) (v4 : (List Ah) × Int) (j7 : ((List Ah)) → Option ((List Ah))) : Nat → ((List Ah) × Int) → Option ((List Ah))
 | 0, _ => none
 | n7 + 1, v7 =>
  AW ((decide (v7.2 < 6)))
   (Bd (fun (v10 : (List Ah)) =>
    CR N p0 p1 v1 v4 j7 n7 (v10, (wI .i64 (v7.2 + 1))))
   fun j10 =>
   (FP N p0 p1 ((Ah.mk v1.2 v4.2 v7.2))).bind fun v11 =>
   AW ((v11.2 == 0))
    ((Eh (v7.1.length + (([(Ah.mk v1.2 v4.2 v7.2)] : List Ah)).length ≤ DP)).bind fun _ =>
    j10 (v7.1 ++ (([(Ah.mk v1.2 v4.2 v7.2)] : List Ah))))
    (j10 v7.1))
   (j7 v7.1)
def CS (N : Nat) (p0 : Ad) (p1 : Ag) (v1 : (List Ah) × Int) (j4 : ((List Ah)) → Option ((List Ah))) : Nat → ((List Ah) × Int) → Option ((List Ah))
 | 0, _ => none
 | n4 + 1, v4 =>
  AW ((decide (v4.2 < (WA ((p0.fc.length : Int)) ((p0.fb.length : Int))))))
   (CR N p0 p1 v1 v4 (fun (v8 : (List Ah)) =>
    CS N p0 p1 v1 j4 n4 (v8, (wI .i64 (v4.2 + 1)))) N (v4.1, 0))
   (j4 v4.1)
def BP (N : Nat) (p0 : Ad) (p1 : Ag) (j1 : ((List Ah)) → Option ((List Ah))) : Nat → ((List Ah) × Int) → Option ((List Ah))
 | 0, _ => none
 | n1 + 1, v1 =>
  AW ((decide (v1.2 ≤ 3)))
   (CS N p0 p1 v1 (fun (v5 : (List Ah)) =>
    BP N p0 p1 j1 n1 (v5, (wI .i64 (v1.2 + 1)))) N (v1.1, 0))
   (j1 v1.1)
def FW (N : Nat) (p0 : Ad) (p1 : Ag) : Option ((List Ah)) :=
 BP N p0 p1 (fun (v2 : (List Ah)) =>
  some v2) N (([] : List Ah), 1)
def El (N : Nat) (p0 : List Int) (p1 : List Int) (j1 : Unit → Option Int) : Nat → Int → Option Int
 | 0, _ => none
 | n1 + 1, v1 =>
  Bd (fun (v3 : Bool) =>
   AW v3
    ((A5 p0 v1).bind fun v6 =>
    (A5 p1 v1).bind fun v7 =>
    AW ((decide (v6 < v7)))
     (some ((-1)))
     ((A5 p0 v1).bind fun v9 =>
     (A5 p1 v1).bind fun v10 =>
     AW ((decide (v10 < v9)))
      (some 1)
      (El N p0 p1 j1 n1 (wI .i64 (v1 + 1)))))
    (j1 ()))
  fun j3 =>
  AW ((decide (v1 < (p0.length : Int))))
   (j3 (decide (v1 < (p1.length : Int))))
   (j3 false)
def Ey (N : Nat) (p0 : List Int) (p1 : List Int) : Option Int :=
 El N p0 p1 (fun (_ : Unit) =>
  AW ((decide ((p0.length : Int) < (p1.length : Int))))
   (some ((-1)))
   (AW ((decide ((p1.length : Int) < (p0.length : Int))))
    (some 1)
    (some 0))) N 0
def DH (N : Nat) (p0 : List Int) (j1 : ((List Int)) → Option ((List Int))) : Nat → ((List Int) × Int) → Option ((List Int))
 | 0, _ => none
 | n1 + 1, v1 =>
  AW ((decide (v1.2 < (p0.length : Int))))
   ((A5 p0 v1.2).bind fun v4 =>
   (Eh (v1.1.length + (([(wI .i64 v4)] : List Int)).length ≤ DP)).bind fun _ =>
   DH N p0 j1 n1 (v1.1 ++ (([(wI .i64 v4)] : List Int)), (wI .i64 (v1.2 + 1))))
   (j1 v1.1)
def Es (N : Nat) (p0 : List Int) : Option ((List Int)) :=
 DH N p0 (fun (v2 : (List Int)) =>
  some v2) N (([] : List Int), 0)
def Fd (N : Nat) (p0 : Ag) (p1 : Ag) : Option Int :=
 (Ey N p0.fd p1.fd).bind fun v1 =>
 AW ((v1 != 0))
  (some v1)
  ((Ey N p0.fa p1.fa).bind fun v3 =>
  AW ((v3 != 0))
   (some v3)
   ((Es N p0.fe).bind fun v5 =>
   (Es N p1.fe).bind fun v6 =>
   (Ey N v5 v6).bind fun v7 =>
   some v7))
def FL (N : Nat) (p0 : Ag) (p1 : Ag) : Option Bool :=
 (Fd N p0 p1).bind fun v1 =>
 some ((v1 == 0))
def C3 (N : Nat) (p0 : List AM) (p1 : Ag) (j1 : Unit → Option Int) : Nat → Int → Option Int
 | 0, _ => none
 | n1 + 1, v1 =>
  AW ((decide (v1 < (p0.length : Int))))
   ((A5 p0 v1).bind fun v4 =>
   (FL N ((Ag.mk v4.fy.fd v4.fy.fa v4.fy.fe)) p1).bind fun v5 =>
   AW v5
    (some v1)
    (C3 N p0 p1 j1 n1 (wI .i64 (v1 + 1))))
   (j1 ())
def Ff (N : Nat) (p0 : List AM) (p1 : Ag) : Option Int :=
 C3 N p0 p1 (fun (_ : Unit) =>
  some ((-1))) N 0
def Cd (N : Nat) (p0 : Ad) (p2 : Int) (v1 : (List AM) × Int) (v5 : (List Ah)) (j6 : ((List AM)) → Option ((List AM) × Bool)) : Nat → ((List AM) × Int) → Option ((List AM) × Bool)
 | 0, _ => none
 | n6 + 1, v6 =>
  AW ((decide (v6.2 < (v5.length : Int))))
   ((A5 v6.1 v1.2).bind fun v9 =>
   (A5 v5 v6.2).bind fun v10 =>
   (DF N p0 ((Ag.mk v9.fy.fd v9.fy.fa v9.fy.fe)) v10).bind fun v11 =>
   Bd (fun (v12 : (List AM)) =>
    AW ((decide (p2 < (v12.length : Int))))
     (some (([] : List AM), false))
     (Cd N p0 p2 v1 v5 j6 n6 (v12, (wI .i64 (v6.2 + 1)))))
   fun j12 =>
   Bd (fun (v13 : Bool) =>
    AW v13
     ((A5 v5 v6.2).bind fun v18 =>
     (Eh (v6.1.length + (([(AM.mk v11.1 v1.2 v18)] : List AM)).length ≤ DP)).bind fun _ =>
     j12 (v6.1 ++ (([(AM.mk v11.1 v1.2 v18)] : List AM))))
     (j12 v6.1))
   fun j13 =>
   (D8 N p0 v11.1).bind fun v14 =>
   AW v14
    ((Ff N v6.1 v11.1).bind fun v16 =>
    j13 (decide (v16 < 0)))
    (j13 false))
   (j6 v6.1)
def Cf (N : Nat) (p0 : Ad) (p2 : Int) (j1 : ((List AM)) → Option ((List AM) × Bool)) : Nat → ((List AM) × Int) → Option ((List AM) × Bool)
 | 0, _ => none
 | n1 + 1, v1 =>
  AW ((decide (v1.2 < (v1.1.length : Int))))
   ((A5 v1.1 v1.2).bind fun v4 =>
   (FW N p0 ((Ag.mk v4.fy.fd v4.fy.fa v4.fy.fe))).bind fun v5 =>
   Cd N p0 p2 v1 v5 (fun (v7 : (List AM)) =>
    Cf N p0 p2 j1 n1 (v7, (wI .i64 (v1.2 + 1)))) N (v1.1, 0))
   (j1 v1.1)
def ET (N : Nat) (p0 : Ad) (p1 : Ag) (p2 : Int) : Option ((List AM) × Bool) :=
 Cf N p0 p2 (fun (v2 : (List AM)) =>
  some (v2, true)) N (([(AM.mk p1 ((-1)) ((Ah.mk 0 0 0)))] : List AM), 0)
def zFS (N : Nat) (p0 : Ad) (p1 : Int) : Option Bool :=
 (FV N p0).bind fun v1 =>
 Bd (fun (v2 : Bool) =>
  AW v2
   (some true)
   ((ET N p0 v1.1 p1).bind fun v6 =>
   some v6.2))
 fun j2 =>
 AW ((v1.2 != 0))
  (j2 true)
  ((D8 N p0 v1.1).bind fun v4 =>
  j2 (!v4))
def GQ (N : Nat) (p0 : Ad) : Option Bool :=
 (DK N p0).bind fun v1 =>
 Bd (fun (v2 : Bool) =>
  some v2)
 fun j2 =>
 AW ((decide ((v1.length : Int) ≤ 7)))
  ((Ev N p0 v1).bind fun v4 =>
  (zFS N v4 60).bind fun v5 =>
  j2 v5)
  (j2 false)
def GP (N : Nat) (p0 : B1) : Option (Ad × Bool) :=
 (GG N p0).bind fun v1 =>
 Bd (fun (v2 : Bool) =>
  some (v1.1, v2))
 fun j2 =>
 AW v1.2
  (AW ((decide ((v1.1.fc.length : Int) ≤ 2)))
   ((GQ N v1.1).bind fun v5 =>
   j2 v5)
   (j2 false))
  (j2 false)
def Ep (_ : Nat) : Option Ad :=
 some ((Ad.mk (([2, 2] : List Int)) (([0, 0] : List Int)) (([1, 1] : List Int)) (([(Aq.mk 1 0 1 false (([([true, false] : List Bool), ([false, true] : List Bool)] : List (List Bool))) (([] : List (List Bool))))] : List Aq))))
def Fk (_ : Nat) (p0 : Int) (p1 : Int) : Option Bool :=
 Bd (fun (v1 : Bool) =>
  some v1)
 fun j1 =>
 AW ((decide (0 ≤ p0)))
  (j1 (decide (p0 < p1)))
  (j1 false)
def It (_ : Nat) (p0 : Int) (p1 : Bool) : Option Bool :=
 Bd (fun (v1 : Bool) =>
  some v1)
 fun j1 =>
 AW ((p0 == 1))
  (j1 true)
  (AW ((p0 == 2))
   (j1 true)
   (AW ((p0 == 3))
    (j1 (!p1))
    (AW ((p0 == 4))
     (j1 (!p1))
     (j1 false))))
def Fc (_ : Nat) (p0 : List Bool) (p1 : Int) : Option Bool :=
 some (((p0.length : Int) != p1))
def BK (N : Nat) (p0 : List (List Bool)) (p1 : (List Bool) → Option Bool) (j1 : Unit → Option Int) : Nat → Int → Option Int
 | 0, _ => none
 | n1 + 1, v1 =>
  AW ((decide (v1 < (p0.length : Int))))
   ((A5 p0 v1).bind fun v4 =>
   (p1 v4).bind fun v5 =>
   AW v5
    (some v1)
    (BK N p0 p1 j1 n1 (wI .i64 (v1 + 1))))
   (j1 ())
def ED (N : Nat) (p0 : List (List Bool)) (p1 : (List Bool) → Option Bool) : Option Int :=
 BK N p0 p1 (fun (_ : Unit) =>
  some ((-1))) N 0
def D1 (N : Nat) (p0 : List (List Bool)) (p1 : (List Bool) → Option Bool) : Option Bool :=
 (ED N p0 p1).bind fun v1 =>
 some ((decide (0 ≤ v1)))
def GE (N : Nat) (p0 : List (List Bool)) (p1 : Int) (p2 : Int) : Option Bool :=
 Bd (fun (v1 : Bool) =>
  some v1)
 fun j1 =>
 AW (((p0.length : Int) == p1))
  ((D1 N p0 ((fun (x : List Bool) => Fc N x p2))).bind fun v3 =>
  j1 (!v3))
  (j1 false)
def Eg (N : Nat) (p1 : Aq) (j19 : Unit → Option Int) : Nat → Int → Option Int
 | 0, _ => none
 | n19 + 1, v19 =>
  AW ((decide (v19 < (p1.fo.length : Int))))
   ((A5 p1.fo v19).bind fun v22 =>
   (A5 v22 v19).bind fun v23 =>
   AW ((!v23))
    (some 1)
    (Eg N p1 j19 n19 (wI .i64 (v19 + 1))))
   (j19 ())
def HU (N : Nat) (p0 : Ad) (p1 : Aq) : Option Int :=
 (It N p1.ff p1.fp).bind fun v1 =>
 AW ((!v1))
  (some 1)
  (Bd (fun (v3 : Bool) =>
   AW v3
    (some 4)
    ((A5 p0.fc p1.fg).bind fun v8 =>
    Bd (fun (v9 : Bool) =>
     AW v9
      (some 6)
      (Eg N p1 (fun (_ : Unit) =>
       some 0) N 0))
    fun j9 =>
    (A5 p0.fc p1.fk).bind fun v10 =>
    (GE N p1.fi v8 v10).bind fun v11 =>
    AW ((!v11))
     (j9 true)
     (AW ((p1.ff == 4))
      ((GE N p1.fo v8 v8).bind fun v14 =>
      AW ((!v14))
       (j9 true)
       (AW ((!((p1.ff == 4))))
        (j9 (decide (0 < (p1.fo.length : Int))))
        (j9 false)))
      (AW ((!((p1.ff == 4))))
       (j9 (decide (0 < (p1.fo.length : Int))))
       (j9 false)))))
  fun j3 =>
  (Fk N p1.fg ((p0.fc.length : Int))).bind fun v4 =>
  AW ((!v4))
   (j3 true)
   ((Fk N p1.fk ((p0.fc.length : Int))).bind fun v6 =>
   j3 (!v6)))
def CD (N : Nat) (p0 : Ad) (j7 : Unit → Option Int) : Nat → Int → Option Int
 | 0, _ => none
 | n7 + 1, v7 =>
  AW ((decide (v7 < (p0.fc.length : Int))))
   ((A5 p0.fc v7).bind fun v10 =>
   Bd (fun (v11 : Bool) =>
    AW v11
     (some 7)
     (CD N p0 j7 n7 (wI .i64 (v7 + 1))))
   fun j11 =>
   AW ((decide (v10 < 1)))
    (j11 true)
    (AW ((decide (6 < v10)))
     (j11 true)
     ((A5 p0.fh v7).bind fun v14 =>
     (Fk N v14 v10).bind fun v15 =>
     AW ((!v15))
      (j11 true)
      ((A5 p0.fm v7).bind fun v17 =>
      (Fk N v17 v10).bind fun v18 =>
      j11 (!v18)))))
   (j7 ())
def Ck (N : Nat) (p0 : Ad) (j20 : Unit → Option Int) : Nat → Int → Option Int
 | 0, _ => none
 | n20 + 1, v20 =>
  AW ((decide (v20 < (p0.fb.length : Int))))
   ((A5 p0.fb v20).bind fun v23 =>
   (HU N p0 v23).bind fun v24 =>
   AW ((v24 != 0))
    (some v24)
    (Ck N p0 j20 n20 (wI .i64 (v20 + 1))))
   (j20 ())
def BV (N : Nat) (p0 : Ad) : Option Int :=
 Bd (fun (v1 : Bool) =>
  AW v1
   (some 3)
   (Bd (fun (v4 : Bool) =>
    AW v4
     (some 6)
     (CD N p0 (fun (_ : Unit) =>
      Ck N p0 (fun (_ : Unit) =>
       some 0) N 0) N 0))
   fun j4 =>
   AW (((p0.fh.length : Int) != (p0.fc.length : Int)))
    (j4 true)
    (j4 ((p0.fm.length : Int) != (p0.fc.length : Int)))))
 fun j1 =>
 AW ((decide (6 < (p0.fc.length : Int))))
  (j1 true)
  (j1 (decide (12 < (p0.fb.length : Int))))
def DY (N : Nat) (v1 : (List Aa) × Int) (v5 : (List Aa) × Int) (v8 : List Bool) (j9 : ((List Aa)) → Option ((List Aa))) : Nat → ((List Aa) × Int) → Option ((List Aa))
 | 0, _ => none
 | n9 + 1, v9 =>
  AW ((decide (v9.2 < (v8.length : Int))))
   (Bd (fun (v12 : (List Aa)) =>
    DY N v1 v5 v8 j9 n9 (v12, (wI .i64 (v9.2 + 1))))
   fun j12 =>
   (A5 v8 v9.2).bind fun v13 =>
   AW ((!v13))
    ((Eh (v9.1.length + (([(Aa.mk v1.2 v5.2 v9.2)] : List Aa)).length ≤ DP)).bind fun _ =>
    j12 (v9.1 ++ (([(Aa.mk v1.2 v5.2 v9.2)] : List Aa))))
    (j12 v9.1))
   (j9 v9.1)
def Dh (N : Nat) (v1 : (List Aa) × Int) (v4 : Aq) (j5 : ((List Aa)) → Option ((List Aa))) : Nat → ((List Aa) × Int) → Option ((List Aa))
 | 0, _ => none
 | n5 + 1, v5 =>
  AW ((decide (v5.2 < (v4.fi.length : Int))))
   ((A5 v4.fi v5.2).bind fun v8 =>
   DY N v1 v5 v8 (fun (v10 : (List Aa)) =>
    Dh N v1 v4 j5 n5 (v10, (wI .i64 (v5.2 + 1)))) N (v5.1, 0))
   (j5 v5.1)
def CN (N : Nat) (p0 : Ad) (j1 : ((List Aa)) → Option ((List Aa))) : Nat → ((List Aa) × Int) → Option ((List Aa))
 | 0, _ => none
 | n1 + 1, v1 =>
  AW ((decide (v1.2 < (p0.fb.length : Int))))
   ((A5 p0.fb v1.2).bind fun v4 =>
   Dh N v1 v4 (fun (v6 : (List Aa)) =>
    CN N p0 j1 n1 (v6, (wI .i64 (v1.2 + 1)))) N (v1.1, 0))
   (j1 v1.1)
def EN (N : Nat) (p0 : Ad) : Option ((List Aa)) :=
 CN N p0 (fun (v2 : (List Aa)) =>
  some v2) N (([] : List Aa), 0)
def FE (N : Nat) (p0 : Ad) : Option ((List Aa) × Int) :=
 (BV N p0).bind fun v1 =>
 AW ((v1 != 0))
  (some (([] : List Aa), v1))
  ((EN N p0).bind fun v3 =>
  some (v3, 0))
def EO (N : Nat) (v5 : Aa) (v7 : (List (List Aa))) (j8 : ((List (List Aa))) → Option ((List (List Aa)))) : Nat → ((List (List Aa)) × Int) → Option ((List (List Aa)))
 | 0, _ => none
 | n8 + 1, v8 =>
  AW ((decide (v8.2 < (v7.length : Int))))
   ((A5 v7 v8.2).bind fun v11 =>
   (Eh ((([v5] : List Aa)).length + v11.length ≤ DP)).bind fun _ =>
   (Eh (v8.1.length + (([(([v5] : List Aa)) ++ v11] : List (List Aa))).length ≤ DP)).bind fun _ =>
   EO N v5 v7 j8 n8 (v8.1 ++ (([(([v5] : List Aa)) ++ v11] : List (List Aa))), (wI .i64 (v8.2 + 1))))
   (j8 v8.1)
def Ec (N : Nat) (p0 : List Aa) (p1 : Int) (rc : (List Aa) → Int → Option ((List (List Aa)))) (j2 : ((List (List Aa))) → Option ((List (List Aa)))) : Nat → ((List (List Aa)) × Int) → Option ((List (List Aa)))
 | 0, _ => none
 | n2 + 1, v2 =>
  AW ((decide (v2.2 < (p0.length : Int))))
   ((A5 p0 v2.2).bind fun v5 =>
   (Eh ((0 : Int) ≤ (wI .i64 (v2.2 + 1)) ∧ ((wI .i64 (v2.2 + 1))).toNat ≤ p0.length ∧ p0.length ≤ p0.length)).bind fun _ =>
   (rc (((p0.drop ((wI .i64 (v2.2 + 1))).toNat).take (p0.length - ((wI .i64 (v2.2 + 1))).toNat))) ((wI .i64 (p1 - 1)))).bind fun v7 =>
   EO N v5 v7 (fun (v9 : (List (List Aa))) =>
    Ec N p0 p1 rc j2 n2 (v9, (wI .i64 (v2.2 + 1)))) N (v2.1, 0))
   (j2 v2.1)
def HF (N : Nat) (rc : (List Aa) → Int → Option ((List (List Aa)))) (p0 : List Aa) (p1 : Int) : Option ((List (List Aa))) :=
 AW ((p1 == 0))
  (some (([([] : List Aa)] : List (List Aa))))
  (Ec N p0 p1 rc (fun (v3 : (List (List Aa))) =>
   some v3) N (([] : List (List Aa)), 0))
def EC (N : Nat) : Nat → (List Aa) → Int → Option ((List (List Aa)))
 | 0, _, _ => none
 | k + 1, p0, p1 => HF N (EC N k) p0 p1
def JI (N : Nat) (p0 : List Aa) (p1 : Int) : Option ((List (List Aa))) := EC N N p0 p1
def A6 (_ : Nat) (p0 : List Int) : Option ((List Int)) :=
 (Eh ((([] : List Int)).length + p0.length ≤ DP)).bind fun _ =>
 some ((([] : List Int)) ++ p0)
def DI (_ : Nat) (p0 : List (List Bool)) : Option ((List (List Bool))) :=
 (Eh ((([] : List (List Bool))).length + p0.length ≤ DP)).bind fun _ =>
 some ((([] : List (List Bool))) ++ p0)
def De (_ : Nat) (p0 : List Bool) : Option ((List Bool)) :=
 (Eh ((([] : List Bool)).length + p0.length ≤ DP)).bind fun _ =>
 some ((([] : List Bool)) ++ p0)
def Eb (N : Nat) (v1 : (List (List Bool))) (j3 : ((List (List Bool))) → Option Aq) : Nat → ((List (List Bool)) × Int) → Option Aq
 | 0, _ => none
 | n3 + 1, v3 =>
  AW ((decide (v3.2 < (v1.length : Int))))
   ((A5 v3.1 v3.2).bind fun v6 =>
   (De N v6).bind fun v7 =>
   (A5 v3.1 v3.2).bind fun _ =>
   (Eh (((v3.2).toNat) + 1 = ((wI .i64 (v3.2 + 1))).toNat)).bind fun _ =>
   Eb N v1 j3 n3 (v3.1.set ((v3.2).toNat) v7, (wI .i64 (v3.2 + 1))))
   ((Eh ((v3.2).toNat = v3.1.length)).bind fun _ =>
   j3 v3.1)
def Cg (N : Nat) (v2 : (List (List Bool))) (j11 : ((List (List Bool))) → Option Aq) : Nat → ((List (List Bool)) × Int) → Option Aq
 | 0, _ => none
 | n11 + 1, v11 =>
  AW ((decide (v11.2 < (v2.length : Int))))
   ((A5 v11.1 v11.2).bind fun v14 =>
   (De N v14).bind fun v15 =>
   (A5 v11.1 v11.2).bind fun _ =>
   (Eh (((v11.2).toNat) + 1 = ((wI .i64 (v11.2 + 1))).toNat)).bind fun _ =>
   Cg N v2 j11 n11 (v11.1.set ((v11.2).toNat) v15, (wI .i64 (v11.2 + 1))))
   ((Eh ((v11.2).toNat = v11.1.length)).bind fun _ =>
   j11 v11.1)
def GH (N : Nat) (p0 : Aq) : Option Aq :=
 (DI N p0.fi).bind fun v1 =>
 (DI N p0.fo).bind fun v2 =>
 Eb N v1 (fun (v4 : (List (List Bool))) =>
  Cg N v2 (fun (v12 : (List (List Bool))) =>
   some ((Aq.mk p0.ff p0.fg p0.fk p0.fp v4 v12))) N (v2, 0)) N (v1, 0)
def DW (N : Nat) (p0 : Ad) (j6 : ((List Aq)) → Option (Ad × Int)) : Nat → ((List Aq) × Int) → Option (Ad × Int)
 | 0, _ => none
 | n6 + 1, v6 =>
  AW ((decide (v6.2 < (p0.fb.length : Int))))
   ((A5 p0.fb v6.2).bind fun v9 =>
   (GH N v9).bind fun v10 =>
   (Eh (v6.1.length + (([v10] : List Aq)).length ≤ DP)).bind fun _ =>
   DW N p0 j6 n6 (v6.1 ++ (([v10] : List Aq)), (wI .i64 (v6.2 + 1))))
   (j6 v6.1)
def Gv (N : Nat) (p0 : Ad) (p1 : List Int) (p2 : List Int) : Option (Ad × Int) :=
 (BV N p0).bind fun v1 =>
 AW ((v1 != 0))
  (some ((Ad.mk (([] : List Int)) (([] : List Int)) (([] : List Int)) (([] : List Aq))), v1))
  ((A6 N p0.fc).bind fun v3 =>
  (A6 N p1).bind fun v4 =>
  (A6 N p2).bind fun v5 =>
  DW N p0 (fun (v7 : (List Aq)) =>
   (BV N ((Ad.mk v3 v4 v5 v7))).bind fun v12 =>
   AW ((v12 != 0))
    (some ((Ad.mk (([] : List Int)) (([] : List Int)) (([] : List Int)) (([] : List Aq))), v12))
    (some ((Ad.mk v3 v4 v5 v7), 0))) N (([] : List Aq), 0))
def EQ (N : Nat) (p1 : List Aa) (j2 : ((List Aq)) → Option Ad) : Nat → ((List Aq) × Int) → Option Ad
 | 0, _ => none
 | n2 + 1, v2 =>
  AW ((decide (v2.2 < (p1.length : Int))))
   ((A5 p1 v2.2).bind fun v5 =>
   (A5 v2.1 v5.fw).bind fun v6 =>
   (A5 v6.fi v5.fv).bind fun v7 =>
   (A5 v7 v5.fu).bind fun _ =>
   EQ N p1 j2 n2 (v2.1.set ((v5.fw).toNat) ((Aq.mk v6.ff v6.fg v6.fk v6.fp (v6.fi.set ((v5.fv).toNat) (v7.set ((v5.fu).toNat) true)) v6.fo)), (wI .i64 (v2.2 + 1))))
   (j2 v2.1)
def Ht (N : Nat) (p0 : Ad) (p1 : List Aa) : Option Ad :=
 (Gv N p0 p0.fh p0.fm).bind fun v1 =>
 EQ N p1 (fun (v3 : (List Aq)) =>
  some ((Ad.mk v1.1.fc v1.1.fh v1.1.fm v3))) N (v1.1.fb, 0)
def Iz (_ : Nat) (p0 : Int) (p1 : Int) : Option (Int × Int) :=
 some ((wI .u32 ((FA .u64 ((wI .u64 ((wI .u64 p0) * (wI .u64 p1)))) 32))), (wI .u32 ((wI .u64 ((wI .u64 p0) * (wI .u64 p1))))))
def IE (_ : Nat) (p0 : Int) (p1 : Int) : Option (Int × Int) :=
 some ((wI .u64 ((wI .u64 ((wI .u64 ((FA .u64 p0 32) * (FA .u64 p1 32))) + (FA .u64 ((wI .u64 ((wI .u64 ((FA .u64 p0 32) * (Hh .u64 p1 4294967295))) + (FA .u64 ((wI .u64 ((Hh .u64 p0 4294967295) * (Hh .u64 p1 4294967295)))) 32)))) 32))) + (FA .u64 ((wI .u64 ((Hh .u64 ((wI .u64 ((wI .u64 ((FA .u64 p0 32) * (Hh .u64 p1 4294967295))) + (FA .u64 ((wI .u64 ((Hh .u64 p0 4294967295) * (Hh .u64 p1 4294967295)))) 32)))) 4294967295) + (wI .u64 ((Hh .u64 p0 4294967295) * (FA .u64 p1 32)))))) 32))), (wI .u64 (p0 * p1)))
def Ji (N : Nat) (p0 : Int) (p1 : Int) : Option (Int × Int) :=
 AW false
  ((Iz N ((wI .u32 p0)) ((wI .u32 p1))).bind fun v2 =>
  some ((wI .u64 v2.1), (wI .u64 v2.2)))
  ((IE N p0 p1).bind fun v3 =>
  some (v3.1, v3.2))
def E3 (N : Nat) (j9 : ((List Int)) → Option ((List Int))) : Nat → ((List Int) × Int) → Option ((List Int))
 | 0, _ => none
 | n9 + 1, v9 =>
  AW ((decide (v9.2 < (v9.1.length : Int))))
   ((Eh ((0 : Int) ≤ v9.2 ∧ (v9.2).toNat ≤ v9.1.length ∧ v9.1.length ≤ v9.1.length)).bind fun _ =>
   (Eh ((0 : Int) ≤ v9.2 ∧ 0 ≤ (v9.2).toNat ∧ (v9.2).toNat ≤ v9.1.length)).bind fun _ =>
   E3 N j9 n9 (HM v9.1 ((v9.2).toNat) ((((v9.1.drop 0).take ((v9.2).toNat))).take (Nat.min (((v9.1.drop 0).take ((v9.2).toNat))).length ((v9.1.length - (v9.2).toNat)))), (wI .i64 (v9.2 + (((Nat.min (((v9.1.drop 0).take ((v9.2).toNat))).length ((v9.1.length - (v9.2).toNat))) : Nat) : Int)))))
   (j9 v9.1)
def FH (N : Nat) (p0 : List Int) (p1 : Int) : Option ((List Int)) :=
 Bd (fun (_ : Unit) =>
  (Ji N ((wI .u64 ((p0.length : Int)))) ((wI .u64 p1))).bind fun v3 =>
  Bd (fun (_ : Unit) =>
   (Eh ((0 : Int) ≤ (wI .i64 v3.2) ∧ (wI .i64 v3.2) ≤ (wI .i64 v3.2) ∧ (wI .i64 v3.2) ≤ (DP : Int))).bind fun _ =>
   E3 N (fun (v10 : (List Int)) =>
    some v10) N (HM (List.replicate ((wI .i64 v3.2)).toNat ((0 : Int))) 0 (p0.take (Nat.min p0.length ((List.replicate ((wI .i64 v3.2)).toNat ((0 : Int))).length))), (((Nat.min p0.length ((List.replicate ((wI .i64 v3.2)).toNat ((0 : Int))).length)) : Nat) : Int)))
  fun j4 =>
  Bd (fun (v5 : Bool) =>
   AW v5
    (none)
    (j4 ()))
  fun j5 =>
  AW ((decide (0 < v3.1)))
   (j5 true)
   (j5 (decide (9223372036854775807 < v3.2))))
 fun j1 =>
 AW ((decide (p1 < 0)))
  (none)
  (j1 ())
def GW (_ : Nat) (p0 : Aq) : Option Bool :=
 Bd (fun (v1 : Bool) =>
  some v1)
 fun j1 =>
 AW ((p0.ff == 3))
  (j1 true)
  (j1 (p0.ff == 4))
def Fl (N : Nat) (p0 : Ad) (j6 : ((List Int)) → Option (Ag × Int)) : Nat → ((List Int) × Int) → Option (Ag × Int)
 | 0, _ => none
 | n6 + 1, v6 =>
  AW ((decide (v6.2 < (p0.fb.length : Int))))
   (Bd (fun (v9 : (List Int)) =>
    Fl N p0 j6 n6 (v9, (wI .i64 (v6.2 + 1))))
   fun j9 =>
   (A5 p0.fb v6.2).bind fun v10 =>
   (GW N v10).bind fun v11 =>
   AW v11
    ((A5 p0.fh v10.fg).bind fun v13 =>
    (Eh (0 ≤ v13)).bind fun _ =>
    (A5 v6.1 v6.2).bind fun _ =>
    j9 (v6.1.set ((v6.2).toNat) ((Dw .u8 1 v13))))
    (j9 v6.1))
   (j6 v6.1)
def Jb (N : Nat) (p0 : Ad) : Option (Ag × Int) :=
 (BV N p0).bind fun v1 =>
 AW ((v1 != 0))
  (some ((Ag.mk (([] : List Int)) (([] : List Int)) (([] : List Int))), v1))
  ((A6 N p0.fh).bind fun v3 =>
  (FH N (([(-1)] : List Int)) ((p0.fh.length : Int))).bind fun v4 =>
  (Eh ((0 : Int) ≤ (p0.fb.length : Int) ∧ (p0.fb.length : Int) ≤ (p0.fb.length : Int) ∧ (p0.fb.length : Int) ≤ (DP : Int))).bind fun _ =>
  Fl N p0 (fun (v7 : (List Int)) =>
   some ((Ag.mk v3 v4 v7), 0)) N (List.replicate ((p0.fb.length : Int)).toNat ((0 : Int)), 0))
def Gr (_ : Nat) (p0 : Ag) (p1 : Int) : Option Int :=
 (A5 p0.fd p1).bind fun v1 =>
 (Eh (0 ≤ v1)).bind fun _ =>
 Bd (fun (v3 : Int) =>
  some v3)
 fun j3 =>
 (A5 p0.fa p1).bind fun v4 =>
 AW ((decide (0 ≤ v4)))
  ((A5 p0.fa p1).bind fun v6 =>
  (Eh (0 ≤ v6)).bind fun _ =>
  j3 (Q3 .u8 ((Dw .u8 1 v1)) ((Dw .u8 1 v6))))
  (j3 (Dw .u8 1 v1))
def Fm (N : Nat) (p0 : Ad) (p1 : Ag) (j7 : Unit → Option Int) : Nat → Int → Option Int
 | 0, _ => none
 | n7 + 1, v7 =>
  AW ((decide (v7 < (p0.fc.length : Int))))
   ((A5 p0.fc v7).bind fun v10 =>
   Bd (fun (v11 : Bool) =>
    AW v11
     (some 7)
     ((A5 p1.fd v7).bind fun v20 =>
     (A5 p1.fa v7).bind fun v21 =>
     AW ((v20 == v21))
      (some 1)
      (Fm N p0 p1 j7 n7 (wI .i64 (v7 + 1)))))
   fun j11 =>
   (A5 p1.fd v7).bind fun v12 =>
   AW ((decide (v12 < 0)))
    (j11 true)
    ((A5 p1.fd v7).bind fun v14 =>
    AW ((decide (v10 ≤ v14)))
     (j11 true)
     ((A5 p1.fa v7).bind fun v16 =>
     AW ((decide (v16 < (-1))))
      (j11 true)
      ((A5 p1.fa v7).bind fun v18 =>
      j11 (decide (v10 ≤ v18))))))
   (j7 ())
def EY (N : Nat) (p0 : Ad) (p1 : Ag) (j23 : Unit → Option Int) : Nat → Int → Option Int
 | 0, _ => none
 | n23 + 1, v23 =>
  AW ((decide (v23 < (p0.fb.length : Int))))
   ((A5 p0.fb v23).bind fun v26 =>
   Bd (fun (v27 : Int × Int) =>
    Bd (fun (v33 : Bool) =>
     AW v33
      (some 1)
      (EY N p0 p1 j23 n23 (wI .i64 (v23 + 1))))
    fun j33 =>
    (A5 p1.fe v23).bind fun v34 =>
    AW (((Ek .u8 v27.1 v34) != 0))
     (j33 true)
     ((A5 p1.fe v23).bind fun v36 =>
     j33 ((Ek .u8 v36 v27.2) != 0)))
   fun j27 =>
   (GW N v26).bind fun v28 =>
   AW v28
    ((Gr N p1 v26.fg).bind fun v30 =>
    (A5 p0.fc v26.fg).bind fun v31 =>
    (Eh (0 ≤ v31)).bind fun _ =>
    j27 (v30, (wI .u8 ((Dw .u8 1 v31) - 1))))
    (j27 (0, 0)))
   (j23 ())
def GM (N : Nat) (p0 : Ad) (p1 : Ag) : Option Int :=
 (BV N p0).bind fun v1 =>
 AW ((v1 != 0))
  (some v1)
  (Bd (fun (v3 : Bool) =>
   AW v3
    (some 6)
    (Fm N p0 p1 (fun (_ : Unit) =>
     EY N p0 p1 (fun (_ : Unit) =>
      some 0) N 0) N 0))
  fun j3 =>
  AW (((p1.fd.length : Int) != (p0.fc.length : Int)))
   (j3 true)
   (AW (((p1.fa.length : Int) != (p0.fc.length : Int)))
    (j3 true)
    (j3 ((p1.fe.length : Int) != (p0.fb.length : Int)))))
def Cr (_ : Nat) (p0 : List Int) : Option ((List Int)) :=
 (Eh ((([] : List Int)).length + p0.length ≤ DP)).bind fun _ =>
 some ((([] : List Int)) ++ p0)
def E1 (N : Nat) (p1 : Ag) (j3 : ((List Int)) → Option ((List Ag) × Int)) : Nat → ((List Int) × Int) → Option ((List Ag) × Int)
 | 0, _ => none
 | n3 + 1, v3 =>
  AW ((decide (v3.2 < (p1.fa.length : Int))))
   (Bd (fun (v6 : (List Int)) =>
    E1 N p1 j3 n3 (v6, (wI .i64 (v3.2 + 1))))
   fun j6 =>
   (A5 p1.fa v3.2).bind fun v7 =>
   AW ((decide (0 ≤ v7)))
    ((Eh (v3.1.length + (([v3.2] : List Int)).length ≤ DP)).bind fun _ =>
    j6 (v3.1 ++ (([v3.2] : List Int))))
    (j6 v3.1))
   (j3 v3.1)
def D2 (N : Nat) (v4 : (List Int)) (v11 : (List Ag) × Int) (j17 : ((List Int)) → Option ((List Ag) × Int)) : Nat → ((List Int) × Int) → Option ((List Ag) × Int)
 | 0, _ => none
 | n17 + 1, v17 =>
  AW ((decide (v17.2 < (v4.length : Int))))
   (Bd (fun (v20 : (List Int)) =>
    D2 N v4 v11 j17 n17 (v20, (wI .i64 (v17.2 + 1))))
   fun j20 =>
   (A5 v4 v17.2).bind fun v21 =>
   (Eh (0 ≤ v17.2)).bind fun _ =>
   AW (((Hh .i64 ((FA .i64 v11.2 v17.2)) 1) == 1))
    ((A5 v17.1 v21).bind fun _ =>
    j20 (v17.1.set ((v21).toNat) ((-1))))
    (j20 v17.1))
   (j17 v17.1)
def DZ (N : Nat) (p1 : Ag) (v4 : (List Int)) (j11 : ((List Ag)) → Option ((List Ag) × Int)) : Nat → ((List Ag) × Int) → Option ((List Ag) × Int)
 | 0, _ => none
 | n11 + 1, v11 =>
  AW ((decide (v11.2 < (Dw .i64 1 ((v4.length : Int))))))
   ((A6 N p1.fd).bind fun v14 =>
   (A6 N p1.fa).bind fun v15 =>
   (Cr N p1.fe).bind fun v16 =>
   D2 N v4 v11 (fun (v18 : (List Int)) =>
    (Eh (v11.1.length + (([(Ag.mk v14 v18 v16)] : List Ag)).length ≤ DP)).bind fun _ =>
    DZ N p1 v4 j11 n11 (v11.1 ++ (([(Ag.mk v14 v18 v16)] : List Ag)), (wI .i64 (v11.2 + 1)))) N (v15, 0))
   (j11 v11.1)
def Ih (N : Nat) (p0 : Ad) (p1 : Ag) : Option ((List Ag) × Int) :=
 (GM N p0 p1).bind fun v1 =>
 AW ((v1 != 0))
  (some (([] : List Ag), v1))
  (E1 N p1 (fun (v4 : (List Int)) =>
   (Eh (0 ≤ (v4.length : Int))).bind fun _ =>
   DZ N p1 v4 (fun (v12 : (List Ag)) =>
    some (v12, 0)) N (([] : List Ag), 0)) N (([] : List Int), 0))
def Cy (N : Nat) (v1 : (List Aa) × Int) (v4 : Aq) (v6 : Int) (v11 : (List Aa) × Int) (v17 : List Bool) (j18 : ((List Aa) × Bool) → Option ((List Aa))) : Nat → ((List Aa) × Bool × Int) → Option ((List Aa))
 | 0, _ => none
 | n18 + 1, v18 =>
  AW ((decide (v18.2.2 < (v17.length : Int))))
   (Bd (fun (v21 : (List Aa) × Bool) =>
    Cy N v1 v4 v6 v11 v17 j18 n18 (v21.1, v21.2, (wI .i64 (v18.2.2 + 1))))
   fun j21 =>
   (A5 v17 v18.2.2).bind fun v22 =>
   (Eh (0 ≤ v18.2.2)).bind fun _ =>
   AW (((Hh .u8 ((FA .u8 v6 v18.2.2)) 1) == 0))
    (j21 (v18.1, v18.2.1))
    (Bd (fun (v25 : Bool) =>
     Bd (fun (v27 : Bool) =>
      AW v27
       ((Eh (v18.1.length + (([(Aa.mk v1.2 v11.2 v18.2.2)] : List Aa)).length ≤ DP)).bind fun _ =>
       j21 (v18.1 ++ (([(Aa.mk v1.2 v11.2 v18.2.2)] : List Aa)), v25))
       (j21 (v18.1, v25)))
     fun j27 =>
     AW ((!v22))
      (j27 (!v4.fp))
      (j27 false))
    fun j25 =>
    AW v18.2.1
     (j25 true)
     (j25 v22)))
   (j18 (v18.1, v18.2.1))
def C6 (N : Nat) (v1 : (List Aa) × Int) (v4 : Aq) (v6 : Int) (v7 : Int) (j11 : ((List Aa)) → Option ((List Aa))) : Nat → ((List Aa) × Int) → Option ((List Aa))
 | 0, _ => none
 | n11 + 1, v11 =>
  AW ((decide (v11.2 < (v4.fi.length : Int))))
   (Bd (fun (v14 : (List Aa)) =>
    C6 N v1 v4 v6 v7 j11 n11 (v14, (wI .i64 (v11.2 + 1))))
   fun j14 =>
   (Eh (0 ≤ v11.2)).bind fun _ =>
   AW (((Hh .u8 ((FA .u8 v7 v11.2)) 1) == 0))
    (j14 v11.1)
    ((A5 v4.fi v11.2).bind fun v17 =>
    Cy N v1 v4 v6 v11 v17 (fun (v19 : (List Aa) × Bool) =>
     Bd (fun (v31 : Bool) =>
      AW v31
       ((Eh (v19.1.length + (([(Aa.mk v1.2 v11.2 ((-1)))] : List Aa)).length ≤ DP)).bind fun _ =>
       j14 (v19.1 ++ (([(Aa.mk v1.2 v11.2 ((-1)))] : List Aa))))
       (j14 v19.1))
     fun j31 =>
     AW v4.fp
      (j31 (!v19.2))
      (j31 false)) N (v11.1, false, 0)))
   (j11 v11.1)
def Ex (N : Nat) (p0 : Ad) (p1 : Ag) (j1 : ((List Aa)) → Option ((List Aa))) : Nat → ((List Aa) × Int) → Option ((List Aa))
 | 0, _ => none
 | n1 + 1, v1 =>
  AW ((decide (v1.2 < (p0.fb.length : Int))))
   ((A5 p0.fb v1.2).bind fun v4 =>
   (Gr N p1 v4.fg).bind fun v5 =>
   (Gr N p1 v4.fk).bind fun v6 =>
   Bd (fun (v7 : Int) =>
    C6 N v1 v4 v6 v7 (fun (v12 : (List Aa)) =>
     Ex N p0 p1 j1 n1 (v12, (wI .i64 (v1.2 + 1)))) N (v1.1, 0))
   fun j7 =>
   (GW N v4).bind fun v8 =>
   AW v8
    ((A5 p1.fe v1.2).bind fun v10 =>
    j7 v10)
    (j7 v5))
   (j1 v1.1)
def G8 (N : Nat) (p0 : Ad) (p1 : Ag) : Option ((List Aa)) :=
 Ex N p0 p1 (fun (v2 : (List Aa)) =>
  some v2) N (([] : List Aa), 0)
def F6 (N : Nat) (p0 : Ad) (v1 : (List Ag) × Int) (j3 : Unit → Option (Ag × Aa × Int)) : Nat → Int → Option (Ag × Aa × Int)
 | 0, _ => none
 | n3 + 1, v3 =>
  AW ((decide (v3 < (v1.1.length : Int))))
   ((A5 v1.1 v3).bind fun v6 =>
   (G8 N p0 v6).bind fun v7 =>
   AW ((decide (0 < (v7.length : Int))))
    ((A5 v7 0).bind fun v9 =>
    some (v6, v9, 0))
    (F6 N p0 v1 j3 n3 (wI .i64 (v3 + 1))))
   (j3 ())
def IU (N : Nat) (p0 : Ad) (p1 : Ag) : Option (Ag × Aa × Int) :=
 (Ih N p0 p1).bind fun v1 =>
 AW ((v1.2 != 0))
  (some ((Ag.mk (([] : List Int)) (([] : List Int)) (([] : List Int))), (Aa.mk 0 0 0), v1.2))
  (F6 N p0 v1 (fun (_ : Unit) =>
   some ((Ag.mk (([] : List Int)) (([] : List Int)) (([] : List Int))), (Aa.mk 0 0 0), 15)) N 0)
def Hw (N : Nat) (p0 : Ad) (p1 : Ag) : Option (Bool × Int) :=
 (IU N p0 p1).bind fun v1 =>
 AW ((v1.2.2 == 0))
  (some (false, 0))
  (AW ((v1.2.2 == 15))
   (some (true, 0))
   (some (false, v1.2.2)))
def FJ (N : Nat) (p0 : Ag) (j2 : ((List Int)) → Option ByteArray) : Nat → ((List Int) × Int) → Option ByteArray
 | 0, _ => none
 | n2 + 1, v2 =>
  AW ((decide (v2.2 < (p0.fd.length : Int))))
   ((A5 p0.fd v2.2).bind fun v5 =>
   (A5 p0.fa v2.2).bind fun v6 =>
   (Eh (v2.1.length + (([(wI .u8 v5), (wI .u8 ((wI .i64 (v6 + 1))))] : List Int)).length ≤ DP)).bind fun _ =>
   FJ N p0 j2 n2 (v2.1 ++ (([(wI .u8 v5), (wI .u8 ((wI .i64 (v6 + 1))))] : List Int)), (wI .i64 (v2.2 + 1))))
   (j2 v2.1)
def EK (N : Nat) (p0 : Ag) (j8 : ((List Int)) → Option ByteArray) : Nat → ((List Int) × Int) → Option ByteArray
 | 0, _ => none
 | n8 + 1, v8 =>
  AW ((decide (v8.2 < (p0.fe.length : Int))))
   ((A5 p0.fe v8.2).bind fun v11 =>
   (Eh (v8.1.length + (([v11] : List Int)).length ≤ DP)).bind fun _ =>
   EK N p0 j8 n8 (v8.1 ++ (([v11] : List Int)), (wI .i64 (v8.2 + 1))))
   (j8 v8.1)
def IP (N : Nat) (p0 : Ag) : Option ByteArray :=
 (Eh ((0 : Int) ≤ 0 ∧ 0 ≤ (wI .i64 ((wI .i64 (2 * (p0.fd.length : Int))) + (p0.fe.length : Int))) ∧ (wI .i64 ((wI .i64 (2 * (p0.fd.length : Int))) + (p0.fe.length : Int))) ≤ (DP : Int))).bind fun _ =>
 FJ N p0 (fun (v3 : (List Int)) =>
  EK N p0 (fun (v9 : (List Int)) =>
   some ((Di v9))) N (v3, 0)) N (List.replicate (0 : Int).toNat ((0 : Int)), 0)
def FT (N : Nat) (v1 : (List Ah) × Int) (v4 : Int) (j5 : ((List Ah)) → Option ((List Ah))) : Nat → ((List Ah) × Int) → Option ((List Ah))
 | 0, _ => none
 | n5 + 1, v5 =>
  AW ((decide (v5.2 < v4)))
   ((Eh (v5.1.length + (([(Ah.mk 1 v1.2 v5.2)] : List Ah)).length ≤ DP)).bind fun _ =>
   FT N v1 v4 j5 n5 (v5.1 ++ (([(Ah.mk 1 v1.2 v5.2)] : List Ah)), (wI .i64 (v5.2 + 1))))
   (j5 v5.1)
def Ea (N : Nat) (p0 : Ad) (j1 : ((List Ah)) → Option ((List Ah))) : Nat → ((List Ah) × Int) → Option ((List Ah))
 | 0, _ => none
 | n1 + 1, v1 =>
  AW ((decide (v1.2 < (p0.fc.length : Int))))
   ((A5 p0.fc v1.2).bind fun v4 =>
   FT N v1 v4 (fun (v6 : (List Ah)) =>
    Ea N p0 j1 n1 (v6, (wI .i64 (v1.2 + 1)))) N (v1.1, 0))
   (j1 v1.1)
def C7 (N : Nat) (p0 : Ad) (j9 : ((List Ah)) → Option ((List Ah))) : Nat → ((List Ah) × Int) → Option ((List Ah))
 | 0, _ => none
 | n9 + 1, v9 =>
  AW ((decide (v9.2 < (p0.fc.length : Int))))
   ((Eh (v9.1.length + (([(Ah.mk 2 v9.2 0)] : List Ah)).length ≤ DP)).bind fun _ =>
   C7 N p0 j9 n9 (v9.1 ++ (([(Ah.mk 2 v9.2 0)] : List Ah)), (wI .i64 (v9.2 + 1))))
   (j9 v9.1)
def BN (N : Nat) (p0 : Ad) (j13 : ((List Ah)) → Option ((List Ah))) : Nat → ((List Ah) × Int) → Option ((List Ah))
 | 0, _ => none
 | n13 + 1, v13 =>
  AW ((decide (v13.2 < (p0.fb.length : Int))))
   ((Eh (v13.1.length + (([(Ah.mk 3 v13.2 0)] : List Ah)).length ≤ DP)).bind fun _ =>
   BN N p0 j13 n13 (v13.1 ++ (([(Ah.mk 3 v13.2 0)] : List Ah)), (wI .i64 (v13.2 + 1))))
   (j13 v13.1)
def Jz (N : Nat) (p0 : Ad) : Option ((List Ah)) :=
 Ea N p0 (fun (v2 : (List Ah)) =>
  C7 N p0 (fun (v10 : (List Ah)) =>
   BN N p0 (fun (v14 : (List Ah)) =>
    some v14) N (v10, 0)) N (v2, 0)) N (([] : List Ah), 0)
def HZ (N : Nat) (p0 : Ag) : Option Ag :=
 (A6 N p0.fd).bind fun v1 =>
 (A6 N p0.fa).bind fun v2 =>
 (Cr N p0.fe).bind fun v3 =>
 some ((Ag.mk v1 v2 v3))
def G7 (_ : Nat) (p0 : Aq) : Option Bool :=
 Bd (fun (v1 : Bool) =>
  some v1)
 fun j1 =>
 AW ((p0.ff == 3))
  (j1 true)
  (j1 (p0.ff == 4))
def EX (N : Nat) (p0 : Ad) (p2 : Ah) (j7 : ((List Int)) → Option (Bool × (List Int) × (List Int))) : Nat → ((List Int) × Int) → Option (Bool × (List Int) × (List Int))
 | 0, _ => none
 | n7 + 1, v7 =>
  AW ((decide (v7.2 < (p0.fb.length : Int))))
   (Bd (fun (v10 : (List Int)) =>
    EX N p0 p2 j7 n7 (v10, (wI .i64 (v7.2 + 1))))
   fun j10 =>
   (A5 p0.fb v7.2).bind fun v11 =>
   Bd (fun (v12 : Bool) =>
    AW v12
     ((A5 v7.1 v7.2).bind fun v16 =>
     (Eh (0 ≤ p2.fr)).bind fun _ =>
     (A5 v7.1 v7.2).bind fun _ =>
     j10 (v7.1.set ((v7.2).toNat) ((Q3 .u8 v16 ((Dw .u8 1 p2.fr))))))
     (j10 v7.1))
   fun j12 =>
   AW ((v11.fg == p2.fj))
    ((G7 N v11).bind fun v14 =>
    j12 v14)
    (j12 false))
   (j7 v7.1)
def Jo (N : Nat) (p0 : Ad) (p1 : Ag) (p2 : Ah) : Option (Bool × (List Int) × (List Int)) :=
 Bd (fun (v1 : Bool) =>
  AW v1
   (some (false, p1.fa, p1.fe))
   ((A5 p1.fa p2.fj).bind fun _ =>
   EX N p0 p2 (fun (v8 : (List Int)) =>
    some (true, p1.fa.set ((p2.fj).toNat) p2.fr, v8)) N (p1.fe, 0)))
 fun j1 =>
 (A5 p1.fa p2.fj).bind fun v2 =>
 AW ((decide (0 ≤ v2)))
  (j1 true)
  ((A5 p1.fd p2.fj).bind fun v4 =>
  j1 (v4 == p2.fr))
def Hq (_ : Nat) (p0 : Ag) (p1 : Int) : Option Int :=
 (A5 p0.fd p1).bind fun v1 =>
 (Eh (0 ≤ v1)).bind fun _ =>
 Bd (fun (v3 : Int) =>
  some v3)
 fun j3 =>
 (A5 p0.fa p1).bind fun v4 =>
 AW ((decide (0 ≤ v4)))
  ((A5 p0.fa p1).bind fun v6 =>
  (Eh (0 ≤ v6)).bind fun _ =>
  j3 (Q3 .u8 ((Dw .u8 1 v1)) ((Dw .u8 1 v6))))
  (j3 (Dw .u8 1 v1))
def D3 (_ : Nat) (p0 : Int) : Option Int :=
 (WY ((⟨⟨(List.append (List.append [8, 0, 1, 0, 2, 0, 1, 0, 3, 0, 1, 0, 2, 0, 1, 0, 4, 0, 1, 0, 2, 0, 1, 0, 3, 0, 1, 0, 2, 0, 1, 0, 5, 0, 1, 0, 2, 0, 1, 0, 3, 0, 1, 0, 2, 0, 1, 0, 4, 0, 1, 0, 2, 0, 1, 0, 3, 0, 1, 0, 2, 0, 1, 0] [6, 0, 1, 0, 2, 0, 1, 0, 3, 0, 1, 0, 2, 0, 1, 0, 4, 0, 1, 0, 2, 0, 1, 0, 3, 0, 1, 0, 2, 0, 1, 0, 5, 0, 1, 0, 2, 0, 1, 0, 3, 0, 1, 0, 2, 0, 1, 0, 4, 0, 1, 0, 2, 0, 1, 0, 3, 0, 1, 0, 2, 0, 1, 0]) (List.append [7, 0, 1, 0, 2, 0, 1, 0, 3, 0, 1, 0, 2, 0, 1, 0, 4, 0, 1, 0, 2, 0, 1, 0, 3, 0, 1, 0, 2, 0, 1, 0, 5, 0, 1, 0, 2, 0, 1, 0, 3, 0, 1, 0, 2, 0, 1, 0, 4, 0, 1, 0, 2, 0, 1, 0, 3, 0, 1, 0, 2, 0, 1, 0] [6, 0, 1, 0, 2, 0, 1, 0, 3, 0, 1, 0, 2, 0, 1, 0, 4, 0, 1, 0, 2, 0, 1, 0, 3, 0, 1, 0, 2, 0, 1, 0, 5, 0, 1, 0, 2, 0, 1, 0, 3, 0, 1, 0, 2, 0, 1, 0, 4, 0, 1, 0, 2, 0, 1, 0, 3, 0, 1, 0, 2, 0, 1, 0]))⟩⟩ : ByteArray)) p0).bind fun v1 =>
 some ((wI .i64 v1))
def EH (N : Nat) (p0 : Aq) (p2 : Int) (j1 : Unit → Option Bool) : Nat → Int → Option Bool
 | 0, _ => none
 | n1 + 1, v1 =>
  AW ((v1 != 0))
   ((D3 N v1).bind fun v4 =>
   (A5 p0.fo v4).bind fun v5 =>
   (A5 v5 p2).bind fun v6 =>
   AW ((!v6))
    (some false)
    (EH N p0 p2 j1 n1 (Hh .u8 v1 ((wI .u8 (v1 - 1))))))
   (j1 ())
def Hm (N : Nat) (p0 : Aq) (p1 : Int) (p2 : Int) : Option Bool :=
 EH N p0 p2 (fun (_ : Unit) =>
  some true) N p1
def Ir (N : Nat) (p0 : Ad) (p1 : Ag) (p2 : Int) : Option (Bool × (List Int)) :=
 (A5 p0.fb p2).bind fun v1 =>
 (G7 N v1).bind fun v2 =>
 AW ((!v2))
  (some (false, p1.fe))
  ((Hq N p1 v1.fg).bind fun v4 =>
  (A5 p1.fe p2).bind fun v5 =>
  Bd (fun (v6 : Bool) =>
   AW v6
    (some (false, p1.fe))
    ((A5 p1.fe p2).bind fun _ =>
    some (true, p1.fe.set ((p2).toNat) v4)))
  fun j6 =>
  (A5 p1.fe p2).bind fun v7 =>
  AW ((v7 == v4))
   (j6 true)
   (AW ((v1.ff == 4))
    ((A5 p1.fd v1.fg).bind fun v10 =>
    (Hm N v1 ((Ek .u8 v5 v4)) v10).bind fun v11 =>
    j6 (!v11))
    (j6 false)))
def GU (N : Nat) (p0 : Ad) (p1 : Ag) (p2 : Ah) : Option (Ag × Bool) :=
 (HZ N p1).bind fun v1 =>
 AW ((p2.ff == 1))
  ((Jo N p0 v1 p2).bind fun v3 =>
  some ((Ag.mk v1.fd v3.2.1 v3.2.2), v3.1))
  (AW ((p2.ff == 3))
   ((Ir N p0 v1 p2.fj).bind fun v5 =>
   some ((Ag.mk v1.fd v1.fa v5.2), v5.1))
   ((A5 v1.fa p2.fj).bind fun v6 =>
   AW ((decide (v6 < 0)))
    (some (v1, false))
    ((A5 v1.fa p2.fj).bind fun _ =>
    Bd (fun (v9 : (List Int)) =>
     some ((Ag.mk v9 (v1.fa.set ((p2.fj).toNat) ((-1))) v1.fe), true))
    fun j9 =>
    AW ((p2.ff == 2))
     ((A5 v1.fd p2.fj).bind fun _ =>
     j9 (v1.fd.set ((p2.fj).toNat) v6))
     (j9 v1.fd))))
def EB (N : Nat) (p0 : Ah) (p1 : List Int) (p2 : List Int) (p3 : List Int) (p4 : List Aq) (p5 : List Int) (p6 : List Int) (p7 : List Int) : Option Bool :=
 (GU N ((Ad.mk p1 p2 p3 p4)) ((Ag.mk p5 p6 p7)) p0).bind fun v1 =>
 some ((!v1.2))
def A9 (N : Nat) (p0 : List Ah) (p1 : Ah → Option Bool) (j1 : Unit → Option Int) : Nat → Int → Option Int
 | 0, _ => none
 | n1 + 1, v1 =>
  AW ((decide (v1 < (p0.length : Int))))
   ((A5 p0 v1).bind fun v4 =>
   (p1 v4).bind fun v5 =>
   AW v5
    (some v1)
    (A9 N p0 p1 j1 n1 (wI .i64 (v1 + 1))))
   (j1 ())
def Ce (N : Nat) (p0 : List Ah) (p1 : Ah → Option Bool) : Option Int :=
 A9 N p0 p1 (fun (_ : Unit) =>
  some ((-1))) N 0
def A2 (N : Nat) (p1 : Ah → Option Bool) (j3 : ((List Ah) × Int) → Option (Nat × (List Ah))) : Nat → ((List Ah) × Int × Int) → Option (Nat × (List Ah))
 | 0, _ => none
 | n3 + 1, v3 =>
  AW ((decide (v3.2.2 < (v3.1.length : Int))))
   (Bd (fun (v6 : (List Ah) × Int) =>
    A2 N p1 j3 n3 (v6.1, v6.2, (wI .i64 (v3.2.2 + 1))))
   fun j6 =>
   (A5 v3.1 v3.2.2).bind fun v7 =>
   (p1 v7).bind fun v8 =>
   AW ((!v8))
    ((A5 v3.1 v3.2.1).bind fun _ =>
    j6 (v3.1.set ((v3.2.1).toNat) v7, (wI .i64 (v3.2.1 + 1))))
    (j6 (v3.1, v3.2.1)))
   (j3 (v3.1, v3.2.1))
def B8 (N : Nat) (p0 : List Ah) (p1 : Ah → Option Bool) : Option (Nat × (List Ah)) :=
 (Ce N p0 p1).bind fun v1 =>
 AW ((v1 == (-1)))
  (some (p0.length, p0))
  (A2 N p1 (fun (v4 : (List Ah) × Int) =>
   (Eh ((0 : Int) ≤ v4.2 ∧ (v4.2).toNat ≤ v4.1.length ∧ v4.1.length ≤ v4.1.length)).bind fun _ =>
   (Eh ((0 : Int) ≤ v4.2 ∧ 0 ≤ (v4.2).toNat ∧ (v4.2).toNat ≤ (HM v4.1 ((v4.2).toNat) (List.replicate ((v4.1.length - (v4.2).toNat)) ((Ah.mk 0 0 0)))).length)).bind fun _ =>
   some ((v4.2).toNat, HM v4.1 ((v4.2).toNat) (List.replicate ((v4.1.length - (v4.2).toNat)) ((Ah.mk 0 0 0))))) N (p0, v1, (wI .i64 (v1 + 1))))
def Hu (N : Nat) (p0 : Ad) (p1 : Ag) : Option ((List Ah) × Int) :=
 (GM N p0 p1).bind fun v1 =>
 AW ((v1 != 0))
  (some (([] : List Ah), v1))
  ((Jz N p0).bind fun v3 =>
  (B8 N v3 ((fun (x : Ah) => EB N x p0.fc p0.fh p0.fm p0.fb p1.fd p1.fa p1.fe))).bind fun v4 =>
  (Eh (v4.1 ≤ v4.2.length)).bind fun _ =>
  some (v4.2.take v4.1, 0))
def In (_ : Nat) (p0 : Ah) : Option Bool :=
 Bd (fun (v1 : Bool) =>
  AW v1
   (some false)
   (Bd (fun (v5 : Bool) =>
    some v5)
   fun j5 =>
   AW ((p0.ff == 1))
    (j5 true)
    (j5 (p0.fr == 0))))
 fun j1 =>
 AW ((decide ((XL p0.fj p0.fr) < 0)))
  (j1 true)
  (AW ((decide (p0.ff < 1)))
   (j1 true)
   (j1 (decide (4 < p0.ff))))
def HV (_ : Nat) (p0 : Ad) (p1 : Ah) : Option Bool :=
 AW ((p1.ff == 3))
  (some ((decide (p1.fj < (p0.fb.length : Int)))))
  (Bd (fun (v2 : Bool) =>
   some v2)
  fun j2 =>
  AW ((decide (p1.fj < (p0.fc.length : Int))))
   (AW ((p1.ff != 1))
    (j2 true)
    ((A5 p0.fc p1.fj).bind fun v5 =>
    j2 (decide (p1.fr < v5))))
   (j2 false))
def Ik (N : Nat) (p0 : Ad) (p1 : Ag) (p2 : Ah) : Option (Ag × Int) :=
 (In N p2).bind fun v1 =>
 AW ((!v1))
  (some ((Ag.mk (([] : List Int)) (([] : List Int)) (([] : List Int))), 1))
  ((HV N p0 p2).bind fun v3 =>
  AW ((!v3))
   (some ((Ag.mk (([] : List Int)) (([] : List Int)) (([] : List Int))), 4))
   ((GU N p0 p1 p2).bind fun v5 =>
   AW ((!v5.2))
    (some ((Ag.mk (([] : List Int)) (([] : List Int)) (([] : List Int))), 11))
    (some (v5.1, 0))))
def Ii (N : Nat) (p0 : Ad) (p1 : Ag) (p2 : Ah) : Option (Ag × Int) :=
 (GM N p0 p1).bind fun v1 =>
 AW ((v1 != 0))
  (some ((Ag.mk (([] : List Int)) (([] : List Int)) (([] : List Int))), v1))
  ((Ik N p0 p1 p2).bind fun v3 =>
  some (v3.1, v3.2))
def C0 (N : Nat) (p0 : Ad) (v2 : (List AG) × (List (ByteArray × Int)) × Int) (v6 : (List Ah) × Int) (j8 : ((List AG) × (List (ByteArray × Int))) → Option ((List AG) × Int)) : Nat → ((List AG) × (List (ByteArray × Int)) × Int) → Option ((List AG) × Int)
 | 0, _ => none
 | n8 + 1, v8 =>
  AW ((decide (v8.2.2 < (v6.1.length : Int))))
   ((A5 v6.1 v8.2.2).bind fun v11 =>
   (A5 v8.1 v2.2.2).bind fun v12 =>
   (Ii N p0 ((Ag.mk v12.fq.fd v12.fq.fa v12.fq.fe)) v11).bind fun v13 =>
   AW ((v13.2 != 0))
    (some (([] : List AG), v13.2))
    ((IP N v13.1).bind fun v15 =>
    Bd (fun (v16 : (List AG) × (List (ByteArray × Int)) × Int) =>
     Bd (fun (v24 : (List AG)) =>
      AW ((decide (20000 < (v24.length : Int))))
       (some (([] : List AG), 3))
       (C0 N p0 v2 v6 j8 n8 (v24, v16.2.1, (wI .i64 (v8.2.2 + 1)))))
     fun j24 =>
     AW ((decide (0 ≤ v16.2.2)))
      ((A5 v16.1 v2.2.2).bind fun v26 =>
      (Eh (v26.fa.length + (([v16.2.2] : List Int)).length ≤ DP)).bind fun _ =>
      (A5 v16.1 v2.2.2).bind fun v28 =>
      j24 (v16.1.set ((v2.2.2).toNat) ((AG.mk ((Ag.mk v28.fq.fd v28.fq.fa v28.fq.fe)) v28.fg ((Ah.mk v28.ft.ff v28.ft.fj v28.ft.fr)) (v26.fa ++ (([v16.2.2] : List Int)))))))
      (j24 v16.1))
    fun j16 =>
    AW ((!((Mb v15 v8.2.1).isSome)))
     (Bd (fun (v18 : (List AG) × Int) =>
      j16 (v18.1, Od v15 v18.2 v8.2.1, v18.2))
     fun j18 =>
     (Hw N p0 v13.1).bind fun v19 =>
     Bd (fun (v20 : Bool) =>
      AW v20
       (j18 (v8.1, (-1)))
       ((Eh (v8.1.length + (([(AG.mk v13.1 v2.2.2 v11 (([] : List Int)))] : List AG)).length ≤ DP)).bind fun _ =>
       j18 (v8.1 ++ (([(AG.mk v13.1 v2.2.2 v11 (([] : List Int)))] : List AG)), (v8.1.length : Int))))
     fun j20 =>
     AW ((v19.2 != 0))
      (j20 true)
      (j20 (!v19.1)))
     (j16 (v8.1, v8.2.1, ((Mb v15 v8.2.1).getD 0)))))
   (j8 (v8.1, v8.2.1))
def EE (N : Nat) (p0 : Ad) (j2 : ((List AG)) → Option ((List AG) × Int)) : Nat → ((List AG) × (List (ByteArray × Int)) × Int) → Option ((List AG) × Int)
 | 0, _ => none
 | n2 + 1, v2 =>
  AW ((decide (v2.2.2 < (v2.1.length : Int))))
   ((A5 v2.1 v2.2.2).bind fun v5 =>
   (Hu N p0 ((Ag.mk v5.fq.fd v5.fq.fa v5.fq.fe))).bind fun v6 =>
   AW ((v6.2 != 0))
    (some (([] : List AG), v6.2))
    (C0 N p0 v2 v6 (fun (v9 : (List AG) × (List (ByteArray × Int))) =>
     EE N p0 j2 n2 (v9.1, v9.2, (wI .i64 (v2.2.2 + 1)))) N (v2.1, v2.2.1, 0)))
   (j2 v2.1)
def HO (N : Nat) (p0 : Ad) (p1 : Ag) : Option ((List AG) × Int) :=
 (IP N p1).bind fun v1 =>
 EE N p0 (fun (v3 : (List AG)) =>
  some (v3, 0)) N (([(AG.mk p1 ((-1)) ((Ah.mk 0 0 0)) (([] : List Int)))] : List AG), Od v1 0 (([] : List (ByteArray × Int))), 0)
def CJ (N : Nat) (p0 : List Int) (p1 : List Int) (j2 : Unit → Option Bool) : Nat → Int → Option Bool
 | 0, _ => none
 | n2 + 1, v2 =>
  AW ((decide (v2 < (p0.length : Int))))
   ((A5 p0 v2).bind fun v5 =>
   (A5 p1 v2).bind fun v6 =>
   AW ((v5 != v6))
    (some false)
    (CJ N p0 p1 j2 n2 (wI .i64 (v2 + 1))))
   (j2 ())
def E2 (N : Nat) (p0 : List Int) (p1 : List Int) : Option Bool :=
 AW (((p0.length : Int) != (p1.length : Int)))
  (some false)
  (CJ N p0 p1 (fun (_ : Unit) =>
   some true) N 0)
def BA (N : Nat) (p0 : List Int) (p1 : Int → Option Bool) (j1 : Unit → Option Int) : Nat → Int → Option Int
 | 0, _ => none
 | n1 + 1, v1 =>
  AW ((decide (v1 < (p0.length : Int))))
   ((A5 p0 v1).bind fun v4 =>
   (p1 v4).bind fun v5 =>
   AW v5
    (some v1)
    (BA N p0 p1 j1 n1 (wI .i64 (v1 + 1))))
   (j1 ())
def E4 (N : Nat) (p0 : List Int) (p1 : Int → Option Bool) : Option Int :=
 BA N p0 p1 (fun (_ : Unit) =>
  some ((-1))) N 0
def Dq (N : Nat) (p0 : List Int) (p1 : Int → Option Bool) : Option Bool :=
 (E4 N p0 p1).bind fun v1 =>
 some ((decide (0 ≤ v1)))
def Ij (_ : Nat) (p0 : Int) : Option Bool :=
 some ((decide (0 ≤ p0)))
def Jv (N : Nat) (p0 : Ad) (p1 : Ag) : Option Bool :=
 Bd (fun (v1 : Bool) =>
  some v1)
 fun j1 =>
 (GM N p0 p1).bind fun v2 =>
 AW ((v2 == 0))
  ((E2 N p1.fd p0.fm).bind fun v4 =>
  AW v4
   ((Dq N p1.fa ((fun (x : Int) => Ij N x))).bind fun v6 =>
   j1 (!v6))
   (j1 false))
  (j1 false)
def FR (N : Nat) (p0 : AG) (p1 : List Int) (p2 : List Int) (p3 : List Int) (p4 : List Aq) : Option Bool :=
 (Jv N ((Ad.mk p1 p2 p3 p4)) ((Ag.mk p0.fq.fd p0.fq.fa p0.fq.fe))).bind fun v1 =>
 some v1
def A1 (N : Nat) (p0 : List AG) (p1 : AG → Option Bool) (j1 : Unit → Option Int) : Nat → Int → Option Int
 | 0, _ => none
 | n1 + 1, v1 =>
  AW ((decide (v1 < (p0.length : Int))))
   ((A5 p0 v1).bind fun v4 =>
   (p1 ((AG.mk ((Ag.mk v4.fq.fd v4.fq.fa v4.fq.fe)) v4.fg ((Ah.mk v4.ft.ff v4.ft.fj v4.ft.fr)) v4.fa))).bind fun v5 =>
   AW v5
    (some v1)
    (A1 N p0 p1 j1 n1 (wI .i64 (v1 + 1))))
   (j1 ())
def CX (N : Nat) (p0 : List AG) (p1 : AG → Option Bool) : Option Int :=
 A1 N p0 p1 (fun (_ : Unit) =>
  some ((-1))) N 0
def Bx (N : Nat) (j1 : ((List Ah)) → Option ((List Ah))) : Nat → ((List Ah) × Int × Int) → Option ((List Ah))
 | 0, _ => none
 | n1 + 1, v1 =>
  AW ((decide (v1.2.1 < v1.2.2)))
   ((A5 v1.1 v1.2.2).bind fun v4 =>
   (A5 v1.1 v1.2.1).bind fun v5 =>
   (A5 v1.1 v1.2.1).bind fun _ =>
   (A5 (v1.1.set ((v1.2.1).toNat) v4) v1.2.2).bind fun _ =>
   Bx N j1 n1 ((v1.1.set ((v1.2.1).toNat) v4).set ((v1.2.2).toNat) v5, (wI .i64 (v1.2.1 + 1)), (wI .i64 (v1.2.2 - 1))))
   (j1 v1.1)
def BO (N : Nat) (p0 : List Ah) : Option ((List Ah)) :=
 Bx N (fun (v2 : (List Ah)) =>
  some v2) N (p0, 0, (wI .i64 ((p0.length : Int) - 1)))
def G6 (N : Nat) (p0 : List AG) (j1 : ((List Ah)) → Option ((List Ah))) : Nat → (Int × (List Ah)) → Option ((List Ah))
 | 0, _ => none
 | n1 + 1, v1 =>
  (A5 p0 v1.1).bind fun v3 =>
  AW ((decide (0 ≤ v3.fg)))
   ((A5 p0 v1.1).bind fun v5 =>
   (Eh (v1.2.length + (([(Ah.mk v5.ft.ff v5.ft.fj v5.ft.fr)] : List Ah)).length ≤ DP)).bind fun _ =>
   (A5 p0 v1.1).bind fun v7 =>
   G6 N p0 j1 n1 (v7.fg, v1.2 ++ (([(Ah.mk v5.ft.ff v5.ft.fj v5.ft.fr)] : List Ah))))
   (j1 v1.2)
def KK (N : Nat) (p0 : List AG) (p1 : Int) : Option ((List Ah)) :=
 G6 N p0 (fun (v2 : (List Ah)) =>
  (BO N v2).bind fun v8 =>
  some v8) N (p1, ([] : List Ah))
def GK (N : Nat) (p0 : Ad) (p1 : Ag) : Option ((List Ah) × Int) :=
 (Hw N p0 p1).bind fun v1 =>
 AW ((v1.2 != 0))
  (some (([] : List Ah), v1.2))
  (AW ((!v1.1))
   (some (([] : List Ah), 13))
   ((HO N p0 p1).bind fun v4 =>
   AW ((v4.2 != 0))
    (some (([] : List Ah), v4.2))
    ((CX N v4.1 ((fun (x : AG) => FR N x p0.fc p0.fh p0.fm p0.fb))).bind fun v6 =>
    AW ((decide (v6 < 0)))
     (some (([] : List Ah), 14))
     ((KK N v4.1 v6).bind fun v8 =>
     some (v8, 0)))))
def Hn (N : Nat) (p0 : Ad) : Option ((List Ah) × Int) :=
 (Jb N p0).bind fun v1 =>
 AW ((v1.2 != 0))
  (some (([] : List Ah), v1.2))
  ((GK N p0 v1.1).bind fun v3 =>
  some (v3.1, v3.2))
def EP (N : Nat) (p0 : Ad) (p1 : List Aa) : Option (Bool × Int) :=
 (Ht N p0 p1).bind fun v1 =>
 (Hn N v1).bind fun v2 =>
 AW ((v2.2 == 3))
  (some (false, v2.2))
  (some ((v2.2 == 0), 0))
def EG (N : Nat) (p0 : Ad) (v7 : (List (List Aa))) (j8 : ((List (List Aa))) → Option ((List (List Aa)) × Int)) : Nat → ((List (List Aa)) × Int) → Option ((List (List Aa)) × Int)
 | 0, _ => none
 | n8 + 1, v8 =>
  AW ((decide (v8.2 < (v7.length : Int))))
   (Bd (fun (v11 : (List (List Aa))) =>
    EG N p0 v7 j8 n8 (v11, (wI .i64 (v8.2 + 1))))
   fun j11 =>
   (A5 v7 v8.2).bind fun v12 =>
   (EP N p0 v12).bind fun v13 =>
   AW ((v13.2 != 0))
    (some (([] : List (List Aa)), v13.2))
    (AW v13.1
     ((Eh (v8.1.length + (([v12] : List (List Aa))).length ≤ DP)).bind fun _ =>
     j11 (v8.1 ++ (([v12] : List (List Aa)))))
     (j11 v8.1)))
   (j8 v8.1)
def Fb (N : Nat) (p0 : Ad) (j4 : Unit → Option ((List (List Aa)) × Int)) : Nat → ((List Aa) × Int) → Option ((List (List Aa)) × Int)
 | 0, _ => none
 | n4 + 1, v4 =>
  AW ((decide (v4.2 ≤ 3)))
   ((JI N v4.1 v4.2).bind fun v7 =>
   EG N p0 v7 (fun (v9 : (List (List Aa))) =>
    AW ((decide (0 < (v9.length : Int))))
     (some (v9, 0))
     (Fb N p0 j4 n4 (v4.1, (wI .i64 (v4.2 + 1))))) N (([] : List (List Aa)), 0))
   (j4 ())
def G4 (N : Nat) (p0 : Ad) : Option ((List (List Aa)) × Int) :=
 (FE N p0).bind fun v1 =>
 AW ((v1.2 != 0))
  (some (([] : List (List Aa)), v1.2))
  (AW ((decide (24 < (v1.1.length : Int))))
   (some (([] : List (List Aa)), 3))
   (Fb N p0 (fun (_ : Unit) =>
    some (([] : List (List Aa)), 14)) N (v1.1, 0)))
def Cc (N : Nat) (p0 : List Aa) (p1 : Aa) (j1 : Unit → Option Int) : Nat → Int → Option Int
 | 0, _ => none
 | n1 + 1, v1 =>
  AW ((decide (v1 < (p0.length : Int))))
   ((A5 p0 v1).bind fun v4 =>
   AW (((p1.fw == v4.fw) && ((p1.fv == v4.fv) && ((p1.fu == v4.fu) && true))))
    (some v1)
    (Cc N p0 p1 j1 n1 (wI .i64 (v1 + 1))))
   (j1 ())
def DS (N : Nat) (p0 : List Aa) (p1 : Aa) : Option Int :=
 Cc N p0 p1 (fun (_ : Unit) =>
  some ((-1))) N 0
def Dm (N : Nat) (p0 : List Aa) (p1 : Aa) : Option Bool :=
 (DS N p0 p1).bind fun v1 =>
 some ((decide (0 ≤ v1)))
def G1 (N : Nat) (p1 : List Aa) (v3 : (List Aa)) (j4 : Unit → Option Int) : Nat → Int → Option Int
 | 0, _ => none
 | n4 + 1, v4 =>
  AW ((decide (v4 < (p1.length : Int))))
   ((A5 p1 v4).bind fun v7 =>
   (Dm N v3 v7).bind fun v8 =>
   AW ((!v8))
    (some 4)
    (G1 N p1 v3 j4 n4 (wI .i64 (v4 + 1))))
   (j4 ())
def Jh (N : Nat) (p0 : Ad) (p1 : List Aa) : Option Int :=
 (BV N p0).bind fun v1 =>
 AW ((v1 != 0))
  (some v1)
  ((EN N p0).bind fun v3 =>
  G1 N p1 v3 (fun (_ : Unit) =>
   some 0) N 0)
def CG (_ : Nat) (p0 : List Aa) : Option ((List Aa)) :=
 (Eh ((([] : List Aa)).length + p0.length ≤ DP)).bind fun _ =>
 some ((([] : List Aa)) ++ p0)
def ID (_ : Nat) (p0 : Int) : Option Int :=
 Bd (fun (v1 : Int × Int) =>
  Bd (fun (v3 : Int × Int) =>
   (WY ((⟨⟨(List.append (List.append [0, 1, 2, 2, 3, 3, 3, 3, 4, 4, 4, 4, 4, 4, 4, 4, 5, 5, 5, 5, 5, 5, 5, 5, 5, 5, 5, 5, 5, 5, 5, 5, 6, 6, 6, 6, 6, 6, 6, 6, 6, 6, 6, 6, 6, 6, 6, 6, 6, 6, 6, 6, 6, 6, 6, 6, 6, 6, 6, 6, 6, 6, 6, 6] [7, 7, 7, 7, 7, 7, 7, 7, 7, 7, 7, 7, 7, 7, 7, 7, 7, 7, 7, 7, 7, 7, 7, 7, 7, 7, 7, 7, 7, 7, 7, 7, 7, 7, 7, 7, 7, 7, 7, 7, 7, 7, 7, 7, 7, 7, 7, 7, 7, 7, 7, 7, 7, 7, 7, 7, 7, 7, 7, 7, 7, 7, 7, 7]) (List.append [8, 8, 8, 8, 8, 8, 8, 8, 8, 8, 8, 8, 8, 8, 8, 8, 8, 8, 8, 8, 8, 8, 8, 8, 8, 8, 8, 8, 8, 8, 8, 8, 8, 8, 8, 8, 8, 8, 8, 8, 8, 8, 8, 8, 8, 8, 8, 8, 8, 8, 8, 8, 8, 8, 8, 8, 8, 8, 8, 8, 8, 8, 8, 8] [8, 8, 8, 8, 8, 8, 8, 8, 8, 8, 8, 8, 8, 8, 8, 8, 8, 8, 8, 8, 8, 8, 8, 8, 8, 8, 8, 8, 8, 8, 8, 8, 8, 8, 8, 8, 8, 8, 8, 8, 8, 8, 8, 8, 8, 8, 8, 8, 8, 8, 8, 8, 8, 8, 8, 8, 8, 8, 8, 8, 8, 8, 8, 8]))⟩⟩ : ByteArray)) ((wI .u8 v3.1))).bind fun v5 =>
   some ((wI .i64 (v3.2 + (wI .i64 v5)))))
  fun j3 =>
  AW ((decide (256 ≤ v1.1)))
   (j3 ((FA .u32 v1.1 8), (wI .i64 (v1.2 + 8))))
   (j3 (v1.1, v1.2)))
 fun j1 =>
 AW ((decide (65536 ≤ p0)))
  (j1 ((FA .u32 p0 16), 16))
  (j1 (p0, 0))
def Ix (_ : Nat) (p0 : Int) : Option Int :=
 Bd (fun (v1 : Int × Int) =>
  Bd (fun (v3 : Int × Int) =>
   Bd (fun (v5 : Int × Int) =>
    (WY ((⟨⟨(List.append (List.append [0, 1, 2, 2, 3, 3, 3, 3, 4, 4, 4, 4, 4, 4, 4, 4, 5, 5, 5, 5, 5, 5, 5, 5, 5, 5, 5, 5, 5, 5, 5, 5, 6, 6, 6, 6, 6, 6, 6, 6, 6, 6, 6, 6, 6, 6, 6, 6, 6, 6, 6, 6, 6, 6, 6, 6, 6, 6, 6, 6, 6, 6, 6, 6] [7, 7, 7, 7, 7, 7, 7, 7, 7, 7, 7, 7, 7, 7, 7, 7, 7, 7, 7, 7, 7, 7, 7, 7, 7, 7, 7, 7, 7, 7, 7, 7, 7, 7, 7, 7, 7, 7, 7, 7, 7, 7, 7, 7, 7, 7, 7, 7, 7, 7, 7, 7, 7, 7, 7, 7, 7, 7, 7, 7, 7, 7, 7, 7]) (List.append [8, 8, 8, 8, 8, 8, 8, 8, 8, 8, 8, 8, 8, 8, 8, 8, 8, 8, 8, 8, 8, 8, 8, 8, 8, 8, 8, 8, 8, 8, 8, 8, 8, 8, 8, 8, 8, 8, 8, 8, 8, 8, 8, 8, 8, 8, 8, 8, 8, 8, 8, 8, 8, 8, 8, 8, 8, 8, 8, 8, 8, 8, 8, 8] [8, 8, 8, 8, 8, 8, 8, 8, 8, 8, 8, 8, 8, 8, 8, 8, 8, 8, 8, 8, 8, 8, 8, 8, 8, 8, 8, 8, 8, 8, 8, 8, 8, 8, 8, 8, 8, 8, 8, 8, 8, 8, 8, 8, 8, 8, 8, 8, 8, 8, 8, 8, 8, 8, 8, 8, 8, 8, 8, 8, 8, 8, 8, 8]))⟩⟩ : ByteArray)) ((wI .u8 v5.1))).bind fun v7 =>
    some ((wI .i64 (v5.2 + (wI .i64 v7)))))
   fun j5 =>
   AW ((decide (256 ≤ v3.1)))
    (j5 ((FA .u64 v3.1 8), (wI .i64 (v3.2 + 8))))
    (j5 (v3.1, v3.2)))
  fun j3 =>
  AW ((decide (65536 ≤ v1.1)))
   (j3 ((FA .u64 v1.1 16), (wI .i64 (v1.2 + 16))))
   (j3 (v1.1, v1.2)))
 fun j1 =>
 AW ((decide (4294967296 ≤ p0)))
  (j1 ((FA .u64 p0 32), 32))
  (j1 (p0, 0))
def H3 (N : Nat) (p0 : Int) : Option Int :=
 AW false
  ((ID N ((wI .u32 p0))).bind fun v2 =>
  some v2)
  ((Ix N p0).bind fun v3 =>
  some v3)
def B5 (N : Nat) (p1 : Int) (p3 : (Aa × Aa) → Option Int) (j4 : ((List Aa)) → Option ((List Aa))) : Nat → ((List Aa) × Int) → Option ((List Aa))
 | 0, _ => none
 | n4 + 1, v4 =>
  Bd (fun (v6 : Bool) =>
   AW v6
    ((A5 v4.1 ((wI .i64 (v4.2 - 1)))).bind fun v12 =>
    (A5 v4.1 v4.2).bind fun v13 =>
    (A5 v4.1 v4.2).bind fun _ =>
    (A5 (v4.1.set ((v4.2).toNat) v12) ((wI .i64 (v4.2 - 1)))).bind fun _ =>
    B5 N p1 p3 j4 n4 ((v4.1.set ((v4.2).toNat) v12).set (((wI .i64 (v4.2 - 1))).toNat) v13, (wI .i64 (v4.2 - 1))))
    (j4 v4.1))
  fun j6 =>
  AW ((decide (p1 < v4.2)))
   ((A5 v4.1 v4.2).bind fun v8 =>
   (A5 v4.1 ((wI .i64 (v4.2 - 1)))).bind fun v9 =>
   (p3 ((v8, v9))).bind fun v10 =>
   j6 (decide (v10 < 0)))
   (j6 false)
def B3 (N : Nat) (p1 : Int) (p2 : Int) (p3 : (Aa × Aa) → Option Int) (j1 : ((List Aa)) → Option ((List Aa))) : Nat → ((List Aa) × Int) → Option ((List Aa))
 | 0, _ => none
 | n1 + 1, v1 =>
  AW ((decide (v1.2 < p2)))
   (B5 N p1 p3 (fun (v5 : (List Aa)) =>
    B3 N p1 p2 p3 j1 n1 (v5, (wI .i64 (v1.2 + 1)))) N (v1.1, v1.2))
   (j1 v1.1)
def DA (N : Nat) (p0 : List Aa) (p1 : Int) (p2 : Int) (p3 : (Aa × Aa) → Option Int) : Option ((List Aa)) :=
 B3 N p1 p2 p3 (fun (v2 : (List Aa)) =>
  some v2) N (p0, (wI .i64 (p1 + 1)))
def CI (N : Nat) (p2 : Int) (p3 : Int) (p4 : (Aa × Aa) → Option Int) (j1 : ((List Aa)) → Option ((List Aa))) : Nat → ((List Aa) × Int) → Option ((List Aa))
 | 0, _ => none
 | n1 + 1, v1 =>
  AW ((decide (p2 ≤ (wI .i64 ((wI .i64 (2 * v1.2)) + 1)))))
   (j1 v1.1)
   (Bd (fun (v4 : Int) =>
    (A5 v1.1 ((wI .i64 (p3 + v1.2)))).bind fun v11 =>
    (A5 v1.1 ((wI .i64 (p3 + v4)))).bind fun v12 =>
    (p4 ((v11, v12))).bind fun v13 =>
    AW ((!((decide (v13 < 0)))))
     (some v1.1)
     ((A5 v1.1 ((wI .i64 (p3 + v4)))).bind fun v15 =>
     (A5 v1.1 ((wI .i64 (p3 + v1.2)))).bind fun v16 =>
     (A5 v1.1 ((wI .i64 (p3 + v1.2)))).bind fun _ =>
     (A5 (v1.1.set (((wI .i64 (p3 + v1.2))).toNat) v15) ((wI .i64 (p3 + v4)))).bind fun _ =>
     CI N p2 p3 p4 j1 n1 ((v1.1.set (((wI .i64 (p3 + v1.2))).toNat) v15).set (((wI .i64 (p3 + v4))).toNat) v16, v4)))
   fun j4 =>
   Bd (fun (v5 : Bool) =>
    AW v5
     (j4 (wI .i64 ((wI .i64 ((wI .i64 (2 * v1.2)) + 1)) + 1)))
     (j4 (wI .i64 ((wI .i64 (2 * v1.2)) + 1))))
   fun j5 =>
   AW ((decide ((wI .i64 ((wI .i64 ((wI .i64 (2 * v1.2)) + 1)) + 1)) < p2)))
    ((A5 v1.1 ((wI .i64 (p3 + (wI .i64 ((wI .i64 (2 * v1.2)) + 1)))))).bind fun v7 =>
    (A5 v1.1 ((wI .i64 ((wI .i64 (p3 + (wI .i64 ((wI .i64 (2 * v1.2)) + 1)))) + 1)))).bind fun v8 =>
    (p4 ((v7, v8))).bind fun v9 =>
    j5 (decide (v9 < 0)))
    (j5 false))
def C5 (N : Nat) (p0 : List Aa) (p1 : Int) (p2 : Int) (p3 : Int) (p4 : (Aa × Aa) → Option Int) : Option ((List Aa)) :=
 CI N p2 p3 p4 (fun (v2 : (List Aa)) =>
  some v2) N (p0, p1)
def CE (N : Nat) (p1 : Int) (p2 : Int) (p3 : (Aa × Aa) → Option Int) (j1 : ((List Aa)) → Option ((List Aa))) : Nat → ((List Aa) × Int) → Option ((List Aa))
 | 0, _ => none
 | n1 + 1, v1 =>
  AW ((decide (0 ≤ v1.2)))
   ((C5 N v1.1 v1.2 ((wI .i64 (p2 - p1))) p1 p3).bind fun v4 =>
   CE N p1 p2 p3 j1 n1 (v4, (wI .i64 (v1.2 - 1))))
   (j1 v1.1)
def CH (N : Nat) (p1 : Int) (p3 : (Aa × Aa) → Option Int) (j5 : ((List Aa)) → Option ((List Aa))) : Nat → ((List Aa) × Int) → Option ((List Aa))
 | 0, _ => none
 | n5 + 1, v5 =>
  AW ((decide (0 ≤ v5.2)))
   ((A5 v5.1 ((wI .i64 (p1 + v5.2)))).bind fun v8 =>
   (A5 v5.1 p1).bind fun v9 =>
   (A5 v5.1 p1).bind fun _ =>
   (A5 (v5.1.set ((p1).toNat) v8) ((wI .i64 (p1 + v5.2)))).bind fun _ =>
   (C5 N ((v5.1.set ((p1).toNat) v8).set (((wI .i64 (p1 + v5.2))).toNat) v9) 0 v5.2 p1 p3).bind fun v12 =>
   CH N p1 p3 j5 n5 (v12, (wI .i64 (v5.2 - 1))))
   (j5 v5.1)
def D9 (N : Nat) (p0 : List Aa) (p1 : Int) (p2 : Int) (p3 : (Aa × Aa) → Option Int) : Option ((List Aa)) :=
 CE N p1 p2 p3 (fun (v2 : (List Aa)) =>
  CH N p1 p3 (fun (v6 : (List Aa)) =>
   some v6) N (v2, (wI .i64 ((wI .i64 (p2 - p1)) - 1)))) N (p0, (wI .i64 (Int.tdiv ((wI .i64 ((wI .i64 (p2 - p1)) - 1))) 2)))
def GX (N : Nat) (p0 : Int) : Option Int :=
 (H3 N ((wI .u64 p0))).bind fun v1 =>
 (Eh (0 ≤ v1)).bind fun _ =>
 some ((Dw .u64 1 v1))
def Hb (_ : Nat) (p0 : Int) : Option (Int × Int) :=
 some ((IH .u64 ((IH .u64 ((IH .u64 p0 ((Dw .u64 p0 13)))) ((FA .u64 ((IH .u64 p0 ((Dw .u64 p0 13)))) 7)))) ((Dw .u64 ((IH .u64 ((IH .u64 p0 ((Dw .u64 p0 13)))) ((FA .u64 ((IH .u64 p0 ((Dw .u64 p0 13)))) 7)))) 17))), (IH .u64 ((IH .u64 ((IH .u64 p0 ((Dw .u64 p0 13)))) ((FA .u64 ((IH .u64 p0 ((Dw .u64 p0 13)))) 7)))) ((Dw .u64 ((IH .u64 ((IH .u64 p0 ((Dw .u64 p0 13)))) ((FA .u64 ((IH .u64 p0 ((Dw .u64 p0 13)))) 7)))) 17))))
def B4 (N : Nat) (p1 : Int) (p2 : Int) (v2 : Int) (j3 : ((List Aa)) → Option ((List Aa))) : Nat → ((List Aa) × Int × Int) → Option ((List Aa))
 | 0, _ => none
 | n3 + 1, v3 =>
  AW ((decide (v3.2.2 ≤ (wI .i64 ((wI .i64 (p1 + (wI .i64 ((wI .i64 (Int.tdiv ((wI .i64 (p2 - p1))) 4)) * 2)))) + 1)))))
   ((Hb N v3.2.1).bind fun v6 =>
   Bd (fun (v7 : Int) =>
    (A5 v3.1 ((wI .i64 (p1 + v7)))).bind fun v9 =>
    (A5 v3.1 v3.2.2).bind fun v10 =>
    (A5 v3.1 v3.2.2).bind fun _ =>
    (A5 (v3.1.set ((v3.2.2).toNat) v9) ((wI .i64 (p1 + v7)))).bind fun _ =>
    B4 N p1 p2 v2 j3 n3 ((v3.1.set ((v3.2.2).toNat) v9).set (((wI .i64 (p1 + v7))).toNat) v10, v6.2, (wI .i64 (v3.2.2 + 1))))
   fun j7 =>
   AW ((decide ((wI .i64 (p2 - p1)) ≤ (wI .i64 ((Hh .u64 v6.1 ((wI .u64 (v2 - 1)))))))))
    (j7 (wI .i64 ((wI .i64 ((Hh .u64 v6.1 ((wI .u64 (v2 - 1)))))) - (wI .i64 (p2 - p1)))))
    (j7 (wI .i64 ((Hh .u64 v6.1 ((wI .u64 (v2 - 1))))))))
   (j3 v3.1)
def DC (N : Nat) (p0 : List Aa) (p1 : Int) (p2 : Int) (_ : (Aa × Aa) → Option Int) : Option ((List Aa)) :=
 AW ((decide (8 ≤ (wI .i64 (p2 - p1)))))
  ((GX N ((wI .i64 (p2 - p1)))).bind fun v2 =>
  B4 N p1 p2 v2 (fun (v4 : (List Aa)) =>
   some v4) N (p0, (wI .u64 ((wI .i64 (p2 - p1)))), (wI .i64 ((wI .i64 (p1 + (wI .i64 ((wI .i64 (Int.tdiv ((wI .i64 (p2 - p1))) 4)) * 2)))) - 1))))
  (some p0)
def Cp (_ : Nat) (p0 : List Aa) (p1 : Int) (p2 : Int) (p3 : Int) (p4 : (Aa × Aa) → Option Int) : Option (Int × Int × Int) :=
 (A5 p0 p2).bind fun v1 =>
 (A5 p0 p1).bind fun v2 =>
 (p4 ((v1, v2))).bind fun v3 =>
 AW ((decide (v3 < 0)))
  (some (p2, p1, (wI .i64 (p3 + 1))))
  (some (p1, p2, p3))
def Dj (N : Nat) (p0 : List Aa) (p1 : Int) (p2 : Int) (p3 : Int) (p4 : Int) (p5 : (Aa × Aa) → Option Int) : Option (Int × Int) :=
 (Cp N p0 p1 p2 p4 p5).bind fun v1 =>
 (Cp N p0 v1.2.1 p3 v1.2.2 p5).bind fun v2 =>
 (Cp N p0 v1.1 v2.1 v2.2.2 p5).bind fun v3 =>
 some (v3.2.1, v3.2.2)
def BB (N : Nat) (p0 : List Aa) (p1 : Int) (p2 : Int) (p3 : (Aa × Aa) → Option Int) : Option (Int × Int) :=
 (Dj N p0 ((wI .i64 (p1 - 1))) p1 ((wI .i64 (p1 + 1))) p2 p3).bind fun v1 =>
 some (v1.1, v1.2)
def DR (N : Nat) (p0 : List Aa) (p1 : Int) (p2 : Int) (p3 : (Aa × Aa) → Option Int) : Option (Int × Int) :=
 Bd (fun (v1 : Int × Int) =>
  AW ((v1.1 == 0))
   (some (v1.2, 1))
   (AW ((v1.1 == 12))
    (some (v1.2, 2))
    (some (v1.2, 0))))
 fun j1 =>
 AW ((decide (8 ≤ (wI .i64 (p2 - p1)))))
  (Bd (fun (v3 : Int × Int × Int × Int) =>
   (Dj N p0 v3.2.1 v3.2.2.1 v3.2.2.2 v3.1 p3).bind fun v8 =>
   j1 (v8.2, v8.1))
  fun j3 =>
  AW ((decide (50 ≤ (wI .i64 (p2 - p1)))))
   ((BB N p0 ((wI .i64 (p1 + (wI .i64 ((wI .i64 (Int.tdiv ((wI .i64 (p2 - p1))) 4)) * 1))))) 0 p3).bind fun v5 =>
   (BB N p0 ((wI .i64 (p1 + (wI .i64 ((wI .i64 (Int.tdiv ((wI .i64 (p2 - p1))) 4)) * 2))))) v5.2 p3).bind fun v6 =>
   (BB N p0 ((wI .i64 (p1 + (wI .i64 ((wI .i64 (Int.tdiv ((wI .i64 (p2 - p1))) 4)) * 3))))) v6.2 p3).bind fun v7 =>
   j3 (v7.2, v5.1, v6.1, v7.1))
   (j3 (0, (wI .i64 (p1 + (wI .i64 ((wI .i64 (Int.tdiv ((wI .i64 (p2 - p1))) 4)) * 1)))), (wI .i64 (p1 + (wI .i64 ((wI .i64 (Int.tdiv ((wI .i64 (p2 - p1))) 4)) * 2)))), (wI .i64 (p1 + (wI .i64 ((wI .i64 (Int.tdiv ((wI .i64 (p2 - p1))) 4)) * 3)))))))
  (j1 (0, (wI .i64 (p1 + (wI .i64 ((wI .i64 (Int.tdiv ((wI .i64 (p2 - p1))) 4)) * 2))))))
def Cb (N : Nat) (j1 : ((List Aa)) → Option ((List Aa))) : Nat → ((List Aa) × Int × Int) → Option ((List Aa))
 | 0, _ => none
 | n1 + 1, v1 =>
  AW ((decide (v1.2.1 < v1.2.2)))
   ((A5 v1.1 v1.2.2).bind fun v4 =>
   (A5 v1.1 v1.2.1).bind fun v5 =>
   (A5 v1.1 v1.2.1).bind fun _ =>
   (A5 (v1.1.set ((v1.2.1).toNat) v4) v1.2.2).bind fun _ =>
   Cb N j1 n1 ((v1.1.set ((v1.2.1).toNat) v4).set ((v1.2.2).toNat) v5, (wI .i64 (v1.2.1 + 1)), (wI .i64 (v1.2.2 - 1))))
   (j1 v1.1)
def DN (N : Nat) (p0 : List Aa) (p1 : Int) (p2 : Int) (_ : (Aa × Aa) → Option Int) : Option ((List Aa)) :=
 Cb N (fun (v2 : (List Aa)) =>
  some v2) N (p0, p1, (wI .i64 (p2 - 1)))
def Bv (N : Nat) (p2 : Int) (p3 : (Aa × Aa) → Option Int) (v1 : (List Aa) × Int × Int) (j5 : Int → Option (Bool × (List Aa))) : Nat → Int → Option (Bool × (List Aa))
 | 0, _ => none
 | n5 + 1, v5 =>
  Bd (fun (v7 : Bool) =>
   AW v7
    (Bv N p2 p3 v1 j5 n5 (wI .i64 (v5 + 1)))
    (j5 v5))
  fun j7 =>
  AW ((decide (v5 < p2)))
   ((A5 v1.1 v5).bind fun v9 =>
   (A5 v1.1 ((wI .i64 (v5 - 1)))).bind fun v10 =>
   (p3 ((v9, v10))).bind fun v11 =>
   j7 (!((decide (v11 < 0)))))
   (j7 false)
def Bq (N : Nat) (p3 : (Aa × Aa) → Option Int) (j21 : ((List Aa)) → Option (Bool × (List Aa))) : Nat → ((List Aa) × Int) → Option (Bool × (List Aa))
 | 0, _ => none
 | n21 + 1, v21 =>
  AW ((decide (1 ≤ v21.2)))
   ((A5 v21.1 v21.2).bind fun v24 =>
   (A5 v21.1 ((wI .i64 (v21.2 - 1)))).bind fun v25 =>
   (p3 ((v24, v25))).bind fun v26 =>
   AW ((!((decide (v26 < 0)))))
    (j21 v21.1)
    ((A5 v21.1 ((wI .i64 (v21.2 - 1)))).bind fun v28 =>
    (A5 v21.1 v21.2).bind fun v29 =>
    (A5 v21.1 v21.2).bind fun _ =>
    (A5 (v21.1.set ((v21.2).toNat) v28) ((wI .i64 (v21.2 - 1)))).bind fun _ =>
    Bq N p3 j21 n21 ((v21.1.set ((v21.2).toNat) v28).set (((wI .i64 (v21.2 - 1))).toNat) v29, (wI .i64 (v21.2 - 1)))))
   (j21 v21.1)
def Br (N : Nat) (p2 : Int) (p3 : (Aa × Aa) → Option Int) (j33 : ((List Aa)) → Option (Bool × (List Aa))) : Nat → ((List Aa) × Int) → Option (Bool × (List Aa))
 | 0, _ => none
 | n33 + 1, v33 =>
  AW ((decide (v33.2 < p2)))
   ((A5 v33.1 v33.2).bind fun v36 =>
   (A5 v33.1 ((wI .i64 (v33.2 - 1)))).bind fun v37 =>
   (p3 ((v36, v37))).bind fun v38 =>
   AW ((!((decide (v38 < 0)))))
    (j33 v33.1)
    ((A5 v33.1 ((wI .i64 (v33.2 - 1)))).bind fun v40 =>
    (A5 v33.1 v33.2).bind fun v41 =>
    (A5 v33.1 v33.2).bind fun _ =>
    (A5 (v33.1.set ((v33.2).toNat) v40) ((wI .i64 (v33.2 - 1)))).bind fun _ =>
    Br N p2 p3 j33 n33 ((v33.1.set ((v33.2).toNat) v40).set (((wI .i64 (v33.2 - 1))).toNat) v41, (wI .i64 (v33.2 + 1)))))
   (j33 v33.1)
def Bw (N : Nat) (p1 : Int) (p2 : Int) (p3 : (Aa × Aa) → Option Int) (j1 : ((List Aa)) → Option (Bool × (List Aa))) : Nat → ((List Aa) × Int × Int) → Option (Bool × (List Aa))
 | 0, _ => none
 | n1 + 1, v1 =>
  AW ((decide (v1.2.2 < 5)))
   (Bd (fun (v4 : (List Aa) × Int) =>
    Bw N p1 p2 p3 j1 n1 (v4.1, v4.2, (wI .i64 (v1.2.2 + 1))))
   fun j4 =>
   Bv N p2 p3 v1 (fun (v6 : Int) =>
    AW ((v6 == p2))
     (some (true, v1.1))
     (AW ((decide ((wI .i64 (p2 - p1)) < 50)))
      (some (false, v1.1))
      ((A5 v1.1 ((wI .i64 (v6 - 1)))).bind fun v15 =>
      (A5 v1.1 v6).bind fun v16 =>
      (A5 v1.1 v6).bind fun _ =>
      (A5 (v1.1.set ((v6).toNat) v15) ((wI .i64 (v6 - 1)))).bind fun _ =>
      Bd (fun (v19 : (List Aa)) =>
       AW ((decide (2 ≤ (wI .i64 (p2 - v6)))))
        (Br N p2 p3 (fun (v34 : (List Aa)) =>
         j4 (v34, v6)) N (v19, (wI .i64 (v6 + 1))))
        (j4 (v19, v6)))
      fun j19 =>
      AW ((decide (2 ≤ (wI .i64 (v6 - p1)))))
       (Bq N p3 (fun (v22 : (List Aa)) =>
        j19 v22) N ((v1.1.set ((v6).toNat) v15).set (((wI .i64 (v6 - 1))).toNat) v16, (wI .i64 (v6 - 1))))
       (j19 ((v1.1.set ((v6).toNat) v15).set (((wI .i64 (v6 - 1))).toNat) v16))))) N v1.2.1)
   (j1 v1.1)
def CK (N : Nat) (p0 : List Aa) (p1 : Int) (p2 : Int) (p3 : (Aa × Aa) → Option Int) : Option (Bool × (List Aa)) :=
 Bw N p1 p2 p3 (fun (v2 : (List Aa)) =>
  some (false, v2)) N (p0, (wI .i64 (p1 + 1)), 0)
def BX (N : Nat) (p1 : Int) (p4 : (Aa × Aa) → Option Int) (v5 : (List Aa) × Int × Int) (j7 : Int → Option (Int × (List Aa))) : Nat → Int → Option (Int × (List Aa))
 | 0, _ => none
 | n7 + 1, v7 =>
  Bd (fun (v9 : Bool) =>
   AW v9
    (BX N p1 p4 v5 j7 n7 (wI .i64 (v7 + 1)))
    (j7 v7))
  fun j9 =>
  AW ((decide (v7 ≤ v5.2.2)))
   ((A5 v5.1 p1).bind fun v11 =>
   (A5 v5.1 v7).bind fun v12 =>
   (p4 ((v11, v12))).bind fun v13 =>
   j9 (!((decide (v13 < 0)))))
   (j9 false)
def BS (N : Nat) (p1 : Int) (p4 : (Aa × Aa) → Option Int) (v5 : (List Aa) × Int × Int) (v8 : Int) (j15 : Int → Option (Int × (List Aa))) : Nat → Int → Option (Int × (List Aa))
 | 0, _ => none
 | n15 + 1, v15 =>
  Bd (fun (v17 : Bool) =>
   AW v17
    (BS N p1 p4 v5 v8 j15 n15 (wI .i64 (v15 - 1)))
    (j15 v15))
  fun j17 =>
  AW ((decide (v8 ≤ v15)))
   ((A5 v5.1 p1).bind fun v19 =>
   (A5 v5.1 v15).bind fun v20 =>
   (p4 ((v19, v20))).bind fun v21 =>
   j17 (decide (v21 < 0)))
   (j17 false)
def BW (N : Nat) (p1 : Int) (p4 : (Aa × Aa) → Option Int) (j5 : ((List Aa) × Int) → Option (Int × (List Aa))) : Nat → ((List Aa) × Int × Int) → Option (Int × (List Aa))
 | 0, _ => none
 | n5 + 1, v5 =>
  BX N p1 p4 v5 (fun (v8 : Int) =>
   BS N p1 p4 v5 v8 (fun (v16 : Int) =>
    AW ((decide (v16 < v8)))
     (j5 (v5.1, v8))
     ((A5 v5.1 v16).bind fun v24 =>
     (A5 v5.1 v8).bind fun v25 =>
     (A5 v5.1 v8).bind fun _ =>
     (A5 (v5.1.set ((v8).toNat) v24) v16).bind fun _ =>
     BW N p1 p4 j5 n5 ((v5.1.set ((v8).toNat) v24).set ((v16).toNat) v25, (wI .i64 (v8 + 1)), (wI .i64 (v16 - 1))))) N v5.2.2) N v5.2.1
def Dt (N : Nat) (p0 : List Aa) (p1 : Int) (p2 : Int) (p3 : Int) (p4 : (Aa × Aa) → Option Int) : Option (Int × (List Aa)) :=
 (A5 p0 p3).bind fun v1 =>
 (A5 p0 p1).bind fun v2 =>
 (A5 p0 p1).bind fun _ =>
 (A5 (p0.set ((p1).toNat) v1) p3).bind fun _ =>
 BW N p1 p4 (fun (v6 : (List Aa) × Int) =>
  some (v6.2, v6.1)) N ((p0.set ((p1).toNat) v1).set ((p3).toNat) v2, (wI .i64 (p1 + 1)), (wI .i64 (p2 - 1)))
def Cu (N : Nat) (p0 : List Aa) (p1 : Int) (p2 : Int) (p3 : Int) (p4 : (Aa × Aa) → Option Int) (v1 : Aa) (v2 : Aa) (j5 : Int → Option (Int × Bool × (List Aa))) : Nat → Int → Option (Int × Bool × (List Aa))
 | 0, _ => none
 | n5 + 1, v5 =>
  Bd (fun (v7 : Bool) =>
   AW v7
    (Cu N p0 p1 p2 p3 p4 v1 v2 j5 n5 (wI .i64 (v5 + 1)))
    (j5 v5))
  fun j7 =>
  AW ((decide (v5 ≤ (wI .i64 (p2 - 1)))))
   ((A5 ((p0.set ((p1).toNat) v1).set ((p3).toNat) v2) v5).bind fun v9 =>
   (A5 ((p0.set ((p1).toNat) v1).set ((p3).toNat) v2) p1).bind fun v10 =>
   (p4 ((v9, v10))).bind fun v11 =>
   j7 (decide (v11 < 0)))
   (j7 false)
def Cm (N : Nat) (p0 : List Aa) (p1 : Int) (p3 : Int) (p4 : (Aa × Aa) → Option Int) (v1 : Aa) (v2 : Aa) (v6 : Int) (j13 : Int → Option (Int × Bool × (List Aa))) : Nat → Int → Option (Int × Bool × (List Aa))
 | 0, _ => none
 | n13 + 1, v13 =>
  Bd (fun (v15 : Bool) =>
   AW v15
    (Cm N p0 p1 p3 p4 v1 v2 v6 j13 n13 (wI .i64 (v13 - 1)))
    (j13 v13))
  fun j15 =>
  AW ((decide (v6 ≤ v13)))
   ((A5 ((p0.set ((p1).toNat) v1).set ((p3).toNat) v2) v13).bind fun v17 =>
   (A5 ((p0.set ((p1).toNat) v1).set ((p3).toNat) v2) p1).bind fun v18 =>
   (p4 ((v17, v18))).bind fun v19 =>
   j15 (!((decide (v19 < 0)))))
   (j15 false)
def Co (N : Nat) (p1 : Int) (p4 : (Aa × Aa) → Option Int) (v30 : (List Aa) × Int × Int) (j32 : Int → Option (Int × Bool × (List Aa))) : Nat → Int → Option (Int × Bool × (List Aa))
 | 0, _ => none
 | n32 + 1, v32 =>
  Bd (fun (v34 : Bool) =>
   AW v34
    (Co N p1 p4 v30 j32 n32 (wI .i64 (v32 + 1)))
    (j32 v32))
  fun j34 =>
  AW ((decide (v32 ≤ v30.2.2)))
   ((A5 v30.1 v32).bind fun v36 =>
   (A5 v30.1 p1).bind fun v37 =>
   (p4 ((v36, v37))).bind fun v38 =>
   j34 (decide (v38 < 0)))
   (j34 false)
def Cn (N : Nat) (p1 : Int) (p4 : (Aa × Aa) → Option Int) (v30 : (List Aa) × Int × Int) (v33 : Int) (j40 : Int → Option (Int × Bool × (List Aa))) : Nat → Int → Option (Int × Bool × (List Aa))
 | 0, _ => none
 | n40 + 1, v40 =>
  Bd (fun (v42 : Bool) =>
   AW v42
    (Cn N p1 p4 v30 v33 j40 n40 (wI .i64 (v40 - 1)))
    (j40 v40))
  fun j42 =>
  AW ((decide (v33 ≤ v40)))
   ((A5 v30.1 v40).bind fun v44 =>
   (A5 v30.1 p1).bind fun v45 =>
   (p4 ((v44, v45))).bind fun v46 =>
   j42 (!((decide (v46 < 0)))))
   (j42 false)
def Cl (N : Nat) (p1 : Int) (p4 : (Aa × Aa) → Option Int) (j30 : ((List Aa) × Int) → Option (Int × Bool × (List Aa))) : Nat → ((List Aa) × Int × Int) → Option (Int × Bool × (List Aa))
 | 0, _ => none
 | n30 + 1, v30 =>
  Co N p1 p4 v30 (fun (v33 : Int) =>
   Cn N p1 p4 v30 v33 (fun (v41 : Int) =>
    AW ((decide (v41 < v33)))
     (j30 (v30.1, v41))
     ((A5 v30.1 v41).bind fun v49 =>
     (A5 v30.1 v33).bind fun v50 =>
     (A5 v30.1 v33).bind fun _ =>
     (A5 (v30.1.set ((v33).toNat) v49) v41).bind fun _ =>
     Cl N p1 p4 j30 n30 ((v30.1.set ((v33).toNat) v49).set ((v41).toNat) v50, (wI .i64 (v33 + 1)), (wI .i64 (v41 - 1))))) N v30.2.2) N v30.2.1
def D5 (N : Nat) (p0 : List Aa) (p1 : Int) (p2 : Int) (p3 : Int) (p4 : (Aa × Aa) → Option Int) : Option (Int × Bool × (List Aa)) :=
 (A5 p0 p3).bind fun v1 =>
 (A5 p0 p1).bind fun v2 =>
 (A5 p0 p1).bind fun _ =>
 (A5 (p0.set ((p1).toNat) v1) p3).bind fun _ =>
 Cu N p0 p1 p2 p3 p4 v1 v2 (fun (v6 : Int) =>
  Cm N p0 p1 p3 p4 v1 v2 v6 (fun (v14 : Int) =>
   AW ((decide (v14 < v6)))
    ((A5 ((p0.set ((p1).toNat) v1).set ((p3).toNat) v2) p1).bind fun v22 =>
    (A5 ((p0.set ((p1).toNat) v1).set ((p3).toNat) v2) v14).bind fun v23 =>
    (A5 ((p0.set ((p1).toNat) v1).set ((p3).toNat) v2) v14).bind fun _ =>
    (A5 (((p0.set ((p1).toNat) v1).set ((p3).toNat) v2).set ((v14).toNat) v22) p1).bind fun _ =>
    some (v14, true, (((p0.set ((p1).toNat) v1).set ((p3).toNat) v2).set ((v14).toNat) v22).set ((p1).toNat) v23))
    ((A5 ((p0.set ((p1).toNat) v1).set ((p3).toNat) v2) v14).bind fun v26 =>
    (A5 ((p0.set ((p1).toNat) v1).set ((p3).toNat) v2) v6).bind fun v27 =>
    (A5 ((p0.set ((p1).toNat) v1).set ((p3).toNat) v2) v6).bind fun _ =>
    (A5 (((p0.set ((p1).toNat) v1).set ((p3).toNat) v2).set ((v6).toNat) v26) v14).bind fun _ =>
    Cl N p1 p4 (fun (v31 : (List Aa) × Int) =>
     (A5 v31.1 p1).bind fun v53 =>
     (A5 v31.1 v31.2).bind fun v54 =>
     (A5 v31.1 v31.2).bind fun _ =>
     (A5 (v31.1.set ((v31.2).toNat) v53) p1).bind fun _ =>
     some (v31.2, false, (v31.1.set ((v31.2).toNat) v53).set ((p1).toNat) v54)) N ((((p0.set ((p1).toNat) v1).set ((p3).toNat) v2).set ((v6).toNat) v26).set ((v14).toNat) v27, (wI .i64 (v6 + 1)), (wI .i64 (v14 - 1))))) N (wI .i64 (p2 - 1))) N (wI .i64 (p1 + 1))
def Bm (N : Nat) (p4 : (Aa × Aa) → Option Int) (rc : (List Aa) → Int → Int → Int → ((Aa × Aa) → Option Int) → Option ((List Aa))) (j1 : Unit → Option ((List Aa))) : Nat → ((List Aa) × Int × Int × Int × Bool × Bool) → Option ((List Aa))
 | 0, _ => none
 | n1 + 1, v1 =>
  AW ((decide ((wI .i64 (v1.2.2.1 - v1.2.1)) ≤ 12)))
   ((DA N v1.1 v1.2.1 v1.2.2.1 p4).bind fun v4 =>
   some v4)
   (AW ((v1.2.2.2.1 == 0))
    ((D9 N v1.1 v1.2.1 v1.2.2.1 p4).bind fun v6 =>
    some v6)
    (Bd (fun (v7 : (List Aa) × Int) =>
     (DR N v7.1 v1.2.1 v1.2.2.1 p4).bind fun v10 =>
     Bd (fun (v11 : (List Aa) × Int × Int) =>
      Bd (fun (v14 : (List Aa)) =>
       Bd (fun (v21 : Bool) =>
        AW v21
         ((Dt N v14 v1.2.1 v1.2.2.1 v11.2.1 p4).bind fun v27 =>
         Bm N p4 rc j1 n1 (v27.2, v27.1, v1.2.2.1, v7.2, v1.2.2.2.2.1, v1.2.2.2.2.2))
         ((D5 N v14 v1.2.1 v1.2.2.1 v11.2.1 p4).bind fun v28 =>
         AW ((decide ((wI .i64 (v28.1 - v1.2.1)) < (wI .i64 (v1.2.2.1 - v28.1)))))
          ((rc v28.2.2 v1.2.1 v28.1 v7.2 p4).bind fun v30 =>
          Bm N p4 rc j1 n1 (v30, (wI .i64 (v28.1 + 1)), v1.2.2.1, v7.2, (decide ((wI .i64 (Int.tdiv ((wI .i64 (v1.2.2.1 - v1.2.1))) 8)) ≤ (wI .i64 (v28.1 - v1.2.1)))), v28.2.1))
          ((rc v28.2.2 ((wI .i64 (v28.1 + 1))) v1.2.2.1 v7.2 p4).bind fun v31 =>
          Bm N p4 rc j1 n1 (v31, v1.2.1, v28.1, v7.2, (decide ((wI .i64 (Int.tdiv ((wI .i64 (v1.2.2.1 - v1.2.1))) 8)) ≤ (wI .i64 (v1.2.2.1 - v28.1)))), v28.2.1))))
       fun j21 =>
       AW ((decide (0 < v1.2.1)))
        ((A5 v14 ((wI .i64 (v1.2.1 - 1)))).bind fun v23 =>
        (A5 v14 v11.2.1).bind fun v24 =>
        (p4 ((v23, v24))).bind fun v25 =>
        j21 (!((decide (v25 < 0)))))
        (j21 false))
      fun j14 =>
      Bd (fun (v15 : Bool) =>
       AW v15
        ((CK N v11.1 v1.2.1 v1.2.2.1 p4).bind fun v19 =>
        AW v19.1
         (some v19.2)
         (j14 v19.2))
        (j14 v11.1))
      fun j15 =>
      AW v1.2.2.2.2.1
       (AW v1.2.2.2.2.2
        (j15 (v11.2.2 == 1))
        (j15 false))
       (j15 false))
     fun j11 =>
     AW ((v10.2 == 2))
      ((DN N v7.1 v1.2.1 v1.2.2.1 p4).bind fun v13 =>
      j11 (v13, (wI .i64 ((wI .i64 (v1.2.2.1 - 1)) - (wI .i64 (v10.1 - v1.2.1)))), 1))
      (j11 (v7.1, v10.1, v10.2)))
    fun j7 =>
    AW ((!v1.2.2.2.2.1))
     ((DC N v1.1 v1.2.1 v1.2.2.1 p4).bind fun v9 =>
     j7 (v9, (wI .i64 (v1.2.2.2.1 - 1))))
     (j7 (v1.1, v1.2.2.2.1))))
def D6 (N : Nat) (rc : (List Aa) → Int → Int → Int → ((Aa × Aa) → Option Int) → Option ((List Aa))) (p0 : List Aa) (p1 : Int) (p2 : Int) (p3 : Int) (p4 : (Aa × Aa) → Option Int) : Option ((List Aa)) :=
 Bm N p4 rc (fun (_ : Unit) =>
  none) N (p0, p1, p2, p3, true, true)
def CW (N : Nat) : Nat → (List Aa) → Int → Int → Int → ((Aa × Aa) → Option Int) → Option ((List Aa))
 | 0, _, _, _, _, _ => none
 | k + 1, p0, p1, p2, p3, p4 => D6 N (CW N k) p0 p1 p2 p3 p4
def F3 (N : Nat) (p0 : List Aa) (p1 : Int) (p2 : Int) (p3 : Int) (p4 : (Aa × Aa) → Option Int) : Option ((List Aa)) := CW N N p0 p1 p2 p3 p4
def Du (N : Nat) (p0 : List Aa) (p1 : (Aa × Aa) → Option Int) : Option ((List Aa)) :=
 (H3 N ((wI .u64 ((p0.length : Int))))).bind fun v1 =>
 (F3 N p0 0 ((p0.length : Int)) v1 p1).bind fun v2 =>
 some v2
def H6 (_ : Nat) (p0 : Int) : Option Bool :=
 some ((p0 != p0))
def Gw (N : Nat) (p0 : Int) (p1 : Int) : Option Int :=
 (H6 N p0).bind fun v1 =>
 (H6 N p1).bind fun v2 =>
 AW v1
  (AW v2
   (some 0)
   (some ((-1))))
  (AW v2
   (some 1)
   (AW ((decide (p0 < p1)))
    (some ((-1)))
    (AW ((decide (p1 < p0)))
     (some 1)
     (some 0))))
def H4 (N : Nat) (p0 : List Int) (j1 : Unit → Option Int) : Nat → Int → Option Int
 | 0, _ => none
 | n1 + 1, v1 =>
  AW ((decide (v1 < (p0.length : Int))))
   ((A5 p0 v1).bind fun v4 =>
   AW ((v4 != 0))
    (some v4)
    (H4 N p0 j1 n1 (wI .i64 (v1 + 1))))
   (j1 ())
def KY (N : Nat) (p0 : List Int) : Option Int :=
 H4 N p0 (fun (_ : Unit) =>
  some 0) N 0
def Hj (N : Nat) (p0 : Aa) (p1 : Aa) : Option Int :=
 (Gw N p0.fw p1.fw).bind fun v1 =>
 (Gw N p0.fv p1.fv).bind fun v2 =>
 (Gw N p0.fu p1.fu).bind fun v3 =>
 (KY N (([v1, v2, v3] : List Int))).bind fun v4 =>
 some v4
def BZ (N : Nat) (p0 : List Aa) (v2 : Int) (j10 : ((List Aa) × Int) → Option (Nat × (List Aa))) : Nat → ((List Aa) × Int × Int) → Option (Nat × (List Aa))
 | 0, _ => none
 | n10 + 1, v10 =>
  AW ((decide (v10.2.2 < ((((p0.length - (v2).toNat)) : Nat) : Int))))
   (Bd (fun (v13 : (List Aa) × Int) =>
    BZ N p0 v2 j10 n10 (v13.1, v13.2, (wI .i64 (v10.2.2 + 1))))
   fun j13 =>
   (Eh (((v2).toNat) + ((p0.length - (v2).toNat)) ≤ v10.1.length)).bind fun _ =>
   (A5 (((v10.1.drop ((v2).toNat)).take ((p0.length - (v2).toNat)))) v10.2.2).bind fun v14 =>
   (A5 (((v10.1.drop ((v2).toNat)).take ((p0.length - (v2).toNat)))) ((wI .i64 (v10.2.2 - 1)))).bind fun v16 =>
   AW ((!((v14.fw == v16.fw) && ((v14.fv == v16.fv) && ((v14.fu == v16.fu) && true)))))
    ((A5 (((v10.1.drop ((v2).toNat)).take ((p0.length - (v2).toNat)))) v10.2.2).bind fun v18 =>
    (A5 v10.1 v10.2.1).bind fun _ =>
    j13 (v10.1.set ((v10.2.1).toNat) v18, (wI .i64 (v10.2.1 + 1))))
    (j13 (v10.1, v10.2.1)))
   (j10 (v10.1, v10.2.1))
def B7 (N : Nat) (p0 : List Aa) (j2 : Unit → Option (Nat × (List Aa))) : Nat → Int → Option (Nat × (List Aa))
 | 0, _ => none
 | n2 + 1, v2 =>
  AW ((decide (v2 < (p0.length : Int))))
   ((A5 p0 v2).bind fun v5 =>
   (A5 p0 ((wI .i64 (v2 - 1)))).bind fun v6 =>
   AW (((v5.fw == v6.fw) && ((v5.fv == v6.fv) && ((v5.fu == v6.fu) && true))))
    ((Eh ((0 : Int) ≤ v2 ∧ (v2).toNat ≤ p0.length ∧ p0.length ≤ p0.length)).bind fun _ =>
    BZ N p0 v2 (fun (v11 : (List Aa) × Int) =>
     (Eh ((0 : Int) ≤ v11.2 ∧ (v11.2).toNat ≤ v11.1.length ∧ v11.1.length ≤ v11.1.length)).bind fun _ =>
     (Eh ((0 : Int) ≤ v11.2 ∧ 0 ≤ (v11.2).toNat ∧ (v11.2).toNat ≤ (HM v11.1 ((v11.2).toNat) (List.replicate ((v11.1.length - (v11.2).toNat)) ((Aa.mk 0 0 0)))).length)).bind fun _ =>
     some ((v11.2).toNat, HM v11.1 ((v11.2).toNat) (List.replicate ((v11.1.length - (v11.2).toNat)) ((Aa.mk 0 0 0))))) N (p0, v2, 1))
    (B7 N p0 j2 n2 (wI .i64 (v2 + 1))))
   (j2 ())
def Dz (N : Nat) (p0 : List Aa) : Option (Nat × (List Aa)) :=
 AW ((decide ((p0.length : Int) < 2)))
  (some (p0.length, p0))
  (B7 N p0 (fun (_ : Unit) =>
   some (p0.length, p0)) N 1)
def DJ (_ : Nat) (p0 : List Aa) (p1 : Int) (p2 : Int) : Option (Nat × (List Aa)) :=
 (Eh ((0 : Int) ≤ p1 ∧ (p1).toNat ≤ (p2).toNat ∧ 0 ≤ p2 ∧ (p2).toNat ≤ ((p0.length : Int)).toNat ∧ 0 ≤ (p0.length : Int) ∧ ((p0.length : Int)).toNat ≤ p0.length)).bind fun _ =>
 AW ((p1 == p2))
  (some (p0.length, p0))
  ((Eh ((0 : Int) ≤ p1 ∧ 0 ≤ (p1).toNat ∧ (p1).toNat ≤ p0.length)).bind fun _ =>
  (Eh ((0 : Int) ≤ p2 ∧ (p2).toNat ≤ p0.length ∧ p0.length ≤ p0.length)).bind fun _ =>
  (Eh ((p1).toNat + (((p0.drop ((p2).toNat)).take ((p0.length - (p2).toNat)))).length ≤ p0.length)).bind fun _ =>
  (Eh ((0 : Int) ≤ (((((p1).toNat + (((p0.drop ((p2).toNat)).take ((p0.length - (p2).toNat)))).length)) : Nat) : Int) ∧ (0 : Int) ≤ (p0.length : Int) ∧ ((((((p1).toNat + (((p0.drop ((p2).toNat)).take ((p0.length - (p2).toNat)))).length)) : Nat) : Int)).toNat ≤ ((p0.length : Int)).toNat ∧ ((p0.length : Int)).toNat ≤ (HM p0 (0 + ((p1).toNat)) (((p0.drop ((p2).toNat)).take ((p0.length - (p2).toNat))))).length)).bind fun _ =>
  some (((p1).toNat + (((p0.drop ((p2).toNat)).take ((p0.length - (p2).toNat)))).length), HM (HM p0 (0 + ((p1).toNat)) (((p0.drop ((p2).toNat)).take ((p0.length - (p2).toNat))))) (((((((p1).toNat + (((p0.drop ((p2).toNat)).take ((p0.length - (p2).toNat)))).length)) : Nat) : Int)).toNat) (List.replicate ((((p0.length : Int)).toNat - ((((((p1).toNat + (((p0.drop ((p2).toNat)).take ((p0.length - (p2).toNat)))).length)) : Nat) : Int)).toNat)) ((Aa.mk 0 0 0)))))
def Gd (N : Nat) (p0 : Ad) (v5 : Nat × (List Aa)) (j14 : Bool → Option (Bool × Int)) : Nat → (Bool × Int) → Option (Bool × Int)
 | 0, _ => none
 | n14 + 1, v14 =>
  AW ((decide (v14.2 < ((v5.2.take v5.1).length : Int))))
   (Bd (fun (v17 : Bool) =>
    Gd N p0 v5 j14 n14 (v17, (wI .i64 (v14.2 + 1))))
   fun j17 =>
   (CG N (v5.2.take v5.1)).bind fun v18 =>
   (DJ N v18 v14.2 ((wI .i64 (v14.2 + 1)))).bind fun v19 =>
   (Eh (v19.1 ≤ v19.2.length)).bind fun _ =>
   (EP N p0 (((v19.2.drop 0).take v19.1))).bind fun v22 =>
   AW ((v22.2 != 0))
    (some (false, v22.2))
    (AW v14.1
     (j17 (!v22.1))
     (j17 false)))
   (j14 v14.1)
def Iy (N : Nat) (p0 : Ad) (p1 : List Aa) : Option (Bool × Int) :=
 (Jh N p0 p1).bind fun v1 =>
 AW ((v1 != 0))
  (some (false, v1))
  ((CG N p1).bind fun v3 =>
  (Du N v3 ((fun (x : Aa × Aa) => Hj N x.1 x.2))).bind fun v4 =>
  (Dz N v4).bind fun v5 =>
  (Eh (v5.1 ≤ v5.2.length)).bind fun _ =>
  Bd (fun (v8 : Bool) =>
   AW v8
    (some (false, 3))
    ((EP N p0 (v5.2.take v5.1)).bind fun v12 =>
    AW ((v12.2 != 0))
     (some (false, v12.2))
     (Gd N p0 v5 (fun (v15 : Bool) =>
      some (v15, 0)) N (v12.1, 0))))
  fun j8 =>
  (EN N p0).bind fun v9 =>
  AW ((decide (24 < (v9.length : Int))))
   (j8 true)
   (j8 (decide (3 < ((v5.2.take v5.1).length : Int)))))
def EW (N : Nat) (p0 : Ad) : Option ((List Aa) × Int) :=
 (G4 N p0).bind fun v1 =>
 AW ((v1.2 != 0))
  (some (([] : List Aa), v1.2))
  ((A5 v1.1 0).bind fun v3 =>
  some (v3, 0))
def FM (N : Nat) : Option Bool :=
 (Ep N).bind fun v1 =>
 (G4 N v1).bind fun v2 =>
 (Ep N).bind fun v3 =>
 (FE N v3).bind fun v4 =>
 (Ep N).bind fun v5 =>
 (Iy N v5 v4.1).bind fun v6 =>
 (Ep N).bind fun v7 =>
 (EW N v7).bind fun v8 =>
 Bd (fun (v9 : Bool) =>
  some v9)
 fun j9 =>
 AW ((v2.2 == 0))
  (AW ((v4.2 == 0))
   (AW ((v6.2 == 0))
    (AW ((v8.2 == 0))
     (AW (((v2.1.length : Int) == 2))
      (AW (((v4.1.length : Int) == 2))
       ((A5 v4.1 0).bind fun v16 =>
       AW (((v16.fw == 0) && ((v16.fv == 0) && ((v16.fu == 1) && true))))
        (AW ((!v6.1))
         (AW (((v8.1.length : Int) == 1))
          ((A5 v8.1 0).bind fun v20 =>
          j9 ((v20.fw == 0) && ((v20.fv == 0) && ((v20.fu == 1) && true))))
          (j9 false))
         (j9 false))
        (j9 false))
       (j9 false))
      (j9 false))
     (j9 false))
    (j9 false))
   (j9 false))
  (j9 false)
def Fe (N : Nat) (p0 : Ad) : Option ((List Aa) × Int) :=
 (BY N p0).bind fun v1 =>
 AW ((v1 != 0))
  (some (([] : List Aa), v1))
  ((DK N p0).bind fun v3 =>
  some (v3, 0))
def Eo (N : Nat) (p1 : List Aa) (v3 : (List Aa)) (j4 : Unit → Option (Ad × Int)) : Nat → Int → Option (Ad × Int)
 | 0, _ => none
 | n4 + 1, v4 =>
  AW ((decide (v4 < (p1.length : Int))))
   ((A5 p1 v4).bind fun v7 =>
   (FZ N v3 v7).bind fun v8 =>
   AW ((!v8))
    (some ((Ad.mk (([] : List Int)) (([] : List Int)) (([] : List Int)) (([] : List Aq))), 4))
    (Eo N p1 v3 j4 n4 (wI .i64 (v4 + 1))))
   (j4 ())
def Fh (N : Nat) (p0 : Ad) (p1 : List Aa) : Option (Ad × Int) :=
 (BY N p0).bind fun v1 =>
 AW ((v1 != 0))
  (some ((Ad.mk (([] : List Int)) (([] : List Int)) (([] : List Int)) (([] : List Aq))), v1))
  ((DK N p0).bind fun v3 =>
  Eo N p1 v3 (fun (_ : Unit) =>
   (Ev N p0 p1).bind fun v10 =>
   some (v10, 0)) N 0)
def Bz (N : Nat) (p1 : Int) (v8 : (List Aa) × Int) (j12 : ((List Aa)) → Option Bool) : Nat → ((List Aa) × Int) → Option Bool
 | 0, _ => none
 | n12 + 1, v12 =>
  AW ((decide (v12.2 < (v8.1.length : Int))))
   (Bd (fun (v15 : (List Aa)) =>
    Bz N p1 v8 j12 n12 (v15, (wI .i64 (v12.2 + 1))))
   fun j15 =>
   (A5 v8.1 v12.2).bind fun v16 =>
   (Eh (0 ≤ (Int.tmod v12.2 8))).bind fun _ =>
   AW (((Hh .u8 ((FA .u8 p1 ((Int.tmod v12.2 8)))) 1) == 1))
    ((Eh (v12.1.length + (([v16] : List Aa)).length ≤ DP)).bind fun _ =>
    j15 (v12.1 ++ (([v16] : List Aa))))
    (j15 v12.1))
   (j12 v12.1)
def Ef (N : Nat) (p0 : B1) (p1 : Int) : Option Bool :=
 (GP N p0).bind fun v1 =>
 Bd (fun (v2 : Bool) =>
  AW v2
   ((FM N).bind fun v6 =>
   some v6)
   ((EW N v1.1).bind fun v7 =>
   (Fe N v1.1).bind fun v8 =>
   Bd (fun (v9 : Bool) =>
    AW v9
     (some ((v7.2 == 14)))
     (Bz N p1 v8 (fun (v13 : (List Aa)) =>
      (Fh N v1.1 v13).bind fun v20 =>
      (EW N v20.1).bind fun v21 =>
      Bd (fun (v22 : Bool) =>
       some v22)
      fun j22 =>
      AW ((v21.2 == 0))
       (j22 (decide ((v21.1.length : Int) ≤ (v7.1.length : Int))))
       (j22 false)) N (([] : List Aa), 0)))
   fun j9 =>
   AW ((v7.2 != 0))
    (j9 true)
    (j9 (v8.2 != 0))))
 fun j2 =>
 (FM N).bind fun v3 =>
 AW ((!v3))
  (j2 true)
  (j2 (!v1.2))
def Qz {α : Type} (w : α → Prop) (xs : List α) : Prop := ∀ x, x ∈ xs → w x
def MN (n : Int) : Prop := (Lit.int .u8 n).wf = true
def bh (n : Int) : Prop := (Lit.int .u16 n).wf = true
def Jg (x : Iw) : Prop := MN x.ff ∧ MN x.fg ∧ MN x.fk ∧ (fun _ => True) x.fp ∧ bh x.fB ∧ bh x.fC ∧ True
def GF (x : B1) : Prop := (Qz MN) x.fc ∧ (Qz MN) x.fh ∧ (Qz MN) x.fm ∧ (Qz Jg) x.fA ∧ True
open Go.RowKit
open Go.Proofs
abbrev O4 (x : Iw) : List C := [.pure (.val (.int .u8 x.ff)), .pure (.val (.int .u8 x.fg)), .pure (.val (.int .u8 x.fk)), .pure (.val (.bool x.fp)), .pure (.val (.int .u16 x.fB)), .pure (.val (.int .u16 x.fC))]
abbrev Dy (x : B1) : List C := [sC (x.fc.map ER), sC (x.fh.map ER), sC (x.fm.map ER), sC (x.fA.map H0)]
abbrev Bt (x : Aq) : List C := [iC x.ff, iC x.fg, iC x.fk, .pure (.val (.bool x.fp)), sC (x.fi.map (FX eB)), sC (x.fo.map (FX eB))]
abbrev Ak (x : Ad) : List C := [sC (x.fc.map Av), sC (x.fh.map Av), sC (x.fm.map Av), sC (x.fb.map AL)]
abbrev FG (x : Aa) : List C := [iC x.fw, iC x.fv, iC x.fu]
abbrev AQ (x : Ag) : List C := [sC (x.fd.map Av), sC (x.fa.map Av), sC (x.fe.map ER)]
abbrev Ed (x : Ah) : List C := [iC x.ff, iC x.fj, iC x.fr]
abbrev Wy (x : AG) : List C := [sC (x.fq.fd.map Av), sC (x.fq.fa.map Av), sC (x.fq.fe.map ER), iC x.fg, iC x.ft.ff, iC x.ft.fj, iC x.ft.fr, sC (x.fa.map Av)]
theorem Ac : Tryz.prog.follows .mixedOrders = true := by kernel_rfl
theorem Ia : Gg Tryz.prog 101 true = true := by kernel_rfl
theorem dC : Gg Tryz.prog 103 true = true := by kernel_rfl
theorem Q1 : Gg Tryz.prog 165 false = true := by kernel_rfl
theorem Xf : Gg Tryz.prog 22 false = true := by kernel_rfl
theorem bo : Gg Tryz.prog 23 false = true := by kernel_rfl
theorem cw : Gg Tryz.prog 25 true = true := by kernel_rfl
theorem Bi : Gg Tryz.prog 26 false = true := by kernel_rfl
theorem GN : Gg Tryz.prog 27 false = true := by kernel_rfl
theorem Dv : Gg Tryz.prog 29 true = true := by kernel_rfl
theorem CV : Gg Tryz.prog 3 false = true := by kernel_rfl
theorem bi : Gg Tryz.prog 33 false = true := by kernel_rfl
theorem TE : Gg Tryz.prog 4 false = true := by kernel_rfl
theorem Dk : Gg Tryz.prog 45 true = true := by kernel_rfl
theorem cn : Gg Tryz.prog 5 false = true := by kernel_rfl
theorem IT : Gg Tryz.prog 62 false = true := by kernel_rfl
theorem CM : Gg Tryz.prog 64 true = true := by kernel_rfl
theorem HL : Gg Tryz.prog 74 false = true := by kernel_rfl
theorem HQ : Gg Tryz.prog 76 true = true := by kernel_rfl
theorem Me : Gg Tryz.prog 77 false = true := by kernel_rfl
theorem cH : Gg Tryz.prog 86 false = true := by kernel_rfl
theorem eC : Gg Tryz.prog 88 true = true := by kernel_rfl
theorem Mj : Gg Tryz.prog 94 false = true := by kernel_rfl
theorem dy : Tb Tryz.prog 22 = true := by kernel_rfl
theorem QX : GR Tryz.prog 101 24 = true := by kernel_rfl
theorem bF : GR Tryz.prog 103 128 = true := by kernel_rfl
theorem bg : GR Tryz.prog 154 104 = true := by kernel_rfl
theorem Ms : GR Tryz.prog 3 8 = true := by kernel_rfl
theorem am : GR Tryz.prog 33 24 = true := by kernel_rfl
theorem WO : GR Tryz.prog 4 1 = true := by kernel_rfl
theorem NZ : GR Tryz.prog 45 24 = true := by kernel_rfl
theorem aI : GR Tryz.prog 5 1 = true := by kernel_rfl
theorem Z3 : GR Tryz.prog 64 72 = true := by kernel_rfl
theorem Ys : GR Tryz.prog 76 80 = true := by kernel_rfl
theorem V3 : GR Tryz.prog 77 24 = true := by kernel_rfl
theorem TV : GR Tryz.prog 94 1 = true := by kernel_rfl
theorem Gs : Df Tryz.prog 101 0 0 = true := by kernel_rfl
theorem Fz : Df Tryz.prog 101 1 1 = true := by kernel_rfl
theorem Hr : Df Tryz.prog 101 2 2 = true := by kernel_rfl
theorem QN : Df Tryz.prog 103 0 0 = true := by kernel_rfl
theorem Um : Df Tryz.prog 103 1 3 = true := by kernel_rfl
theorem Ya : Df Tryz.prog 103 2 4 = true := by kernel_rfl
theorem T8 : Df Tryz.prog 103 3 7 = true := by kernel_rfl
theorem QW : Df Tryz.prog 154 0 0 = true := by kernel_rfl
theorem Sv : Df Tryz.prog 25 0 0 = true := by kernel_rfl
theorem YW : Df Tryz.prog 25 1 1 = true := by kernel_rfl
theorem Zr : Df Tryz.prog 25 2 2 = true := by kernel_rfl
theorem S8 : Df Tryz.prog 25 3 3 = true := by kernel_rfl
theorem BF : Df Tryz.prog 29 0 0 = true := by kernel_rfl
theorem HD : Df Tryz.prog 29 1 1 = true := by kernel_rfl
theorem Jr : Df Tryz.prog 29 2 2 = true := by kernel_rfl
theorem BJ : Df Tryz.prog 29 3 3 = true := by kernel_rfl
theorem SN : Df Tryz.prog 45 0 0 = true := by kernel_rfl
theorem Sr : Df Tryz.prog 45 1 1 = true := by kernel_rfl
theorem SY : Df Tryz.prog 45 2 2 = true := by kernel_rfl
theorem D0 : Df Tryz.prog 64 0 0 = true := by kernel_rfl
theorem Ca : Df Tryz.prog 64 1 1 = true := by kernel_rfl
theorem DO : Df Tryz.prog 64 2 2 = true := by kernel_rfl
theorem HJ : Df Tryz.prog 76 0 0 = true := by kernel_rfl
theorem En : Df Tryz.prog 76 1 1 = true := by kernel_rfl
theorem JT : Df Tryz.prog 76 2 2 = true := by kernel_rfl
theorem KP : Df Tryz.prog 76 3 3 = true := by kernel_rfl
theorem Fq : Df Tryz.prog 76 4 4 = true := by kernel_rfl
theorem Fo : Df Tryz.prog 76 5 5 = true := by kernel_rfl
theorem Zl : Df Tryz.prog 88 0 0 = true := by kernel_rfl
theorem Ze : Df Tryz.prog 88 1 1 = true := by kernel_rfl
theorem Zq : Df Tryz.prog 88 2 2 = true := by kernel_rfl
theorem YP : Df Tryz.prog 88 3 3 = true := by kernel_rfl
theorem ZN : Df Tryz.prog 88 4 4 = true := by kernel_rfl
theorem YS : Df Tryz.prog 88 5 5 = true := by kernel_rfl
theorem ei : AH Tryz.prog 10 = true := by kernel_rfl
theorem db : AH Tryz.prog 100 = true := by kernel_rfl
theorem dN : AH Tryz.prog 101 = true := by kernel_rfl
theorem cP : AH Tryz.prog 102 = true := by kernel_rfl
theorem bV : AH Tryz.prog 103 = true := by kernel_rfl
theorem ci : AH Tryz.prog 104 = true := by kernel_rfl
theorem dG : AH Tryz.prog 105 = true := by kernel_rfl
theorem cr : AH Tryz.prog 106 = true := by kernel_rfl
theorem ZU : AH Tryz.prog 107 = true := by kernel_rfl
theorem dx : AH Tryz.prog 109 = true := by kernel_rfl
theorem cu : AH Tryz.prog 11 = true := by kernel_rfl
theorem cF : AH Tryz.prog 110 = true := by kernel_rfl
theorem ZZ : AH Tryz.prog 111 = true := by kernel_rfl
theorem cY : AH Tryz.prog 112 = true := by kernel_rfl
theorem cT : AH Tryz.prog 113 = true := by kernel_rfl
theorem ZV : AH Tryz.prog 114 = true := by kernel_rfl
theorem cL : AH Tryz.prog 116 = true := by kernel_rfl
theorem cG : AH Tryz.prog 117 = true := by kernel_rfl
theorem cm : AH Tryz.prog 118 = true := by kernel_rfl
theorem dz : AH Tryz.prog 119 = true := by kernel_rfl
theorem aS : AH Tryz.prog 12 = true := by kernel_rfl
theorem dF : AH Tryz.prog 120 = true := by kernel_rfl
theorem du : AH Tryz.prog 121 = true := by kernel_rfl
theorem cB : AH Tryz.prog 122 = true := by kernel_rfl
theorem ca : AH Tryz.prog 123 = true := by kernel_rfl
theorem ct : AH Tryz.prog 124 = true := by kernel_rfl
theorem bU : AH Tryz.prog 125 = true := by kernel_rfl
theorem cI : AH Tryz.prog 126 = true := by kernel_rfl
theorem dE : AH Tryz.prog 127 = true := by kernel_rfl
theorem Z7 : AH Tryz.prog 128 = true := by kernel_rfl
theorem cA : AH Tryz.prog 129 = true := by kernel_rfl
theorem eR : AH Tryz.prog 13 = true := by kernel_rfl
theorem Yi : AH Tryz.prog 130 = true := by kernel_rfl
theorem ce : AH Tryz.prog 131 = true := by kernel_rfl
theorem af : AH Tryz.prog 132 = true := by kernel_rfl
theorem cj : AH Tryz.prog 133 = true := by kernel_rfl
theorem dp : AH Tryz.prog 134 = true := by kernel_rfl
theorem XH : AH Tryz.prog 135 = true := by kernel_rfl
theorem ax : AH Tryz.prog 136 = true := by kernel_rfl
theorem Z2 : AH Tryz.prog 138 = true := by kernel_rfl
theorem ZY : AH Tryz.prog 139 = true := by kernel_rfl
theorem ec : AH Tryz.prog 14 = true := by kernel_rfl
theorem cS : AH Tryz.prog 140 = true := by kernel_rfl
theorem cW : AH Tryz.prog 141 = true := by kernel_rfl
theorem Ul : AH Tryz.prog 142 = true := by kernel_rfl
theorem Wa : AH Tryz.prog 143 = true := by kernel_rfl
theorem bT : AH Tryz.prog 144 = true := by kernel_rfl
theorem cO : AH Tryz.prog 145 = true := by kernel_rfl
theorem Z6 : AH Tryz.prog 146 = true := by kernel_rfl
theorem cy : AH Tryz.prog 147 = true := by kernel_rfl
theorem dm : AH Tryz.prog 148 = true := by kernel_rfl
theorem c4 : AH Tryz.prog 149 = true := by kernel_rfl
theorem cU : AH Tryz.prog 15 = true := by kernel_rfl
theorem cp : AH Tryz.prog 150 = true := by kernel_rfl
theorem cz : AH Tryz.prog 151 = true := by kernel_rfl
theorem dt : AH Tryz.prog 152 = true := by kernel_rfl
theorem Yw : AH Tryz.prog 153 = true := by kernel_rfl
theorem bR : AH Tryz.prog 154 = true := by kernel_rfl
theorem bW : AH Tryz.prog 155 = true := by kernel_rfl
theorem aB : AH Tryz.prog 156 = true := by kernel_rfl
theorem cM : AH Tryz.prog 157 = true := by kernel_rfl
theorem cf : AH Tryz.prog 158 = true := by kernel_rfl
theorem XJ : AH Tryz.prog 159 = true := by kernel_rfl
theorem Z4 : AH Tryz.prog 160 = true := by kernel_rfl
theorem dD : AH Tryz.prog 161 = true := by kernel_rfl
theorem dV : AH Tryz.prog 17 = true := by kernel_rfl
theorem ek : AH Tryz.prog 18 = true := by kernel_rfl
theorem dn : AH Tryz.prog 21 = true := by kernel_rfl
theorem bX : AH Tryz.prog 24 = true := by kernel_rfl
theorem d8 : AH Tryz.prog 25 = true := by kernel_rfl
theorem ZQ : AH Tryz.prog 31 = true := by kernel_rfl
theorem d1 : AH Tryz.prog 32 = true := by kernel_rfl
theorem eO : AH Tryz.prog 33 = true := by kernel_rfl
theorem Zh : AH Tryz.prog 34 = true := by kernel_rfl
theorem eP : AH Tryz.prog 35 = true := by kernel_rfl
theorem eo : AH Tryz.prog 36 = true := by kernel_rfl
theorem eQ : AH Tryz.prog 37 = true := by kernel_rfl
theorem eI : AH Tryz.prog 38 = true := by kernel_rfl
theorem eJ : AH Tryz.prog 39 = true := by kernel_rfl
theorem eq : AH Tryz.prog 40 = true := by kernel_rfl
theorem aZ : AH Tryz.prog 41 = true := by kernel_rfl
theorem aF : AH Tryz.prog 42 = true := by kernel_rfl
theorem cb : AH Tryz.prog 43 = true := by kernel_rfl
theorem aV : AH Tryz.prog 44 = true := by kernel_rfl
theorem dq : AH Tryz.prog 46 = true := by kernel_rfl
theorem eb : AH Tryz.prog 47 = true := by kernel_rfl
theorem WZ : AH Tryz.prog 48 = true := by kernel_rfl
theorem cR : AH Tryz.prog 51 = true := by kernel_rfl
theorem dW : AH Tryz.prog 55 = true := by kernel_rfl
theorem dH : AH Tryz.prog 56 = true := by kernel_rfl
theorem Tg : AH Tryz.prog 57 = true := by kernel_rfl
theorem cc : AH Tryz.prog 58 = true := by kernel_rfl
theorem d4 : AH Tryz.prog 59 = true := by kernel_rfl
theorem UI : AH Tryz.prog 60 = true := by kernel_rfl
theorem eg : AH Tryz.prog 61 = true := by kernel_rfl
theorem aL : AH Tryz.prog 62 = true := by kernel_rfl
theorem cE : AH Tryz.prog 63 = true := by kernel_rfl
theorem eT : AH Tryz.prog 64 = true := by kernel_rfl
theorem et : AH Tryz.prog 65 = true := by kernel_rfl
theorem dY : AH Tryz.prog 66 = true := by kernel_rfl
theorem eS : AH Tryz.prog 67 = true := by kernel_rfl
theorem dU : AH Tryz.prog 68 = true := by kernel_rfl
theorem eF : AH Tryz.prog 69 = true := by kernel_rfl
theorem bB : AH Tryz.prog 70 = true := by kernel_rfl
theorem cx : AH Tryz.prog 71 = true := by kernel_rfl
theorem eE : AH Tryz.prog 72 = true := by kernel_rfl
theorem bf : AH Tryz.prog 73 = true := by kernel_rfl
theorem eG : AH Tryz.prog 75 = true := by kernel_rfl
theorem YZ : AH Tryz.prog 76 = true := by kernel_rfl
theorem d3 : AH Tryz.prog 77 = true := by kernel_rfl
theorem eN : AH Tryz.prog 78 = true := by kernel_rfl
theorem eM : AH Tryz.prog 79 = true := by kernel_rfl
theorem ck : AH Tryz.prog 83 = true := by kernel_rfl
theorem dk : AH Tryz.prog 84 = true := by kernel_rfl
theorem dZ : AH Tryz.prog 85 = true := by kernel_rfl
theorem eK : AH Tryz.prog 86 = true := by kernel_rfl
theorem ef : AH Tryz.prog 87 = true := by kernel_rfl
theorem co : AH Tryz.prog 88 = true := by kernel_rfl
theorem ep : AH Tryz.prog 89 = true := by kernel_rfl
theorem ee : AH Tryz.prog 90 = true := by kernel_rfl
theorem Zc : AH Tryz.prog 91 = true := by kernel_rfl
theorem eH : AH Tryz.prog 92 = true := by kernel_rfl
theorem eL : AH Tryz.prog 93 = true := by kernel_rfl
theorem dT : AH Tryz.prog 94 = true := by kernel_rfl
theorem ed : AH Tryz.prog 95 = true := by kernel_rfl
theorem en : AH Tryz.prog 96 = true := by kernel_rfl
theorem d9 : AH Tryz.prog 97 = true := by kernel_rfl
theorem ev : AH Tryz.prog 98 = true := by kernel_rfl
theorem eu : AH Tryz.prog 99 = true := by kernel_rfl
theorem R0 : PY Tryz.prog 109 .u64 = true := by kernel_rfl
theorem Ux : PY Tryz.prog 140 .u32 = true := by kernel_rfl
theorem aq : PY Tryz.prog 142 .u64 = true := by kernel_rfl
theorem cv : PY Tryz.prog 165 .u64 = true := by kernel_rfl
theorem XX : PY Tryz.prog 3 .i64 = true := by kernel_rfl
theorem dR : PY Tryz.prog 5 .u8 = true := by kernel_rfl
theorem aY : Tryz.prog.underlying 9 = some .string := by kernel_rfl
theorem S4 : Tryz.prog.underlying 125 = some (.map 9 3) := by kernel_rfl
theorem Wg : Jn Tryz.prog 101 = some [(0, 1), (1, 1), (2, 1)] := by kernel_rfl
theorem au : Jn Tryz.prog 103 = some [(0, 3), (3, 1), (4, 3), (7, 1)] := by kernel_rfl
theorem aj : Jn Tryz.prog 154 = some [(0, 3), (3, 1), (4, 3)] := by kernel_rfl
theorem TI : Jn Tryz.prog 29 = some [(0, 1), (1, 1), (2, 1), (3, 1)] := by kernel_rfl
theorem Rn : Jn Tryz.prog 45 = some [(0, 1), (1, 1), (2, 1)] := by kernel_rfl
theorem J4 : Jn Tryz.prog 64 = some [(0, 1), (1, 1), (2, 1)] := by kernel_rfl
theorem dh : Jn Tryz.prog 76 = some [(0, 1), (1, 1), (2, 1), (3, 1), (4, 1), (5, 1)] := by kernel_rfl
theorem R4 : X7 Tryz.prog 45 = some [0, 0, 0] := by kernel_rfl
theorem K7 : sliceB Tryz.prog 119 154 = true := by kernel_rfl
theorem K2 : sliceB Tryz.prog 148 64 = true := by kernel_rfl
theorem LT : sliceB Tryz.prog 22 5 = true := by kernel_rfl
theorem Xq : sliceB Tryz.prog 23 88 = true := by kernel_rfl
theorem AE : sliceB Tryz.prog 26 3 = true := by kernel_rfl
theorem C9 : sliceB Tryz.prog 27 76 = true := by kernel_rfl
theorem AP : sliceB Tryz.prog 33 45 = true := by kernel_rfl
theorem Ga : sliceB Tryz.prog 37 101 = true := by kernel_rfl
theorem KH : sliceB Tryz.prog 54 33 = true := by kernel_rfl
theorem E0 : sliceB Tryz.prog 62 94 = true := by kernel_rfl
theorem D7 : sliceB Tryz.prog 74 77 = true := by kernel_rfl
theorem E6 : sliceB Tryz.prog 77 4 = true := by kernel_rfl
theorem JP : sliceB Tryz.prog 96 103 = true := by kernel_rfl
theorem T7 : (Tryz.prog.underlying 109).isSome = true := by kernel_rfl
theorem UP : (Tryz.prog.underlying 140).isSome = true := by kernel_rfl
theorem YF : (Tryz.prog.underlying 142).isSome = true := by kernel_rfl
theorem bq : (Tryz.prog.underlying 3).isSome = true := by kernel_rfl
theorem Z8 : (Tryz.prog.underlying 5).isSome = true := by kernel_rfl
theorem d6 : (Tryz.prog.underlying 94).isSome = true := by kernel_rfl
theorem Zf : R2 Tryz.prog 9 = true := by kernel_rfl
theorem DV : Ic Tryz.prog 101 3 = true := by kernel_rfl
theorem L0 : Ic Tryz.prog 103 8 = true := by kernel_rfl
theorem Sg : Ic Tryz.prog 154 7 = true := by kernel_rfl
theorem VP : Ic Tryz.prog 165 1 = true := by kernel_rfl
theorem de : Ic Tryz.prog 25 4 = true := by kernel_rfl
theorem Wu : Ic Tryz.prog 26 1 = true := by kernel_rfl
theorem bu : Ic Tryz.prog 27 1 = true := by kernel_rfl
theorem Ci : Ic Tryz.prog 29 4 = true := by kernel_rfl
theorem Et : Ic Tryz.prog 3 1 = true := by kernel_rfl
theorem Uf : Ic Tryz.prog 33 1 = true := by kernel_rfl
theorem Nh : Ic Tryz.prog 4 1 = true := by kernel_rfl
theorem AO : Ic Tryz.prog 45 3 = true := by kernel_rfl
theorem aO : Ic Tryz.prog 5 1 = true := by kernel_rfl
theorem ew : Ic Tryz.prog 62 1 = true := by kernel_rfl
theorem Bc : Ic Tryz.prog 64 3 = true := by kernel_rfl
theorem Uh : Ic Tryz.prog 74 1 = true := by kernel_rfl
theorem Dx : Ic Tryz.prog 76 6 = true := by kernel_rfl
theorem IS : Ic Tryz.prog 77 1 = true := by kernel_rfl
theorem bH : Ic Tryz.prog 88 6 = true := by kernel_rfl
theorem HK : Ic Tryz.prog 94 1 = true := by kernel_rfl
theorem Jf : Fu Tryz.prog 101 = some (.agg #[.int .i64 0, .int .i64 0, .int .i64 0]) := by kernel_rfl
theorem T2 : Fu Tryz.prog 103 = some (.agg #[.slice none 0 0, .slice none 0 0, .slice none 0 0, .int .i64 0, .int .i64 0, .int .i64 0, .int .i64 0, .slice none 0 0]) := by kernel_rfl
theorem Tp : Fu Tryz.prog 154 = some (.agg #[.slice none 0 0, .slice none 0 0, .slice none 0 0, .int .i64 0, .int .i64 0, .int .i64 0, .int .i64 0]) := by kernel_rfl
theorem dL : Fu Tryz.prog 165 = some (.int .u64 0) := by kernel_rfl
theorem KC : Fu Tryz.prog 29 = some (.agg #[.slice none 0 0, .slice none 0 0, .slice none 0 0, .slice none 0 0]) := by kernel_rfl
theorem Lt : Fu Tryz.prog 3 = some (.int .i64 0) := by kernel_rfl
theorem Yz : Fu Tryz.prog 33 = some (.slice none 0 0) := by kernel_rfl
theorem Wl : Fu Tryz.prog 4 = some (.bool false) := by kernel_rfl
theorem HA : Fu Tryz.prog 45 = some (.agg #[.int .i64 0, .int .i64 0, .int .i64 0]) := by kernel_rfl
theorem dB : Fu Tryz.prog 5 = some (.int .u8 0) := by kernel_rfl
theorem FI : Fu Tryz.prog 64 = some (.agg #[.slice none 0 0, .slice none 0 0, .slice none 0 0]) := by kernel_rfl
theorem JX : Fu Tryz.prog 76 = some (.agg #[.int .i64 0, .int .i64 0, .int .i64 0, .bool false, .slice none 0 0, .slice none 0 0]) := by kernel_rfl
theorem SX : Fu Tryz.prog 77 = some (.slice none 0 0) := by kernel_rfl
theorem ej : Fu Tryz.prog 88 = some (.agg #[.int .u8 0, .int .u8 0, .int .u8 0, .bool false, .int .u16 0, .int .u16 0]) := by kernel_rfl
theorem Sk : Fu Tryz.prog 94 = some (.int .u8 0) := by kernel_rfl
set_option maxRecDepth 10000
theorem Kg (N : Nat) (p0 : List Int) (p1 : Int) (r : Int) (h : Fg N p0 p1 = some r) : Ax Tryz.prog 56 [pD (.sl (p0.map ER)), iD p1] [] (iD r) := by
 unfold Fg at h
 refine Am (n := 14) (rs := [.tmp 4]) Tryz.func56 rfl rfl rfl (A0 rfl) (A0 rfl) rfl fun w0 S0 => ?_
 refine Ar Ac rfl (qa rfl (Ae (Ao (Ar Ac rfl (qm rfl (qm rfl (AX LT rfl (AY rfl (Ae ?_)))))))))
 refine Ba h rfl (fun h => ?_) fun h => ?_
 ·refine Ar Ac rfl (qm rfl (qm rfl ?_))
  refine Bb h fun v2 a2 b2 h => qi LT aO a2 (Af b2) rfl (qk cn rfl (Ja Z8 XX rfl (qe rfl ?_)))
  obtain rfl := sj h
  refine Aj (sm [] [(4, iD ((wI .i64 v2)))] [] rfl rfl) (Aw ?_)
  exact ⟨⟨[_], ⟨.tmp _ _ rfl, tv⟩, rfl⟩, tv⟩
 ·refine An (Ar Ac rfl (qe rfl ?_))
  obtain rfl := sj h
  refine Aj (sm [] [(4, iD 0)] [] rfl rfl) (Aw ?_)
  exact ⟨⟨[_], ⟨.tmp _ _ rfl, tv⟩, rfl⟩, tv⟩
theorem C1 (N : Nat) (p0 : Aq) (r : Bool) (h : Bg N p0 = some r) : Ax Tryz.prog 57 [.e (.agg (Bt p0))] [] (bD r) := by
 unfold Bg at h
 refine Am (n := 11) (rs := [.tmp 2]) Tryz.func57 rfl rfl rfl (A0 rfl) (A0 rfl) rfl fun w0 S0 => ?_
 refine Ar Ac rfl (qb rfl (qe rfl ?_))
 refine AR h (fun v1 => mk [(2, bD v1)] []) (fun j1 h => ?_) (fun v1 h => ?_)
 ·refine Ai Ac rfl (qf HJ rfl (ql CV rfl (B9 rfl (qm rfl ?_))))
  refine E7 6 h rfl (fun h => ?_) fun h => ?_
  ·refine qn rfl (qn rfl (qn rfl (qp rfl (qe rfl ?_))))
   exact sn [] h
  ·refine qf HJ rfl (ql CV rfl (B9 rfl (qp rfl (qe rfl ?_))))
   exact sn [] h
 ·obtain rfl := sj h
  refine Aj (sm [] [(2, bD v1)] [] rfl rfl) (Aw ?_)
  exact ⟨⟨[_], ⟨.tmp _ _ rfl, tv⟩, rfl⟩, tv⟩
theorem Kc (N : Nat) (p0 : Int) (p1 : Int) (p2 : Int) (p3 : Bool) (r : (List (List Bool))) (h : Fi N p0 p1 p2 p3 = some r) : Ax Tryz.prog 58 [iD p0, iD p1, pD (.val (.int .u16 p2)), bD p3] [(1, r.map (FX eB))] (oD (.own 0)) := by
 unfold Fi at h
 refine Am (n := 47) (rs := [.tmp 8]) Tryz.func58 rfl rfl rfl (A0 rfl) (A0 rfl) rfl fun w0 S0 => ?_
 refine Ar Ac rfl (qa rfl (Ae (Ar Ac rfl (qa rfl (Ae (Ao (Ar Ac rfl (qe rfl ?_))))))))
 refine AA (L := C4 N p0 p1 p2 p3) h (fun v1 => mk [(0, iD p0), (1, iD p1), (2, pD (.val (.int .u16 p2))), (3, bD p3), (9, oD (.own 2001)), (10, iD v1.2)] [(2001, .vec 1 (v1.1.map (FX eB)))]) (fun v2 => mk [(9, oD (.own 2002))] [(2002, .vec 1 (v2.map (FX eB)))]) (fun _ _ => rfl) ((Bf 9 2010 1 rfl rfl rfl).trans (sm [(2001, 2010)] _ _ rfl rfl)) (fun j1 n1 v1 h => ?_) (fun v2 s h hs => ?_)
 ·unfold C4 at h
  refine Ao (Ar Ac rfl (qm rfl (qm rfl (AY rfl (Ae ?_)))))
  refine Ba h rfl (fun h => ?_) fun h => ?_
  ·refine An (Ao (AJ (Ar Ac rfl (qa rfl (Ae (Ao (Ar Ac rfl (qe rfl ?_))))))))
   refine AA (L := C8 N p1 p2 p3 v1) h (fun v4 => mk [(0, iD p0), (1, iD p1), (2, pD (.val (.int .u16 p2))), (3, bD p3), (9, oD (.own 2003)), (10, iD v1.2), (11, oD (.own 2004)), (12, iD v4.2)] [(2003, .vec 1 (v1.1.map (FX eB))), (2004, .vec 1 (v4.1.map eB))]) (fun v5 => mk [(0, iD p0), (1, iD p1), (2, pD (.val (.int .u16 p2))), (3, bD p3), (9, oD (.own 2005)), (10, iD v1.2), (11, oD (.own 2006))] [(2005, .vec 1 (v1.1.map (FX eB))), (2006, .vec 1 (v5.map eB))]) (fun _ _ => rfl) ((Bf 11 2009 1 rfl rfl rfl).trans (sm [(2003, 2001), (2004, 2009)] _ _ rfl rfl)) (fun j4 n4 v4 h => ?_) (fun v5 s h hs => ?_)
   ·unfold C8 at h
    refine Ao (Ar Ac rfl (qm rfl (qm rfl (AY rfl (Ae ?_)))))
    refine Ba h rfl (fun h => ?_) fun h => ?_
    ·refine An ?_
     refine AR h (fun v7 => mk [(0, iD p0), (1, iD p1), (2, pD (.val (.int .u16 p2))), (3, bD p3), (9, oD (.own 2007)), (10, iD v1.2), (11, oD (.own 2008)), (12, iD v4.2)] [(2007, .vec 1 (v1.1.map (FX eB))), (2008, .vec 1 (v7.map eB))]) (fun j7 h => ?_) (fun v7 h => ?_)
     ·refine AJ (Ai Ac rfl (qm rfl (qm rfl (qm rfl ?_))))
      refine E7 25 h rfl (fun h => ?_) fun h => ?_
      ·refine qm rfl (qm rfl (B9 rfl (qp rfl (qm rfl ?_))))
       refine E7 30 h rfl (fun h => ?_) fun h => ?_
       ·refine qn rfl (qn rfl (qn rfl (qn rfl (qn rfl (qn rfl (qn rfl (qn rfl (qp rfl (E5 E6 Nh Wl rfl ?_)))))))))
        refine GA h fun c10 h => Ew (f := eB) E6 E6 Nh WO Wl c10 rfl (qe rfl ?_)
        exact sn [(2007, 2003), (2008, 41)] h
       ·refine qm rfl (qm rfl (Kj rfl (qm rfl (AV rfl ?_))))
        refine GA h fun c11 h => II rfl c11 (Nf rfl (by decide) (B9 rfl (qp rfl (E5 E6 Nh Wl rfl ?_))))
        refine GA h fun c12 h => Ew (f := eB) E6 E6 Nh WO Wl c12 rfl (qe rfl ?_)
        exact sn [(2007, 2003), (2008, 41)] h
      ·refine qn rfl (qn rfl (qn rfl (qp rfl (qm rfl (qm rfl (qm rfl (Kj rfl (qm rfl (AV rfl ?_)))))))))
       refine GA h fun c13 h => II rfl c13 (Nf rfl (by decide) (B9 rfl (qp rfl (E5 E6 Nh Wl rfl ?_))))
       refine GA h fun c14 h => Ew (f := eB) E6 E6 Nh WO Wl c14 rfl (qe rfl ?_)
       exact sn [(2007, 2003), (2008, 41)] h
     ·refine Ai Ac rfl (qm rfl (AV rfl (qe rfl ?_)))
      exact sn [(2003, 2007), (2004, 2008)] h
    ·refine AT ?_
     exact sn [(2005, 2003), (2006, 2004)] h
   ·refine Aj hs (Ai Ac rfl (qm rfl (qm rfl (EF (BD 2006 _ _ rfl rfl) (E5 D7 IS SX rfl ?_)))))
    refine GA h fun c15 h => Ew (f := (FX eB)) D7 D7 IS V3 SX c15 rfl (qa rfl (Ae (Ai Ac rfl (qm rfl (AV rfl (qe rfl ?_))))))
    exact sn [(2001, 45)] h
  ·refine AT ?_
   exact sn [(2002, 2001)] h
 ·refine Aj hs (Ar Ac rfl (qm rfl (qe rfl ?_)))
  obtain rfl := sj h
  refine Aj (sm [(1000, 2002)] [(8, oD (.own 1000))] [(1000, .vec 1 (v2.map (FX eB)))] rfl rfl) (Aw ?_)
  exact ⟨⟨[_], ⟨.tmp _ _ rfl, tv⟩, rfl⟩, ⟨rfl, tv⟩⟩
theorem O0 (N : Nat) (p0 : B1) (r : Ad × Bool) (h : GG N p0 = some r) : Ax Tryz.prog 32 [.e (.agg (Dy p0))] [(1, r.1.fc.map Av), (1, r.1.fh.map Av), (1, r.1.fm.map Av), (6, r.1.fb.map AL)] (.tup [.agg [.own 0, .own 1, .own 2, .own 3], .one (.pure (.val (.bool r.2)))]) := by
 unfold GG at h
 refine Am (n := 152) (rs := [.cell 2 29, .tmp 3]) Tryz.func32 rfl rfl rfl (A0 rfl) (A0 rfl) rfl fun w0 S0 => ?_
 refine Ar Ac rfl (qb rfl (qz KC rfl (qa rfl (Ae (Ao ?_)))))
 refine AR h (fun v1 => mk [(1, oD (.ptr 1 0)), (2, oD (.ptr 2 0)), (19, bD v1)] [(1, .box (Dy p0)), (2, .box [.pure (.nil0), .pure (.nil0), .pure (.nil0), .pure (.nil0)])]) (fun j1 h => ?_) (fun v1 h => ?_)
 ·refine Ai Ac rfl (qf Sv rfl (ql Xf rfl (AX LT rfl (GB rfl (qm rfl ?_)))))
  refine E7 14 h rfl (fun h => ?_) fun h => ?_
  ·refine qn rfl (qn rfl (qn rfl (qn rfl (qp rfl (Ae ?_)))))
   exact sn [] h
  ·refine qf S8 rfl (ql bo rfl (AX Xq rfl (GB rfl (qp rfl (Ae ?_)))))
   exact sn [] h
 ·refine Ba h rfl (fun h => ?_) fun h => ?_
  ·refine Ar Ac rfl (Bo KC TI rfl (qs Ci rfl (qe rfl ?_)))
   obtain rfl := sj h
   refine Aj ((Ay 2 0 2001 1 _ rfl rfl rfl rfl).trans ((Ay 2 1 2002 1 _ rfl rfl rfl rfl).trans ((Ay 2 2 2003 1 _ rfl rfl rfl rfl).trans ((Ay 2 3 2004 6 _ rfl rfl rfl rfl).trans (sm [(1000, 2001), (1001, 2002), (1002, 2003), (1003, 2004)] [(2, oD (.ptr 2 0)), (3, bD false)] [(2, .box [.own 1000, .own 1001, .own 1002, .own 1003]), (1000, .vec 1 ((([] : List Int)).map Av)), (1001, .vec 1 ((([] : List Int)).map Av)), (1002, .vec 1 ((([] : List Int)).map Av)), (1003, .vec 6 ((([] : List Aq)).map AL))] rfl rfl))))) (Aw ?_)
   exact ⟨⟨[_, _], ⟨.cellN _ _ _ _ _ _ _ rfl rfl Dv Ci rfl rfl (J8 rfl), ⟨.tmp _ _ rfl, tv⟩⟩, rfl⟩, ⟨rfl, rfl, rfl, rfl, tv⟩⟩
  ·refine An (Ar Ac rfl (qz KC rfl (Ae (Ao (Ar Ac rfl (qe rfl ?_))))))
   refine AA (L := DE N p0) h (fun v4 => mk [(1, oD (.ptr 1 0)), (2, oD (.ptr 2 0)), (4, oD (.ptr 4 0)), (5, iD v4.2.2.2)] [(1, .box (Dy p0)), (2, .box [.pure (.nil0), .pure (.nil0), .pure (.nil0), .pure (.nil0)]), (4, .box [.own 2005, .own 2006, .own 2007, .pure (.nil0)]), (2005, .vec 1 (v4.1.map Av)), (2006, .vec 1 (v4.2.1.map Av)), (2007, .vec 1 (v4.2.2.1.map Av))]) (fun v5 => mk [(1, oD (.ptr 1 0)), (2, oD (.ptr 2 0)), (4, oD (.ptr 4 0))] [(1, .box (Dy p0)), (2, .box [.pure (.nil0), .pure (.nil0), .pure (.nil0), .pure (.nil0)]), (4, .box [.own 2008, .own 2009, .own 2010, .pure (.nil0)]), (2008, .vec 1 (v5.1.map Av)), (2009, .vec 1 (v5.2.1.map Av)), (2010, .vec 1 (v5.2.2.map Av))]) (fun _ _ => rfl) ((Ay 4 0 2011 1 _ rfl rfl rfl rfl).trans ((Ay 4 1 2012 1 _ rfl rfl rfl rfl).trans ((Ay 4 2 2013 1 _ rfl rfl rfl rfl).trans (sm [(2005, 2011), (2006, 2012), (2007, 2013)] _ _ rfl rfl)))) (fun j4 n4 v4 h => ?_) (fun v5 s h hs => ?_)
   ·unfold DE at h
    refine Ao (Ar Ac rfl (qm rfl (qf Sv rfl (ql Xf rfl (AX LT rfl (AY rfl (Ae ?_)))))))
    refine Ba h rfl (fun h => ?_) fun h => ?_
    ·refine An (Ao (AJ (Ar Ac rfl (qf Sv rfl (ql Xf rfl (qm rfl ?_))))))
     refine Bb h fun v7 a7 b7 h => qi LT aO a7 (Af b7) rfl (qk cn rfl (Nf rfl (by decide) (Ja Z8 XX rfl (AV rfl (qa rfl (Ae (Ar Ac rfl (qf BF rfl (ql Bi rfl (qm rfl (E5 AE Et Lt rfl ?_)))))))))))
     refine GA h fun c8 h => Ew (f := Av) AE AE Et Ms Lt c8 rfl (qf BF rfl (qs Wu rfl (Ae (Ar Ac rfl (qf HD rfl (ql Bi rfl (qf YW rfl (ql Xf rfl (qm rfl ?_)))))))))
     refine BR h fun v9 a9 h => AC [] (Kg N p0.fh v4.2.2.2 v9 a9) dH rfl (qm rfl ?_)
     refine GA h fun c10 h => Nf rfl c10 (E5 AE Et Lt rfl ?_)
     refine GA h fun c11 h => Ew (f := Av) AE AE Et Ms Lt c11 rfl (qf HD rfl (qs Wu rfl (AI (by kernel_rfl) (Ai Ac rfl (qf Jr rfl (ql Bi rfl (qf Zr rfl (ql Xf rfl (qm rfl ?_)))))))))
     refine BR h fun v12 a12 h => AC [] (Kg N p0.fm v4.2.2.2 v12 a12) dH rfl (qm rfl ?_)
     refine GA h fun c13 h => Nf rfl c13 (E5 AE Et Lt rfl ?_)
     refine GA h fun c14 h => Ew (f := Av) AE AE Et Ms Lt c14 rfl (qf Jr rfl (qs Wu rfl (AI (by kernel_rfl) (Ai Ac rfl (qm rfl (AV rfl (qe rfl ?_)))))))
     exact sn [(2005, 40), (2006, 51), (2007, 62)] h
    ·refine AT ?_
     exact sn [(2008, 2005), (2009, 2006), (2010, 2007)] h
   ·refine Aj hs (Ao (Ar Ac rfl (qe rfl ?_)))
    refine AA (L := BT N p0 v5) h (fun v15 => mk [(1, oD (.ptr 1 0)), (2, oD (.ptr 2 0)), (4, oD (.ptr 4 0)), (7, iD v15.2)] [(1, .box (Dy p0)), (2, .box [.pure (.nil0), .pure (.nil0), .pure (.nil0), .pure (.nil0)]), (4, .box [.own 2014, .own 2015, .own 2016, .own 2017]), (2014, .vec 1 (v5.1.map Av)), (2015, .vec 1 (v5.2.1.map Av)), (2016, .vec 1 (v5.2.2.map Av)), (2017, .vec 6 (v15.1.map AL))]) (fun v16 => mk [(2, oD (.ptr 2 0)), (4, oD (.ptr 4 0))] [(2, .box [.pure (.nil0), .pure (.nil0), .pure (.nil0), .pure (.nil0)]), (4, .box [.own 2018, .own 2019, .own 2020, .own 2021]), (2018, .vec 1 (v5.1.map Av)), (2019, .vec 1 (v5.2.1.map Av)), (2020, .vec 1 (v5.2.2.map Av)), (2021, .vec 6 (v16.map AL))]) (fun _ _ => rfl) ((Ay 4 3 2039 6 _ rfl rfl rfl rfl).trans (sm [(2014, 2008), (2015, 2009), (2016, 2010), (2017, 2039)] _ _ rfl rfl)) (fun j15 n15 v15 h => ?_) (fun v16 s h hs => ?_)
    ·unfold BT at h
     refine Ao ?_
     refine AR h (fun v17 => mk [(1, oD (.ptr 1 0)), (2, oD (.ptr 2 0)), (4, oD (.ptr 4 0)), (7, iD v15.2), (74, bD v17)] [(1, .box (Dy p0)), (2, .box [.pure (.nil0), .pure (.nil0), .pure (.nil0), .pure (.nil0)]), (4, .box [.own 2022, .own 2023, .own 2024, .own 2025]), (2022, .vec 1 (v5.1.map Av)), (2023, .vec 1 (v5.2.1.map Av)), (2024, .vec 1 (v5.2.2.map Av)), (2025, .vec 6 (v15.1.map AL))]) (fun j17 h => ?_) (fun v17 h => ?_)
     ·refine Ai Ac rfl (qm rfl (qf S8 rfl (ql bo rfl (AX Xq rfl (AY rfl (qm rfl ?_))))))
      refine E7 69 h rfl (fun h => ?_) fun h => ?_
      ·refine qf BF rfl (ql Bi rfl (D4 AE rfl (GB rfl (qp rfl (Ae ?_)))))
       exact sn [(2022, 2014), (2023, 2015), (2024, 2016), (2025, 2017)] h
      ·refine qn rfl (qn rfl (qn rfl (qn rfl (qp rfl (Ae ?_)))))
       exact sn [(2022, 2014), (2023, 2015), (2024, 2016), (2025, 2017)] h
     ·refine Ba h rfl (fun h => ?_) fun h => ?_
      ·refine An (Ao (AJ (Ar Ac rfl (qf S8 rfl (ql bo rfl (qm rfl ?_))))))
       refine Bb h fun v20 a20 b20 h => qi Xq bH a20 (Af b20) rfl (qK eC bH rfl (qz ej rfl (qs bH rfl (Ae (Ar Ac rfl (qf Zl rfl (ql cn rfl (Nf rfl (by decide) (Ja Z8 XX rfl (AV rfl (qf Ze rfl (ql cn rfl (Ja Z8 XX rfl (qf BF rfl (ql Bi rfl (D4 AE rfl ?_))))))))))))))))
       refine GA h fun c21 h => Nf rfl c21 (qf Zq rfl (ql cn rfl (Ja Z8 XX rfl (qf BF rfl (ql Bi rfl (D4 AE rfl ?_))))))
       refine GA h fun c22 h => Nf rfl c22 (Bo JX dh rfl (qz JX rfl (qs Dx rfl (AI (by kernel_rfl) ?_))))
       refine AR h (fun v23 => mk [(1, oD (.ptr 1 0)), (2, oD (.ptr 2 0)), (4, oD (.ptr 4 0)), (7, iD v15.2), (8, oD (.ptr 8 0)), (9, oD (.ptr 9 0))] [(1, .box (Dy p0)), (2, .box [.pure (.nil0), .pure (.nil0), .pure (.nil0), .pure (.nil0)]), (4, .box [.own 2026, .own 2027, .own 2028, .own 2029]), (8, .box (O4 v20)), (9, .box [iC ((wI .i64 (1 + (wI .i64 ((Int.tmod v20.ff 4)))))), iC ((Int.tmod ((wI .i64 v20.fg)) ((v5.1.length : Int)))), iC ((Int.tmod ((wI .i64 v20.fk)) ((v5.1.length : Int)))), .pure (.val (.bool v23)), .pure (.nil0), .pure (.nil0)]), (2026, .vec 1 (v5.1.map Av)), (2027, .vec 1 (v5.2.1.map Av)), (2028, .vec 1 (v5.2.2.map Av)), (2029, .vec 6 (v15.1.map AL))]) (fun j23 h => ?_) (fun v23 h => ?_)
       ·refine Ai Ac rfl (qf YP rfl (ql TE rfl (qm rfl ?_)))
        refine E7 104 h rfl (fun h => ?_) fun h => ?_
        ·refine qL HQ Dx rfl ?_
         refine BR h fun v25 a25 h => AC [] (C1 N ((Aq.mk ((wI .i64 (1 + (wI .i64 ((Int.tmod v20.ff 4)))))) ((Int.tmod ((wI .i64 v20.fg)) ((v5.1.length : Int)))) ((Int.tmod ((wI .i64 v20.fk)) ((v5.1.length : Int)))) false (([] : List (List Bool))) (([] : List (List Bool))))) v25 a25) Tg rfl (CO rfl (qp rfl (qf KP rfl (qs Nh rfl (Ae ?_)))))
         exact sn [(2026, 2022), (2027, 2023), (2028, 2024), (2029, 2025)] h
        ·refine qn rfl (qn rfl (qn rfl (qp rfl (qf KP rfl (qs Nh rfl (Ae ?_))))))
         exact sn [(2026, 2022), (2027, 2023), (2028, 2024), (2029, 2025)] h
       ·refine Ar Ac rfl (qf BF rfl (ql Bi rfl (qf En rfl (ql CV rfl ?_))))
        refine Bb h fun v26 a26 b26 h => qI AE Et a26 (Af b26) rfl (qj CV (Af b26) rfl (qf BF rfl (ql Bi rfl (qf JT rfl (ql CV rfl ?_)))))
        refine Bb h fun v27 a27 b27 h => qI AE Et a27 (Af b27) rfl (qj CV (Af b27) rfl (qf ZN rfl (ql cH rfl ?_)))
        refine BR h fun v28 a28 h => AC [2030] (Kc N v26 v27 v20.fB false v28 a28) cc rfl (qf Fq rfl (qs Uh rfl (AI (by kernel_rfl) ?_)))
        refine AR h (fun v29 => mk [(1, oD (.ptr 1 0)), (2, oD (.ptr 2 0)), (4, oD (.ptr 4 0)), (7, iD v15.2), (9, oD (.ptr 9 0))] [(1, .box (Dy p0)), (2, .box [.pure (.nil0), .pure (.nil0), .pure (.nil0), .pure (.nil0)]), (4, .box [.own 2031, .own 2032, .own 2033, .own 2034]), (9, .box [iC ((wI .i64 (1 + (wI .i64 ((Int.tmod v20.ff 4)))))), iC ((Int.tmod ((wI .i64 v20.fg)) ((v5.1.length : Int)))), iC ((Int.tmod ((wI .i64 v20.fk)) ((v5.1.length : Int)))), .pure (.val (.bool v23)), .own 2035, .own 2036]), (2031, .vec 1 (v5.1.map Av)), (2032, .vec 1 (v5.2.1.map Av)), (2033, .vec 1 (v5.2.2.map Av)), (2034, .vec 6 (v15.1.map AL)), (2035, .vec 1 (v28.map (FX eB))), (2036, .vec 1 (v29.map (FX eB)))]) (fun j29 h => ?_) (fun v29 h => ?_)
        ·refine Ar Ac rfl (qf HJ rfl (ql CV rfl (B9 rfl (Ae ?_))))
         refine Ba h rfl (fun h => ?_) fun h => ?_
         ·refine Ai Ac rfl (qf BF rfl (ql Bi rfl (qf En rfl (ql CV rfl ?_))))
          refine Bb h fun v31 a31 b31 h => qI AE Et a31 (Af b31) rfl (qj CV (Af b31) rfl (qf BF rfl (ql Bi rfl (qf En rfl (ql CV rfl ?_)))))
          refine Bb h fun v32 a32 b32 h => qI AE Et a32 (Af b32) rfl (qj CV (Af b32) rfl (qf YS rfl (ql cH rfl ?_)))
          refine BR h fun v33 a33 h => AC [2037] (Kc N v31 v32 v20.fC true v33 a33) cc rfl (qf Fo rfl (qs Uh rfl (AI (by kernel_rfl) ?_)))
          exact sn [(2031, 2026), (2032, 2027), (2033, 2028), (2034, 2029), (2035, 2030), (2036, 2037)] h
         ·refine An ?_
          exact Uc _ h ((Ay 9 5 2038 1 _ rfl rfl rfl rfl).trans (sm [(2031, 2026), (2032, 2027), (2033, 2028), (2034, 2029), (2035, 2030), (2036, 2038)] _ _ rfl rfl))
        ·refine Ai Ac rfl (qf BJ rfl (ql GN rfl (qL HQ Dx rfl (EF (BD 2035 _ _ rfl rfl) (EF (BD 2036 _ _ rfl rfl) (E5 C9 Dx JX rfl ?_))))))
         refine GA h fun c34 h => Ew (f := AL) C9 C9 Dx Ys JX c34 rfl (qf BJ rfl (qs bu rfl (Ae (Ai Ac rfl (qm rfl (AV rfl (qe rfl ?_)))))))
         exact sn [(2014, 2031), (2015, 2032), (2016, 2033), (2017, 149)] h
      ·refine AT ?_
       exact sn [(2018, 2022), (2019, 2023), (2020, 2024), (2021, 2025)] h
    ·refine Aj hs (Ar Ac rfl (qL Dv Ci rfl (qs Ci rfl (qe rfl ?_))))
     obtain rfl := sj h
     refine Aj (sm [(1000, 2018), (1001, 2019), (1002, 2020), (1003, 2021)] [(2, oD (.ptr 2 0)), (3, bD true)] [(2, .box [.own 1000, .own 1001, .own 1002, .own 1003]), (1000, .vec 1 (v5.1.map Av)), (1001, .vec 1 (v5.2.1.map Av)), (1002, .vec 1 (v5.2.2.map Av)), (1003, .vec 6 (v16.map AL))] rfl rfl) (Aw ?_)
     exact ⟨⟨[_, _], ⟨.cellN _ _ _ _ _ _ _ rfl rfl Dv Ci rfl rfl (J8 rfl), ⟨.tmp _ _ rfl, tv⟩⟩, rfl⟩, ⟨rfl, rfl, rfl, rfl, tv⟩⟩
theorem HB (N : Nat) (p0 : Ad) (r : (List Aa)) (h : DK N p0 = some r) : Ax Tryz.prog 44 [.e (.agg (Ak p0))] [(3, r.map Ab)] (oD (.own 0)) := by
 unfold DK at h
 refine Am (n := 60) (rs := [.tmp 2]) Tryz.func44 rfl rfl rfl (A0 rfl) (A0 rfl) rfl fun w0 S0 => ?_
 refine Ar Ac rfl (qb rfl (qa rfl (Ae (Ar Ac rfl (qa rfl (Ae (Ao (Ar Ac rfl (qe rfl ?_)))))))))
 refine AA (L := BQ N p0) h (fun v1 => mk [(1, oD (.ptr 1 0)), (3, oD (.own 2001)), (4, iD v1.2)] [(1, .box (Ak p0)), (2001, .vec 3 (v1.1.map Ab))]) (fun v2 => mk [(3, oD (.own 2002))] [(2002, .vec 3 (v2.map Ab))]) (fun _ _ => rfl) ((Bf 3 2008 3 rfl rfl rfl).trans (sm [(2001, 2008)] _ _ rfl rfl)) (fun j1 n1 v1 h => ?_) (fun v2 s h hs => ?_)
 ·unfold BQ at h
  refine Ao (Ar Ac rfl (qm rfl (qf BJ rfl (ql GN rfl (AX C9 rfl (AY rfl (Ae ?_)))))))
  refine Ba h rfl (fun h => ?_) fun h => ?_
  ·refine An (Ao (AJ (Ar Ac rfl (qe rfl ?_))))
   refine AA (L := Cj N p0 v1) h (fun v4 => mk [(1, oD (.ptr 1 0)), (3, oD (.own 2003)), (4, iD v1.2), (5, iD v4.2)] [(1, .box (Ak p0)), (2003, .vec 3 (v4.1.map Ab))]) (fun v5 => mk [(1, oD (.ptr 1 0)), (3, oD (.own 2004)), (4, iD v1.2)] [(1, .box (Ak p0)), (2004, .vec 3 (v5.map Ab))]) (fun _ _ => rfl) (sm [(2003, 2001)] _ _ rfl rfl) (fun j4 n4 v4 h => ?_) (fun v5 s h hs => ?_)
   ·unfold Cj at h
    refine Ao (Ar Ac rfl (qm rfl (qf BJ rfl (ql GN rfl (qm rfl ?_)))))
    refine Bb h fun v6 a6 b6 h => qi C9 Dx a6 (Af b6) rfl (qg Fq rfl (qk HL rfl (AX D7 rfl (AY rfl (Ae ?_)))))
    refine Ba h rfl (fun h => ?_) fun h => ?_
    ·refine An (Ao (AJ (Ar Ac rfl (qe rfl ?_))))
     refine AA (L := CY N p0 v1 v4) h (fun v8 => mk [(1, oD (.ptr 1 0)), (3, oD (.own 2005)), (4, iD v1.2), (5, iD v4.2), (6, iD v8.2)] [(1, .box (Ak p0)), (2005, .vec 3 (v8.1.map Ab))]) (fun v9 => mk [(1, oD (.ptr 1 0)), (3, oD (.own 2006)), (4, iD v1.2), (5, iD v4.2)] [(1, .box (Ak p0)), (2006, .vec 3 (v9.map Ab))]) (fun _ _ => rfl) (sm [(2005, 2003)] _ _ rfl rfl) (fun j8 n8 v8 h => ?_) (fun v9 s h hs => ?_)
     ·unfold CY at h
      refine Ao (Ar Ac rfl (qm rfl (qf BJ rfl (ql GN rfl (qm rfl ?_)))))
      refine Bb h fun v10 a10 b10 h => qi C9 Dx a10 (Af b10) rfl (qg Fq rfl (qk HL rfl (qm rfl ?_)))
      refine Bb h fun v11 a11 b11 h => qi D7 IS a11 (Af b11) rfl (qk Me rfl (AX E6 rfl (AY rfl (Ae ?_))))
      refine Ba h rfl (fun h => ?_) fun h => ?_
      ·refine An ?_
       refine AR h (fun v13 => mk [(1, oD (.ptr 1 0)), (3, oD (.own 2007)), (4, iD v1.2), (5, iD v4.2), (6, iD v8.2)] [(1, .box (Ak p0)), (2007, .vec 3 (v13.map Ab))]) (fun j13 h => ?_) (fun v13 h => ?_)
       ·refine AJ (Ar Ac rfl (qf BJ rfl (ql GN rfl (qm rfl ?_))))
        refine Bb h fun v14 a14 b14 h => qi C9 Dx a14 (Af b14) rfl (qg Fq rfl (qk HL rfl (qm rfl ?_)))
        refine Bb h fun v15 a15 b15 h => qi D7 IS a15 (Af b15) rfl (qk Me rfl (qm rfl ?_))
        refine Bb h fun v16 a16 b16 h => qi E6 Nh a16 (Af b16) rfl (qk TE rfl (CO rfl (Ae ?_)))
        refine Ba h rfl (fun h => ?_) fun h => ?_
        ·refine Ai Ac rfl (qm rfl (qm rfl (qm rfl (qm rfl (Bo HA Rn rfl (E5 AP AO HA rfl ?_))))))
         refine GA h fun c18 h => Ew (f := Ab) AP AP AO NZ HA c18 rfl (qe rfl ?_)
         exact sn [(2007, 58)] h
        ·refine An ?_
         exact sn [(2007, 2005)] h
       ·refine Ai Ac rfl (qm rfl (AV rfl (qe rfl ?_)))
        exact sn [(2005, 2007)] h
      ·refine AT ?_
       exact sn [(2006, 2005)] h
     ·refine Aj hs (Ai Ac rfl (qm rfl (AV rfl (qe rfl ?_))))
      exact sn [(2003, 2006)] h
    ·refine AT ?_
     exact sn [(2004, 2003)] h
   ·refine Aj hs (Ai Ac rfl (qm rfl (AV rfl (qe rfl ?_))))
    exact sn [(2001, 2004)] h
  ·refine AT ?_
   exact sn [(2002, 2001)] h
 ·refine Aj hs (Ar Ac rfl (qm rfl (qe rfl ?_)))
  obtain rfl := sj h
  refine Aj (sm [(1000, 2002)] [(2, oD (.own 1000))] [(1000, .vec 3 (v2.map Ab))] rfl rfl) (Aw ?_)
  exact ⟨⟨[_], ⟨.tmp _ _ rfl, tv⟩, rfl⟩, ⟨rfl, tv⟩⟩
theorem Le (N : Nat) (p0 : List Aa) (p1 : Aa) (r : Bool) (h : FZ N p0 p1 = some r) : Ax Tryz.prog 43 [pD (.sl (p0.map Ab)), .e (.agg (FG p1))] [] (bD r) := by
 unfold FZ at h
 refine Am (n := 18) (rs := [.tmp 4]) Tryz.func43 rfl rfl rfl (A0 rfl) (A0 rfl) rfl fun w0 S0 => ?_
 refine Ar Ac rfl (qb rfl (qa rfl (Ae (Ao (Ar Ac rfl (qe rfl ?_))))))
 refine AA (L := ES N p0 p1) h (fun v1 => mk [(0, pD (.sl (p0.map Ab))), (3, oD (.ptr 3 0)), (5, iD v1)] [(3, .box (FG p1))]) (fun v2 => mk [] []) (fun _ _ => rfl) (sm [] _ _ rfl rfl) (fun j1 n1 v1 h => ?_) (fun v2 s h hs => ?_)
 ·unfold ES at h
  refine Ao (Ar Ac rfl (qm rfl (qm rfl (AX AP rfl (AY rfl (Ae ?_))))))
  refine Ba h rfl (fun h => ?_) fun h => ?_
  ·refine An (Ao (AJ (Ar Ac rfl (qm rfl (qm rfl ?_)))))
   refine Bb h fun v4 a4 b4 h => qi AP AO a4 (Af b4) rfl (qK Dk AO rfl (qL Dk AO rfl ?_))
   refine UK [.int .i64 v4.fw, .int .i64 v4.fv, .int .i64 v4.fu] [.int .i64 p1.fw, .int .i64 p1.fv, .int .i64 p1.fu] (.p rfl) rfl rfl R4 rfl ?_
   refine AI (by kernel_rfl) ?_
   refine Ba h rfl (fun h => ?_) fun h => ?_
   ·refine Ar Ac rfl (qe rfl ?_)
    obtain rfl := sj h
    refine Aj (sm [] [(4, bD true)] [] rfl rfl) (Aw ?_)
    exact ⟨⟨[_], ⟨.tmp _ _ rfl, tv⟩, rfl⟩, tv⟩
   ·refine An (Ai Ac rfl (qm rfl (AV rfl (qe rfl ?_))))
    exact sn [] h
  ·refine AT ?_
   exact sn [] h
 ·refine Aj hs (Ar Ac rfl (qe rfl ?_))
  obtain rfl := sj h
  refine Aj (sm [] [(4, bD false)] [] rfl rfl) (Aw ?_)
  exact ⟨⟨[_], ⟨.tmp _ _ rfl, tv⟩, rfl⟩, tv⟩
theorem Kh (N : Nat) (p0 : Ad) (p1 : List Aa) (r : Ad) (h : Ev N p0 p1 = some r) : Ax Tryz.prog 46 [.e (.agg (Ak p0)), pD (.sl (p1.map Ab))] [(1, r.fc.map Av), (1, r.fh.map Av), (1, r.fm.map Av)] (.e (.agg [.own 0, .own 1, .own 2, sC (r.fb.map AL)])) := by
 unfold Ev at h
 refine Am (n := 122) (rs := [.cell 4 29]) Tryz.func46 rfl rfl rfl (A0 rfl) (A0 rfl) rfl fun w0 S0 => ?_
 refine Ar Ac rfl (qb rfl (qz KC rfl (Ae (Ar Ac rfl (E5 AE Et Lt rfl (qf BF rfl (ql Bi rfl ?_)))))))
 refine GA h fun c1 h => HT (f := Av) AE AE Et Ms Lt (fun _ => rfl) c1 rfl (E5 AE Et Lt rfl (qf HD rfl (ql Bi rfl ?_)))
 refine GA h fun c2 h => HT (f := Av) AE AE Et Ms Lt (fun _ => rfl) c2 rfl (E5 AE Et Lt rfl (qf Jr rfl (ql Bi rfl ?_)))
 refine GA h fun c3 h => HT (f := Av) AE AE Et Ms Lt (fun _ => rfl) c3 rfl (Bo KC TI rfl (qz KC rfl (qs Ci rfl (AI (by kernel_rfl) (Ao (Ar Ac rfl (qe rfl ?_)))))))
 refine AA (L := Cv N p0 p1) h (fun v4 => mk [(1, pD (.sl (p1.map Ab))), (2, oD (.ptr 2 0)), (4, oD (.ptr 4 0)), (5, oD (.ptr 5 0)), (6, iD v4.2)] [(2, .box (Ak p0)), (4, .box [.pure (.nil0), .pure (.nil0), .pure (.nil0), .pure (.nil0)]), (5, .box [.own 2001, .own 2002, .own 2003, .own 2004]), (2001, .vec 1 (((([] : List Int)) ++ p0.fc).map Av)), (2002, .vec 1 (((([] : List Int)) ++ p0.fh).map Av)), (2003, .vec 1 (((([] : List Int)) ++ p0.fm).map Av)), (2004, .dvec 6 [.s, .s, .s, .s, .x 1 [.x 1 []], .x 1 [.x 1 []]] (v4.1.map AL))]) (fun v5 => mk [(4, oD (.ptr 4 0)), (5, oD (.ptr 5 0))] [(4, .box [.pure (.nil0), .pure (.nil0), .pure (.nil0), .pure (.nil0)]), (5, .box [.own 2005, .own 2006, .own 2007, .own 2008]), (2005, .vec 1 (((([] : List Int)) ++ p0.fc).map Av)), (2006, .vec 1 (((([] : List Int)) ++ p0.fh).map Av)), (2007, .vec 1 (((([] : List Int)) ++ p0.fm).map Av)), (2008, .dvec 6 [.s, .s, .s, .s, .x 1 [.x 1 []], .x 1 [.x 1 []]] (v5.map AL))]) (fun _ _ => rfl) ((Ay 5 3 2051 6 _ rfl rfl rfl rfl).trans ((IJ 2051 6 [.s, .s, .s, .s, .x 1 [.x 1 []], .x 1 [.x 1 []]] [] [] rfl rfl).trans (sm [(2001, 15), (2002, 19), (2003, 23), (2004, 2051)] _ _ rfl rfl))) (fun j4 n4 v4 h => ?_) (fun v5 s h hs => ?_)
 ·unfold Cv at h
  refine Ao (Ar Ac rfl (qm rfl (qf BJ rfl (ql GN rfl (AX C9 rfl (AY rfl (Ae ?_)))))))
  refine Ba h rfl (fun h => ?_) fun h => ?_
  ·refine An (Ao (AJ (Ar Ac rfl (qf BJ rfl (ql GN rfl (qm rfl ?_))))))
   refine Bb h fun v7 a7 b7 h => qi C9 Dx a7 (Af b7) rfl (qK HQ Dx rfl (qz JX rfl (qs Dx rfl (Ae (Ar Ac rfl (qf Fq rfl (qs Uh rfl (qf Fo rfl (qs Uh rfl (Ae (Ao (Ar Ac rfl (qe rfl ?_)))))))))))))
   refine AA (L := DM N p0 p1 v4) h (fun v8 => mk [(1, pD (.sl (p1.map Ab))), (2, oD (.ptr 2 0)), (4, oD (.ptr 4 0)), (5, oD (.ptr 5 0)), (6, iD v4.2), (7, oD (.ptr 7 0)), (8, iD v8.2)] [(2, .box (Ak p0)), (4, .box [.pure (.nil0), .pure (.nil0), .pure (.nil0), .pure (.nil0)]), (5, .box [.own 2009, .own 2010, .own 2011, .own 2012]), (7, .box [iC v7.ff, iC v7.fg, iC v7.fk, .pure (.val (.bool v7.fp)), .own 2013, .pure (.nil0)]), (2009, .vec 1 (((([] : List Int)) ++ p0.fc).map Av)), (2010, .vec 1 (((([] : List Int)) ++ p0.fh).map Av)), (2011, .vec 1 (((([] : List Int)) ++ p0.fm).map Av)), (2012, .dvec 6 [.s, .s, .s, .s, .x 1 [.x 1 []], .x 1 [.x 1 []]] (v4.1.map AL)), (2013, .dvec 1 [.x 1 []] (v8.1.map (FX eB)))]) (fun v9 => mk [(1, pD (.sl (p1.map Ab))), (2, oD (.ptr 2 0)), (4, oD (.ptr 4 0)), (5, oD (.ptr 5 0)), (6, iD v4.2), (7, oD (.ptr 7 0))] [(2, .box (Ak p0)), (4, .box [.pure (.nil0), .pure (.nil0), .pure (.nil0), .pure (.nil0)]), (5, .box [.own 2014, .own 2015, .own 2016, .own 2017]), (7, .box [iC v7.ff, iC v7.fg, iC v7.fk, .pure (.val (.bool v7.fp)), .own 2018, .pure (.nil0)]), (2014, .vec 1 (((([] : List Int)) ++ p0.fc).map Av)), (2015, .vec 1 (((([] : List Int)) ++ p0.fh).map Av)), (2016, .vec 1 (((([] : List Int)) ++ p0.fm).map Av)), (2017, .dvec 6 [.s, .s, .s, .s, .x 1 [.x 1 []], .x 1 [.x 1 []]] (v4.1.map AL)), (2018, .dvec 1 [.x 1 []] (v9.map (FX eB)))]) (fun _ _ => rfl) ((Ay 7 4 2037 1 _ rfl rfl rfl rfl).trans ((IJ 2037 1 [.x 1 []] [] [] rfl rfl).trans (sm [(2009, 2001), (2010, 2002), (2011, 2003), (2012, 2004), (2013, 2037)] _ _ rfl rfl))) (fun j8 n8 v8 h => ?_) (fun v9 s h hs => ?_)
   ·unfold DM at h
    refine Ao (Ar Ac rfl (qm rfl (qf BJ rfl (ql GN rfl (qm rfl ?_)))))
    refine Bb h fun v10 a10 b10 h => qi C9 Dx a10 (Af b10) rfl (qg Fq rfl (qk HL rfl (AX D7 rfl (AY rfl (Ae ?_)))))
    refine Ba h rfl (fun h => ?_) fun h => ?_
    ·refine An (Ao (AJ (Ar Ac rfl (E5 E6 Nh Wl rfl (qf BJ rfl (ql GN rfl (qm rfl ?_)))))))
     refine Bb h fun v12 a12 b12 h => qi C9 Dx a12 (Af b12) rfl (qg Fq rfl (qk HL rfl (qm rfl ?_)))
     refine Bb h fun v13 a13 b13 h => qi D7 IS a13 (Af b13) rfl (qk Me rfl ?_)
     refine GA h fun c14 h => HT (f := eB) E6 E6 Nh WO Wl (fun _ => rfl) c14 rfl (qa rfl (Ae (Ao (Ar Ac rfl (qe rfl ?_)))))
     refine AA (L := CQ N p1 v4 v8) h (fun v15 => mk [(1, pD (.sl (p1.map Ab))), (2, oD (.ptr 2 0)), (4, oD (.ptr 4 0)), (5, oD (.ptr 5 0)), (6, iD v4.2), (7, oD (.ptr 7 0)), (8, iD v8.2), (9, oD (.own 2024)), (10, iD v15.2)] [(2, .box (Ak p0)), (4, .box [.pure (.nil0), .pure (.nil0), .pure (.nil0), .pure (.nil0)]), (5, .box [.own 2019, .own 2020, .own 2021, .own 2022]), (7, .box [iC v7.ff, iC v7.fg, iC v7.fk, .pure (.val (.bool v7.fp)), .own 2023, .pure (.nil0)]), (2019, .vec 1 (((([] : List Int)) ++ p0.fc).map Av)), (2020, .vec 1 (((([] : List Int)) ++ p0.fh).map Av)), (2021, .vec 1 (((([] : List Int)) ++ p0.fm).map Av)), (2022, .dvec 6 [.s, .s, .s, .s, .x 1 [.x 1 []], .x 1 [.x 1 []]] (v4.1.map AL)), (2023, .dvec 1 [.x 1 []] (v8.1.map (FX eB))), (2024, .vec 1 (v15.1.map eB))]) (fun v16 => mk [(1, pD (.sl (p1.map Ab))), (2, oD (.ptr 2 0)), (4, oD (.ptr 4 0)), (5, oD (.ptr 5 0)), (6, iD v4.2), (7, oD (.ptr 7 0)), (8, iD v8.2), (9, oD (.own 2030))] [(2, .box (Ak p0)), (4, .box [.pure (.nil0), .pure (.nil0), .pure (.nil0), .pure (.nil0)]), (5, .box [.own 2025, .own 2026, .own 2027, .own 2028]), (7, .box [iC v7.ff, iC v7.fg, iC v7.fk, .pure (.val (.bool v7.fp)), .own 2029, .pure (.nil0)]), (2025, .vec 1 (((([] : List Int)) ++ p0.fc).map Av)), (2026, .vec 1 (((([] : List Int)) ++ p0.fh).map Av)), (2027, .vec 1 (((([] : List Int)) ++ p0.fm).map Av)), (2028, .dvec 6 [.s, .s, .s, .s, .x 1 [.x 1 []], .x 1 [.x 1 []]] (v4.1.map AL)), (2029, .dvec 1 [.x 1 []] (v8.1.map (FX eB))), (2030, .vec 1 (v16.map eB))]) (fun _ _ => rfl) (sm [(2019, 2009), (2020, 2010), (2021, 2011), (2022, 2012), (2023, 2013), (2024, 60)] _ _ rfl rfl) (fun j15 n15 v15 h => ?_) (fun v16 s h hs => ?_)
     ·unfold CQ at h
      refine Ao (Ar Ac rfl (qm rfl (qm rfl (D4 E6 rfl (AY rfl (Ae ?_))))))
      refine Ba h rfl (fun h => ?_) fun h => ?_
      ·refine An ?_
       refine AR h (fun v18 => mk [(1, pD (.sl (p1.map Ab))), (2, oD (.ptr 2 0)), (4, oD (.ptr 4 0)), (5, oD (.ptr 5 0)), (6, iD v4.2), (7, oD (.ptr 7 0)), (8, iD v8.2), (9, oD (.own 2036)), (10, iD v15.2)] [(2, .box (Ak p0)), (4, .box [.pure (.nil0), .pure (.nil0), .pure (.nil0), .pure (.nil0)]), (5, .box [.own 2031, .own 2032, .own 2033, .own 2034]), (7, .box [iC v7.ff, iC v7.fg, iC v7.fk, .pure (.val (.bool v7.fp)), .own 2035, .pure (.nil0)]), (2031, .vec 1 (((([] : List Int)) ++ p0.fc).map Av)), (2032, .vec 1 (((([] : List Int)) ++ p0.fh).map Av)), (2033, .vec 1 (((([] : List Int)) ++ p0.fm).map Av)), (2034, .dvec 6 [.s, .s, .s, .s, .x 1 [.x 1 []], .x 1 [.x 1 []]] (v4.1.map AL)), (2035, .dvec 1 [.x 1 []] (v8.1.map (FX eB))), (2036, .vec 1 (v18.map eB))]) (fun j18 h => ?_) (fun v18 h => ?_)
       ·refine AJ (Ai Ac rfl (qm rfl (qm rfl (qm rfl (qm rfl ?_)))))
        refine Bb h fun v19 a19 b19 h => qI E6 Nh a19 (Af b19) rfl (qj TE (Af b19) rfl (qm rfl ?_))
        refine E7 73 h rfl (fun h => ?_) fun h => ?_
        ·refine qn rfl (qn rfl (qn rfl (qn rfl (qn rfl (qn rfl (qp rfl ?_))))))
         refine Bb h fun v21 a21 b21 h => qI E6 Nh a21 (Af b21) rfl ?_
         refine A7 rfl rfl rfl rfl (Af b21) rfl Nh rfl (A0 rfl) (A4 eB v15.1 _ true) ?_
         refine Ae ?_
         exact sn [(2031, 2019), (2032, 2020), (2033, 2021), (2034, 2022), (2035, 2023), (2036, 2024)] h
        ·refine qm rfl (qm rfl (qm rfl (qm rfl (Bo HA Rn rfl ?_))))
         refine BR h fun v22 a22 h => AC [] (Le N p1 ((Aa.mk v4.2 v8.2 v15.2)) v22 a22) cb rfl (qp rfl ?_)
         refine Bb h fun v23 a23 b23 h => qI E6 Nh a23 (Af b23) rfl ?_
         refine A7 rfl rfl rfl rfl (Af b23) rfl Nh rfl (A0 rfl) (A4 eB v15.1 _ v22) ?_
         refine Ae ?_
         exact sn [(2031, 2019), (2032, 2020), (2033, 2021), (2034, 2022), (2035, 2023), (2036, 2024)] h
       ·refine Ai Ac rfl (qm rfl (AV rfl (qe rfl ?_)))
        exact sn [(2019, 2031), (2020, 2032), (2021, 2033), (2022, 2034), (2023, 2035), (2024, 2036)] h
      ·refine AT ?_
       exact sn [(2025, 2019), (2026, 2020), (2027, 2021), (2028, 2022), (2029, 2023), (2030, 2024)] h
     ·refine Aj hs (Ai Ac rfl (qf Fq rfl (ql HL rfl (qm rfl ?_))))
      refine Jq (x := .one (.own 2030)) (cs := [.own 2030]) (ts := [.sl (v16.map eB)]) [.x 1 []] [(2030, .vec 1 (v16.map eB))] (.p rfl) rfl rfl rfl rfl rfl ⟨rfl, tv⟩ ⟨rfl, tv⟩ rfl rfl rfl D7 IS SX (A0 rfl) ?_
      refine GA h fun c24 h => Lj (.p rfl) rfl rfl rfl rfl rfl (by decide) D7 D7 IS V3 (A0 rfl) SX rfl (Oq (f := (FX eB)) (g := (FX eB)) (xs := v8.1) (ys := (([v16] : List (List Bool)))) c24) (N1 (FX eB) v8.1 (([v16] : List (List Bool)))) rfl rfl ?_
      refine qf Fq rfl (qs Uh rfl (Ae (Ai Ac rfl (qm rfl (AV rfl (qe rfl ?_))))))
      exact sn [(2009, 2025), (2010, 2026), (2011, 2027), (2012, 2028), (2013, 86)] h
    ·refine AT ?_
     exact sn [(2014, 2009), (2015, 2010), (2016, 2011), (2017, 2012), (2018, 2013)] h
   ·refine Aj hs (Ao (Ar Ac rfl (qe rfl ?_)))
    refine AA (L := CU N p0 v4) h (fun v25 => mk [(1, pD (.sl (p1.map Ab))), (2, oD (.ptr 2 0)), (4, oD (.ptr 4 0)), (5, oD (.ptr 5 0)), (6, iD v4.2), (7, oD (.ptr 7 0)), (11, iD v25.2)] [(2, .box (Ak p0)), (4, .box [.pure (.nil0), .pure (.nil0), .pure (.nil0), .pure (.nil0)]), (5, .box [.own 2038, .own 2039, .own 2040, .own 2041]), (7, .box [iC v7.ff, iC v7.fg, iC v7.fk, .pure (.val (.bool v7.fp)), .own 2042, .own 2043]), (2038, .vec 1 (((([] : List Int)) ++ p0.fc).map Av)), (2039, .vec 1 (((([] : List Int)) ++ p0.fh).map Av)), (2040, .vec 1 (((([] : List Int)) ++ p0.fm).map Av)), (2041, .dvec 6 [.s, .s, .s, .s, .x 1 [.x 1 []], .x 1 [.x 1 []]] (v4.1.map AL)), (2042, .dvec 1 [.x 1 []] (v9.map (FX eB))), (2043, .dvec 1 [.x 1 []] (v25.1.map (FX eB)))]) (fun v26 => mk [(1, pD (.sl (p1.map Ab))), (2, oD (.ptr 2 0)), (4, oD (.ptr 4 0)), (5, oD (.ptr 5 0)), (6, iD v4.2), (7, oD (.ptr 7 0))] [(2, .box (Ak p0)), (4, .box [.pure (.nil0), .pure (.nil0), .pure (.nil0), .pure (.nil0)]), (5, .box [.own 2044, .own 2045, .own 2046, .own 2047]), (7, .box [iC v7.ff, iC v7.fg, iC v7.fk, .pure (.val (.bool v7.fp)), .own 2048, .own 2049]), (2044, .vec 1 (((([] : List Int)) ++ p0.fc).map Av)), (2045, .vec 1 (((([] : List Int)) ++ p0.fh).map Av)), (2046, .vec 1 (((([] : List Int)) ++ p0.fm).map Av)), (2047, .dvec 6 [.s, .s, .s, .s, .x 1 [.x 1 []], .x 1 [.x 1 []]] (v4.1.map AL)), (2048, .dvec 1 [.x 1 []] (v9.map (FX eB))), (2049, .dvec 1 [.x 1 []] (v26.map (FX eB)))]) (fun _ _ => rfl) ((Ay 7 5 2050 1 _ rfl rfl rfl rfl).trans ((IJ 2050 1 [.x 1 []] [] [] rfl rfl).trans (sm [(2038, 2014), (2039, 2015), (2040, 2016), (2041, 2017), (2042, 2018), (2043, 2050)] _ _ rfl rfl))) (fun j25 n25 v25 h => ?_) (fun v26 s h hs => ?_)
    ·unfold CU at h
     refine Ao (Ar Ac rfl (qm rfl (qf BJ rfl (ql GN rfl (qm rfl ?_)))))
     refine Bb h fun v27 a27 b27 h => qi C9 Dx a27 (Af b27) rfl (qg Fo rfl (qk HL rfl (AX D7 rfl (AY rfl (Ae ?_)))))
     refine Ba h rfl (fun h => ?_) fun h => ?_
     ·refine An (Ao (AJ (Ai Ac rfl (qf Fo rfl (ql HL rfl (E5 E6 Nh Wl rfl (qf BJ rfl (ql GN rfl (qm rfl ?_)))))))))
      refine Bb h fun v29 a29 b29 h => qi C9 Dx a29 (Af b29) rfl (qg Fo rfl (qk HL rfl (qm rfl ?_)))
      refine Bb h fun v30 a30 b30 h => qi D7 IS a30 (Af b30) rfl (qk Me rfl ?_)
      refine GA h fun c31 h => HT (f := eB) E6 E6 Nh WO Wl (fun _ => rfl) c31 rfl ?_
      refine Jq (x := .one (.own 111)) (cs := [.own 111]) (ts := [.sl (((([] : List Bool)) ++ v30).map eB)]) [.x 1 []] [(111, .vec 1 (((([] : List Bool)) ++ v30).map eB))] (.p rfl) rfl rfl rfl rfl rfl ⟨rfl, tv⟩ ⟨rfl, tv⟩ rfl rfl rfl D7 IS SX (A0 rfl) ?_
      refine GA h fun c32 h => Lj (.p rfl) rfl rfl rfl rfl rfl (by decide) D7 D7 IS V3 (A0 rfl) SX rfl (Oq (f := (FX eB)) (g := (FX eB)) (xs := v25.1) (ys := (([(([] : List Bool)) ++ v30] : List (List Bool)))) c32) (N1 (FX eB) v25.1 (([(([] : List Bool)) ++ v30] : List (List Bool)))) rfl rfl ?_
      refine qf Fo rfl (qs Uh rfl (AI (by kernel_rfl) (Ai Ac rfl (qm rfl (AV rfl (qe rfl ?_))))))
      exact sn [(2043, 113)] h
     ·refine AT ?_
      exact sn [(2044, 2038), (2045, 2039), (2046, 2040), (2047, 2041), (2048, 2042), (2049, 2043)] h
    ·refine Aj hs (Ai Ac rfl (qf BJ rfl (ql GN rfl (qL HQ Dx rfl ?_))))
     refine Jq (x := .agg [iC v7.ff, iC v7.fg, iC v7.fk, .pure (.val (.bool v7.fp)), .own 2048, .own 2049]) (cs := [iC v7.ff, iC v7.fg, iC v7.fk, .pure (.val (.bool v7.fp)), .own 2048, .own 2049]) (ts := [.val (.int .i64 v7.ff), .val (.int .i64 v7.fg), .val (.int .i64 v7.fk), .val (.bool v7.fp), .sl (v9.map (FX eB)), .sl (v26.map (FX eB))]) [.s, .s, .s, .s, .x 1 [.x 1 []], .x 1 [.x 1 []]] [(2048, .dvec 1 [.x 1 []] (v9.map (FX eB))), (2049, .dvec 1 [.x 1 []] (v26.map (FX eB)))] (.p rfl) rfl rfl rfl rfl rfl ⟨rfl, rfl, tv⟩ ⟨rfl, rfl, rfl, rfl, rfl, rfl, tv⟩ rfl rfl rfl C9 Dx JX (A0 rfl) ?_
     refine GA h fun c33 h => Lj (.p rfl) rfl rfl rfl rfl rfl (by decide) C9 C9 Dx Ys (A0 rfl) JX rfl (Oq (f := AL) (g := AL) (xs := v4.1) (ys := (([(Aq.mk v7.ff v7.fg v7.fk v7.fp v9 v26)] : List Aq))) c33) (N1 AL v4.1 (([(Aq.mk v7.ff v7.fg v7.fk v7.fp v9 v26)] : List Aq))) rfl rfl ?_
     refine qf BJ rfl (qs bu rfl (Ae (Ai Ac rfl (qm rfl (AV rfl (qe rfl ?_))))))
     exact sn [(2001, 2044), (2002, 2045), (2003, 2046), (2004, 119)] h
  ·refine AT ?_
   exact sn [(2005, 2001), (2006, 2002), (2007, 2003), (2008, 2004)] h
 ·refine Aj hs (Ar Ac rfl (qL Dv Ci rfl (qs Ci rfl (Ae ?_))))
  obtain rfl := sj h
  refine Aj ((OZ 2008 _ _ _ rfl rfl).trans (sm [(1000, 2005), (1001, 2006), (1002, 2007)] [(4, oD (.ptr 4 0))] [(4, .box [.own 1000, .own 1001, .own 1002, sC (v5.map AL)]), (1000, .vec 1 (((([] : List Int)) ++ p0.fc).map Av)), (1001, .vec 1 (((([] : List Int)) ++ p0.fh).map Av)), (1002, .vec 1 (((([] : List Int)) ++ p0.fm).map Av))] rfl rfl)) (Aw ?_)
  exact ⟨⟨[_], ⟨.cellN _ _ _ _ _ _ _ rfl rfl Dv Ci rfl rfl (J8 rfl), tv⟩, rfl⟩, ⟨rfl, rfl, rfl, tv⟩⟩
theorem Jt (N : Nat) (p0 : List (List Bool)) (p1 : Int) (p2 : Int) (r : Bool) (h : EI N p0 p1 p2 = some r) : Ax Tryz.prog 83 [pD (.sl (p0.map (FX eB))), iD p1, iD p2] [] (bD r) := by
 unfold EI at h
 refine Am (n := 24) (rs := [.tmp 6]) Tryz.func83 rfl rfl rfl (A0 rfl) (A0 rfl) rfl fun w0 S0 => ?_
 refine Ar Ac rfl (qa rfl (Ae (Ao (Ar Ac rfl (qm rfl (AX D7 rfl (qm rfl (CF rfl (Ae ?_)))))))))
 refine Ba h rfl (fun h => ?_) fun h => ?_
 ·refine Ar Ac rfl (qe rfl ?_)
  obtain rfl := sj h
  refine Aj (sm [] [(6, bD false)] [] rfl rfl) (Aw ?_)
  exact ⟨⟨[_], ⟨.tmp _ _ rfl, tv⟩, rfl⟩, tv⟩
 ·refine An (Ao (Ar Ac rfl (qe rfl ?_)))
  refine AA (L := Dd N p0 p1 p2) h (fun v2 => mk [(0, pD (.sl (p0.map (FX eB)))), (1, iD p1), (2, iD p2), (7, iD v2)] []) (fun v3 => mk [] []) (fun _ _ => rfl) (sm [] _ _ rfl rfl) (fun j2 n2 v2 h => ?_) (fun v3 s h hs => ?_)
  ·unfold Dd at h
   refine Ao (Ar Ac rfl (qm rfl (qm rfl (AY rfl (Ae ?_)))))
   refine Ba h rfl (fun h => ?_) fun h => ?_
   ·refine An (Ao (AJ (Ar Ac rfl (qm rfl (qm rfl ?_)))))
    refine Bb h fun v5 a5 b5 h => qi D7 IS a5 (Af b5) rfl (qk Me rfl (AX E6 rfl (qm rfl (CF rfl (Ae ?_)))))
    refine Ba h rfl (fun h => ?_) fun h => ?_
    ·refine Ar Ac rfl (qe rfl ?_)
     obtain rfl := sj h
     refine Aj (sm [] [(6, bD false)] [] rfl rfl) (Aw ?_)
     exact ⟨⟨[_], ⟨.tmp _ _ rfl, tv⟩, rfl⟩, tv⟩
    ·refine An (Ai Ac rfl (qm rfl (AV rfl (qe rfl ?_))))
     exact sn [] h
   ·refine AT ?_
    exact sn [] h
  ·refine Aj hs (Ar Ac rfl (qe rfl ?_))
   obtain rfl := sj h
   refine Aj (sm [] [(6, bD true)] [] rfl rfl) (Aw ?_)
   exact ⟨⟨[_], ⟨.tmp _ _ rfl, tv⟩, rfl⟩, tv⟩
theorem MW (N : Nat) (p0 : Ad) (p1 : Aq) (r : Int) (h : FO N p0 p1 = some r) : Ax Tryz.prog 55 [.e (.agg (Ak p0)), .e (.agg (Bt p1))] [] (iD r) := by
 unfold FO at h
 refine Am (n := 101) (rs := [.tmp 4]) Tryz.func55 rfl rfl rfl (A0 rfl) (A0 rfl) rfl fun w0 S0 => ?_
 refine Ar Ac rfl (qb rfl (qb rfl (qa rfl (Ae (Ao ?_)))))
 refine AR h (fun v1 => mk [(2, oD (.ptr 2 0)), (3, oD (.ptr 3 0)), (22, bD v1)] [(2, .box (Ak p0)), (3, .box (Bt p1))]) (fun j1 h => ?_) (fun v1 h => ?_)
 ·refine Ai Ac rfl (qf HJ rfl (ql CV rfl (AY rfl (qm rfl ?_))))
  refine E7 10 h rfl (fun h => ?_) fun h => ?_
  ·refine qn rfl (qn rfl (qn rfl (qp rfl (qm rfl (qn rfl (qn rfl (qn rfl (qu rfl (qu rfl (qn rfl (qp rfl (Ae ?_))))))))))))
   exact sn [] h
  ·refine qf HJ rfl (ql CV rfl (GB rfl (qp rfl (qm rfl ?_))))
   refine E7 15 h rfl (fun h => ?_) fun h => ?_
   ·refine qn rfl (qn rfl (qn rfl (qu rfl (qu rfl (qn rfl (qp rfl (Ae ?_)))))))
    exact sn [] h
   ·refine qf KP rfl (ql TE rfl (qm rfl ?_))
    refine E7 18 h rfl (fun h => ?_) fun h => ?_
    ·refine qL HQ Dx rfl ?_
     refine BR h fun v5 a5 h => AC [] (C1 N p1 v5 a5) Tg rfl (qp rfl (qp rfl (Ae ?_)))
     exact sn [] h
    ·refine qn rfl (qn rfl (qp rfl (qp rfl (Ae ?_))))
     exact sn [] h
 ·refine Ba h rfl (fun h => ?_) fun h => ?_
  ·refine Ar Ac rfl (qe rfl ?_)
   obtain rfl := sj h
   refine Aj (sm [] [(4, iD 1)] [] rfl rfl) (Aw ?_)
   exact ⟨⟨[_], ⟨.tmp _ _ rfl, tv⟩, rfl⟩, tv⟩
  ·refine An (Ar Ac rfl (qf BF rfl (ql Bi rfl (AX AE rfl (qa rfl (Ae (Ao ?_)))))))
   refine AR h (fun v7 => mk [(2, oD (.ptr 2 0)), (3, oD (.ptr 3 0)), (45, bD v7)] [(2, .box (Ak p0)), (3, .box (Bt p1))]) (fun j7 h => ?_) (fun v7 h => ?_)
   ·refine Ai Ac rfl (qf En rfl (ql CV rfl (AY rfl (qm rfl ?_))))
    refine E7 29 h rfl (fun h => ?_) fun h => ?_
    ·refine qn rfl (qn rfl (qn rfl (qn rfl (qp rfl (qm rfl (qn rfl (qn rfl (qn rfl (qp rfl (qm rfl (qn rfl (qn rfl (qn rfl (qn rfl (qp rfl (Ae ?_))))))))))))))))
     exact sn [] h
    ·refine qf En rfl (ql CV rfl (qm rfl (Ej rfl (qp rfl (qm rfl ?_)))))
     refine E7 35 h rfl (fun h => ?_) fun h => ?_
     ·refine qn rfl (qn rfl (qn rfl (qp rfl (qm rfl (qn rfl (qn rfl (qn rfl (qn rfl (qp rfl (Ae ?_))))))))))
      exact sn [] h
     ·refine qf JT rfl (ql CV rfl (AY rfl (qp rfl (qm rfl ?_))))
      refine E7 40 h rfl (fun h => ?_) fun h => ?_
      ·refine qn rfl (qn rfl (qn rfl (qn rfl (qp rfl (Ae ?_)))))
       exact sn [] h
      ·refine qf JT rfl (ql CV rfl (qm rfl (Ej rfl (qp rfl (Ae ?_)))))
       exact sn [] h
   ·refine Ba h rfl (fun h => ?_) fun h => ?_
    ·refine Ar Ac rfl (qe rfl ?_)
     obtain rfl := sj h
     refine Aj (sm [] [(4, iD 4)] [] rfl rfl) (Aw ?_)
     exact ⟨⟨[_], ⟨.tmp _ _ rfl, tv⟩, rfl⟩, tv⟩
    ·refine An (Ao (Ar Ac rfl (qf Fq rfl (ql HL rfl (qf BF rfl (ql Bi rfl (qf En rfl (ql CV rfl ?_))))))))
     refine Bb h fun v12 a12 b12 h => qi AE Et a12 (Af b12) rfl (qk CV rfl (qf BF rfl (ql Bi rfl (qf JT rfl (ql CV rfl ?_)))))
     refine Bb h fun v13 a13 b13 h => qi AE Et a13 (Af b13) rfl (qk CV rfl ?_)
     refine BR h fun v14 a14 h => AC [] (Jt N p1.fi v12 v13 v14 a14) ck rfl (CO rfl (AI (by kernel_rfl) ?_))
     refine Ba h rfl (fun h => ?_) fun h => ?_
     ·refine Ar Ac rfl (qe rfl ?_)
      obtain rfl := sj h
      refine Aj (sm [] [(4, iD 6)] [] rfl rfl) (Aw ?_)
      exact ⟨⟨[_], ⟨.tmp _ _ rfl, tv⟩, rfl⟩, tv⟩
     ·refine An (Ao (Ar Ac rfl (qf HJ rfl (ql CV rfl (CF rfl (Ae ?_))))))
      refine Ba h rfl (fun h => ?_) fun h => ?_
      ·refine Ao (Ar Ac rfl (qf Fo rfl (ql HL rfl (AX D7 rfl (CF rfl (Ae ?_))))))
       refine Ba h rfl (fun h => ?_) fun h => ?_
       ·refine Ar Ac rfl (qe rfl ?_)
        obtain rfl := sj h
        refine Aj (sm [] [(4, iD 6)] [] rfl rfl) (Aw ?_)
        exact ⟨⟨[_], ⟨.tmp _ _ rfl, tv⟩, rfl⟩, tv⟩
       ·refine An (Ar Ac rfl (qe rfl ?_))
        obtain rfl := sj h
        refine Aj (sm [] [(4, iD 0)] [] rfl rfl) (Aw ?_)
        exact ⟨⟨[_], ⟨.tmp _ _ rfl, tv⟩, rfl⟩, tv⟩
      ·refine An (Ao (Ar Ac rfl (qf Fo rfl (ql HL rfl (qf BF rfl (ql Bi rfl (qf En rfl (ql CV rfl ?_))))))))
       refine Bb h fun v18 a18 b18 h => qi AE Et a18 (Af b18) rfl (qk CV rfl (qf BF rfl (ql Bi rfl (qf En rfl (ql CV rfl ?_)))))
       refine Bb h fun v19 a19 b19 h => qi AE Et a19 (Af b19) rfl (qk CV rfl ?_)
       refine BR h fun v20 a20 h => AC [] (Jt N p1.fo v18 v19 v20 a20) ck rfl (CO rfl (AI (by kernel_rfl) ?_))
       refine Ba h rfl (fun h => ?_) fun h => ?_
       ·refine Ar Ac rfl (qe rfl ?_)
        obtain rfl := sj h
        refine Aj (sm [] [(4, iD 6)] [] rfl rfl) (Aw ?_)
        exact ⟨⟨[_], ⟨.tmp _ _ rfl, tv⟩, rfl⟩, tv⟩
       ·refine An (Ao (Ar Ac rfl (qe rfl ?_)))
        refine AA (L := CA N p1) h (fun v22 => mk [(3, oD (.ptr 3 0)), (6, iD v22)] [(3, .box (Bt p1))]) (fun v23 => mk [] []) (fun _ _ => rfl) (sm [] _ _ rfl rfl) (fun j22 n22 v22 h => ?_) (fun v23 s h hs => ?_)
        ·unfold CA at h
         refine Ao (Ar Ac rfl (qm rfl (qf Fo rfl (ql HL rfl (AX D7 rfl (AY rfl (Ae ?_)))))))
         refine Ba h rfl (fun h => ?_) fun h => ?_
         ·refine An (Ao (AJ (Ar Ac rfl (qf Fo rfl (ql HL rfl (qm rfl ?_))))))
          refine Bb h fun v25 a25 b25 h => qi D7 IS a25 (Af b25) rfl (qk Me rfl (qm rfl ?_))
          refine Bb h fun v26 a26 b26 h => qi E6 Nh a26 (Af b26) rfl (qk TE rfl (CO rfl (Ae ?_)))
          refine Ba h rfl (fun h => ?_) fun h => ?_
          ·refine Ar Ac rfl (qe rfl ?_)
           obtain rfl := sj h
           refine Aj (sm [] [(4, iD 1)] [] rfl rfl) (Aw ?_)
           exact ⟨⟨[_], ⟨.tmp _ _ rfl, tv⟩, rfl⟩, tv⟩
          ·refine An (Ai Ac rfl (qm rfl (AV rfl (qe rfl ?_))))
           exact sn [] h
         ·refine AT ?_
          exact sn [] h
        ·refine Aj hs (Ar Ac rfl (qe rfl ?_))
         obtain rfl := sj h
         refine Aj (sm [] [(4, iD 0)] [] rfl rfl) (Aw ?_)
         exact ⟨⟨[_], ⟨.tmp _ _ rfl, tv⟩, rfl⟩, tv⟩
theorem E8 (N : Nat) (p0 : Ad) (r : Int) (h : BY N p0 = some r) : Ax Tryz.prog 31 [.e (.agg (Ak p0))] [] (iD r) := by
 unfold BY at h
 refine Am (n := 102) (rs := [.tmp 2]) Tryz.func31 rfl rfl rfl (A0 rfl) (A0 rfl) rfl fun w0 S0 => ?_
 refine Ar Ac rfl (qb rfl (qa rfl (Ae (Ao ?_))))
 refine AR h (fun v1 => mk [(1, oD (.ptr 1 0)), (16, bD v1)] [(1, .box (Ak p0))]) (fun j1 h => ?_) (fun v1 h => ?_)
 ·refine Ai Ac rfl (qf BF rfl (ql Bi rfl (AX AE rfl (GB rfl (qm rfl ?_)))))
  refine E7 11 h rfl (fun h => ?_) fun h => ?_
  ·refine qn rfl (qn rfl (qn rfl (qn rfl (qp rfl (Ae ?_)))))
   exact sn [] h
  ·refine qf BJ rfl (ql GN rfl (AX C9 rfl (GB rfl (qp rfl (Ae ?_)))))
   exact sn [] h
 ·refine Ba h rfl (fun h => ?_) fun h => ?_
  ·refine Ar Ac rfl (qe rfl ?_)
   obtain rfl := sj h
   refine Aj (sm [] [(2, iD 3)] [] rfl rfl) (Aw ?_)
   exact ⟨⟨[_], ⟨.tmp _ _ rfl, tv⟩, rfl⟩, tv⟩
  ·refine An (Ao ?_)
   refine AR h (fun v4 => mk [(1, oD (.ptr 1 0)), (32, bD v4)] [(1, .box (Ak p0))]) (fun j4 h => ?_) (fun v4 h => ?_)
   ·refine Ai Ac rfl (qf HD rfl (ql Bi rfl (AX AE rfl (qf BF rfl (ql Bi rfl (AX AE rfl (CF rfl (qm rfl ?_))))))))
    refine E7 24 h rfl (fun h => ?_) fun h => ?_
    ·refine qn rfl (qn rfl (qn rfl (qn rfl (qn rfl (qn rfl (qn rfl (qp rfl (Ae ?_))))))))
     exact sn [] h
    ·refine qf Jr rfl (ql Bi rfl (AX AE rfl (qf BF rfl (ql Bi rfl (AX AE rfl (CF rfl (qp rfl (Ae ?_))))))))
     exact sn [] h
   ·refine Ba h rfl (fun h => ?_) fun h => ?_
    ·refine Ar Ac rfl (qe rfl ?_)
     obtain rfl := sj h
     refine Aj (sm [] [(2, iD 6)] [] rfl rfl) (Aw ?_)
     exact ⟨⟨[_], ⟨.tmp _ _ rfl, tv⟩, rfl⟩, tv⟩
    ·refine An (Ao (Ar Ac rfl (qe rfl ?_)))
     refine AA (L := BC N p0) h (fun v7 => mk [(1, oD (.ptr 1 0)), (3, iD v7)] [(1, .box (Ak p0))]) (fun v8 => mk [(1, oD (.ptr 1 0))] [(1, .box (Ak p0))]) (fun _ _ => rfl) (sm [] _ _ rfl rfl) (fun j7 n7 v7 h => ?_) (fun v8 s h hs => ?_)
     ·unfold BC at h
      refine Ao (Ar Ac rfl (qm rfl (qf BF rfl (ql Bi rfl (AX AE rfl (AY rfl (Ae ?_)))))))
      refine Ba h rfl (fun h => ?_) fun h => ?_
      ·refine An (Ao (AJ (Ar Ac rfl (qf BF rfl (ql Bi rfl (qm rfl ?_))))))
       refine Bb h fun v10 a10 b10 h => qi AE Et a10 (Af b10) rfl (qk CV rfl (qe rfl ?_))
       refine AR h (fun v11 => mk [(1, oD (.ptr 1 0)), (3, iD v7), (84, bD v11)] [(1, .box (Ak p0))]) (fun j11 h => ?_) (fun v11 h => ?_)
       ·refine Ai Ac rfl (qm rfl (AY rfl (qm rfl ?_)))
        refine E7 47 h rfl (fun h => ?_) fun h => ?_
        ·refine qn rfl (qn rfl (qp rfl (qm rfl (qn rfl (qn rfl (qn rfl (qn rfl (qn rfl (qn rfl (qp rfl (qm rfl (qn rfl (qn rfl (qn rfl (qn rfl (qn rfl (qn rfl (qn rfl (qp rfl (qm rfl (qn rfl (qn rfl (qn rfl (qn rfl (qn rfl (qn rfl (qp rfl (qm rfl (qn rfl (qn rfl (qn rfl (qn rfl (qn rfl (qn rfl (qn rfl (qp rfl (Ae ?_)))))))))))))))))))))))))))))))))))))
         exact sn [] h
        ·refine qm rfl (GB rfl (qp rfl (qm rfl ?_)))
         refine E7 51 h rfl (fun h => ?_) fun h => ?_
         ·refine qn rfl (qn rfl (qn rfl (qn rfl (qn rfl (qn rfl (qp rfl (qm rfl (qn rfl (qn rfl (qn rfl (qn rfl (qn rfl (qn rfl (qn rfl (qp rfl (qm rfl (qn rfl (qn rfl (qn rfl (qn rfl (qn rfl (qn rfl (qp rfl (qm rfl (qn rfl (qn rfl (qn rfl (qn rfl (qn rfl (qn rfl (qn rfl (qp rfl (Ae ?_)))))))))))))))))))))))))))))))))
          exact sn [] h
         ·refine qf HD rfl (ql Bi rfl (qm rfl ?_))
          refine Bb h fun v14 a14 b14 h => qi AE Et a14 (Af b14) rfl (qk CV rfl (AY rfl (qp rfl (qm rfl ?_))))
          refine E7 59 h rfl (fun h => ?_) fun h => ?_
          ·refine qn rfl (qn rfl (qn rfl (qn rfl (qn rfl (qn rfl (qn rfl (qp rfl (qm rfl (qn rfl (qn rfl (qn rfl (qn rfl (qn rfl (qn rfl (qp rfl (qm rfl (qn rfl (qn rfl (qn rfl (qn rfl (qn rfl (qn rfl (qn rfl (qp rfl (Ae ?_)))))))))))))))))))))))))
           exact sn [] h
          ·refine qf HD rfl (ql Bi rfl (qm rfl ?_))
           refine Bb h fun v16 a16 b16 h => qi AE Et a16 (Af b16) rfl (qk CV rfl (qm rfl (Ej rfl (qp rfl (qm rfl ?_)))))
           refine E7 68 h rfl (fun h => ?_) fun h => ?_
           ·refine qn rfl (qn rfl (qn rfl (qn rfl (qn rfl (qn rfl (qp rfl (qm rfl (qn rfl (qn rfl (qn rfl (qn rfl (qn rfl (qn rfl (qn rfl (qp rfl (Ae ?_))))))))))))))))
            exact sn [] h
           ·refine qf Jr rfl (ql Bi rfl (qm rfl ?_))
            refine Bb h fun v18 a18 b18 h => qi AE Et a18 (Af b18) rfl (qk CV rfl (AY rfl (qp rfl (qm rfl ?_))))
            refine E7 76 h rfl (fun h => ?_) fun h => ?_
            ·refine qn rfl (qn rfl (qn rfl (qn rfl (qn rfl (qn rfl (qn rfl (qp rfl (Ae ?_))))))))
             exact sn [] h
            ·refine qf Jr rfl (ql Bi rfl (qm rfl ?_))
             refine Bb h fun v20 a20 b20 h => qi AE Et a20 (Af b20) rfl (qk CV rfl (qm rfl (Ej rfl (qp rfl (Ae ?_)))))
             exact sn [] h
       ·refine Ba h rfl (fun h => ?_) fun h => ?_
        ·refine Ar Ac rfl (qe rfl ?_)
         obtain rfl := sj h
         refine Aj (sm [] [(2, iD 7)] [] rfl rfl) (Aw ?_)
         exact ⟨⟨[_], ⟨.tmp _ _ rfl, tv⟩, rfl⟩, tv⟩
        ·refine An (Ai Ac rfl (qm rfl (AV rfl (qe rfl ?_))))
         exact sn [] h
      ·refine AT ?_
       exact sn [] h
     ·refine Aj hs (Ao (Ar Ac rfl (qe rfl ?_)))
      refine AA (L := Bp N p0) h (fun v22 => mk [(1, oD (.ptr 1 0)), (5, iD v22)] [(1, .box (Ak p0))]) (fun v23 => mk [] []) (fun _ _ => rfl) (sm [] _ _ rfl rfl) (fun j22 n22 v22 h => ?_) (fun v23 s h hs => ?_)
      ·unfold Bp at h
       refine Ao (Ar Ac rfl (qm rfl (qf BJ rfl (ql GN rfl (AX C9 rfl (AY rfl (Ae ?_)))))))
       refine Ba h rfl (fun h => ?_) fun h => ?_
       ·refine An (Ao (AJ (Ar Ac rfl (qL Dv Ci rfl (qf BJ rfl (ql GN rfl (qm rfl ?_)))))))
        refine Bb h fun v25 a25 b25 h => qi C9 Dx a25 (Af b25) rfl (qK HQ Dx rfl ?_)
        refine BR h fun v26 a26 h => AC [] (MW N p0 v25 v26 a26) dW rfl (qa rfl (AI (by kernel_rfl) (Ar Ac rfl (qm rfl (CF rfl (Ae ?_))))))
        refine Ba h rfl (fun h => ?_) fun h => ?_
        ·refine Ar Ac rfl (qm rfl (qe rfl ?_))
         obtain rfl := sj h
         refine Aj (sm [] [(2, iD v26)] [] rfl rfl) (Aw ?_)
         exact ⟨⟨[_], ⟨.tmp _ _ rfl, tv⟩, rfl⟩, tv⟩
        ·refine An (Ai Ac rfl (qm rfl (AV rfl (qe rfl ?_))))
         exact sn [] h
       ·refine AT ?_
        exact sn [] h
      ·refine Aj hs (Ar Ac rfl (qe rfl ?_))
       obtain rfl := sj h
       refine Aj (sm [] [(2, iD 0)] [] rfl rfl) (Aw ?_)
       exact ⟨⟨[_], ⟨.tmp _ _ rfl, tv⟩, rfl⟩, tv⟩
theorem M3 (N : Nat) (p0 : Ad) (r : Ag × Int) (h : FV N p0 = some r) : Ax Tryz.prog 78 [.e (.agg (Ak p0))] [(1, r.1.fd.map Av), (1, r.1.fa.map Av), (1, r.1.fe.map ER)] (.tup [.agg [.own 0, .own 1, .own 2], .one (iC r.2)]) := by
 unfold FV at h
 refine Am (n := 68) (rs := [.cell 2 64, .tmp 3]) Tryz.func78 rfl rfl rfl (A0 rfl) (A0 rfl) rfl fun w0 S0 => ?_
 refine Ar Ac rfl (qb rfl (qz FI rfl (qa rfl (Ae (Ao (Ar Ac rfl (qL Dv Ci rfl ?_)))))))
 refine BR h fun v1 a1 h => AC [] (E8 N p0 v1 a1) ZQ rfl (qa rfl (Ae (Ar Ac rfl (qm rfl (CF rfl (Ae ?_))))))
 refine Ba h rfl (fun h => ?_) fun h => ?_
 ·refine Ar Ac rfl (Bo FI J4 rfl (qm rfl (qs Bc rfl (qe rfl ?_))))
  obtain rfl := sj h
  refine Aj ((Ay 2 0 2001 1 _ rfl rfl rfl rfl).trans ((Ay 2 1 2002 1 _ rfl rfl rfl rfl).trans ((Ay 2 2 2003 1 _ rfl rfl rfl rfl).trans (sm [(1000, 2001), (1001, 2002), (1002, 2003)] [(2, oD (.ptr 2 0)), (3, iD v1)] [(2, .box [.own 1000, .own 1001, .own 1002]), (1000, .vec 1 ((([] : List Int)).map Av)), (1001, .vec 1 ((([] : List Int)).map Av)), (1002, .vec 1 ((([] : List Int)).map ER))] rfl rfl)))) (Aw ?_)
  exact ⟨⟨[_, _], ⟨.cellN _ _ _ _ _ _ _ rfl rfl CM Bc rfl rfl (J8 rfl), ⟨.tmp _ _ rfl, tv⟩⟩, rfl⟩, ⟨rfl, rfl, rfl, tv⟩⟩
 ·refine An (Ar Ac rfl (qz FI rfl (Ae (Ao (Ar Ac rfl (qe rfl ?_))))))
  refine AA (L := CT N p0) h (fun v3 => mk [(1, oD (.ptr 1 0)), (2, oD (.ptr 2 0)), (5, oD (.ptr 5 0)), (6, iD v3.2.2)] [(1, .box (Ak p0)), (2, .box [.pure (.nil0), .pure (.nil0), .pure (.nil0)]), (5, .box [.own 2004, .own 2005, .pure (.nil0)]), (2004, .vec 1 (v3.1.map Av)), (2005, .vec 1 (v3.2.1.map Av))]) (fun v4 => mk [(1, oD (.ptr 1 0)), (2, oD (.ptr 2 0)), (5, oD (.ptr 5 0))] [(1, .box (Ak p0)), (2, .box [.pure (.nil0), .pure (.nil0), .pure (.nil0)]), (5, .box [.own 2006, .own 2007, .pure (.nil0)]), (2006, .vec 1 (v4.1.map Av)), (2007, .vec 1 (v4.2.map Av))]) (fun _ _ => rfl) ((Ay 5 0 2008 1 _ rfl rfl rfl rfl).trans ((Ay 5 1 2009 1 _ rfl rfl rfl rfl).trans (sm [(2004, 2008), (2005, 2009)] _ _ rfl rfl))) (fun j3 n3 v3 h => ?_) (fun v4 s h hs => ?_)
  ·unfold CT at h
   refine Ao (Ar Ac rfl (qm rfl (qf BF rfl (ql Bi rfl (AX AE rfl (AY rfl (Ae ?_)))))))
   refine Ba h rfl (fun h => ?_) fun h => ?_
   ·refine An (Ao (AJ (Ar Ac rfl (qf D0 rfl (ql Bi rfl (qf HD rfl (ql Bi rfl (qm rfl ?_))))))))
    refine Bb h fun v6 a6 b6 h => qi AE Et a6 (Af b6) rfl (qk CV rfl (E5 AE Et Lt rfl ?_))
    refine GA h fun c7 h => Ew (f := Av) AE AE Et Ms Lt c7 rfl (qf D0 rfl (qs Wu rfl (AI (by kernel_rfl) (Ai Ac rfl (qf Ca rfl (ql Bi rfl (E5 AE Et Lt rfl ?_)))))))
    refine GA h fun c8 h => Ew (f := Av) AE AE Et Ms Lt c8 rfl (qf Ca rfl (qs Wu rfl (Ae (Ai Ac rfl (qm rfl (AV rfl (qe rfl ?_)))))))
    exact sn [(2004, 30), (2005, 35)] h
   ·refine AT ?_
    exact sn [(2006, 2004), (2007, 2005)] h
  ·refine Aj hs (Ao (Ar Ac rfl (qe rfl ?_)))
   refine AA (L := By N p0) h (fun v9 => mk [(1, oD (.ptr 1 0)), (2, oD (.ptr 2 0)), (5, oD (.ptr 5 0)), (7, iD v9.2)] [(1, .box (Ak p0)), (2, .box [.pure (.nil0), .pure (.nil0), .pure (.nil0)]), (5, .box [.own 2010, .own 2011, .own 2012]), (2010, .vec 1 (v4.1.map Av)), (2011, .vec 1 (v4.2.map Av)), (2012, .vec 1 (v9.1.map ER))]) (fun v10 => mk [(2, oD (.ptr 2 0)), (5, oD (.ptr 5 0))] [(2, .box [.pure (.nil0), .pure (.nil0), .pure (.nil0)]), (5, .box [.own 2013, .own 2014, .own 2015]), (2013, .vec 1 (v4.1.map Av)), (2014, .vec 1 (v4.2.map Av)), (2015, .vec 1 (v10.map ER))]) (fun _ _ => rfl) ((Ay 5 2 2019 1 _ rfl rfl rfl rfl).trans (sm [(2010, 2006), (2011, 2007), (2012, 2019)] _ _ rfl rfl)) (fun j9 n9 v9 h => ?_) (fun v10 s h hs => ?_)
   ·unfold By at h
    refine Ao (Ar Ac rfl (qm rfl (qf BJ rfl (ql GN rfl (AX C9 rfl (AY rfl (Ae ?_)))))))
    refine Ba h rfl (fun h => ?_) fun h => ?_
    ·refine An (Ao (AJ (Ar Ac rfl (qe rfl ?_))))
     refine AR h (fun v12 => mk [(1, oD (.ptr 1 0)), (2, oD (.ptr 2 0)), (5, oD (.ptr 5 0)), (7, iD v9.2), (8, pD (.val (.int .u8 v12)))] [(1, .box (Ak p0)), (2, .box [.pure (.nil0), .pure (.nil0), .pure (.nil0)]), (5, .box [.own 2016, .own 2017, .own 2018]), (2016, .vec 1 (v4.1.map Av)), (2017, .vec 1 (v4.2.map Av)), (2018, .vec 1 (v9.1.map ER))]) (fun j12 h => ?_) (fun v12 h => ?_)
     ·refine Ar Ac rfl (qf BJ rfl (ql GN rfl (qm rfl ?_)))
      refine Bb h fun v13 a13 b13 h => qi C9 Dx a13 (Af b13) rfl (qK HQ Dx rfl ?_)
      refine BR h fun v14 a14 h => AC [] (C1 N v13 v14 a14) Tg rfl (Ae ?_)
      refine Ba h rfl (fun h => ?_) fun h => ?_
      ·refine Ai Ac rfl (qf HD rfl (ql Bi rfl (qf BJ rfl (ql GN rfl (qm rfl ?_)))))
       refine Bb h fun v16 a16 b16 h => qi C9 Dx a16 (Af b16) rfl (qg En rfl (qk CV rfl ?_))
       refine Bb h fun v17 a17 b17 h => qi AE Et a17 (Af b17) rfl (qk CV rfl ?_)
       refine GA h fun c18 h => Jy rfl c18 (qa rfl (AI (by kernel_rfl) ?_))
       exact sn [(2016, 2010), (2017, 2011), (2018, 2012)] h
      ·refine An ?_
       exact sn [(2016, 2010), (2017, 2011), (2018, 2012)] h
     ·refine Ai Ac rfl (qf DO rfl (ql IT rfl (qm rfl (E5 E0 HK Sk rfl ?_))))
      refine GA h fun c19 h => Ew (f := ER) E0 E0 HK TV Sk c19 rfl (qf DO rfl (qs ew rfl (Ae (Ai Ac rfl (qm rfl (AV rfl (qe rfl ?_)))))))
      exact sn [(2010, 2016), (2011, 2017), (2012, 65)] h
    ·refine AT ?_
     exact sn [(2013, 2010), (2014, 2011), (2015, 2012)] h
   ·refine Aj hs (Ar Ac rfl (qL CM Bc rfl (qs Bc rfl (qe rfl ?_))))
    obtain rfl := sj h
    refine Aj (sm [(1000, 2013), (1001, 2014), (1002, 2015)] [(2, oD (.ptr 2 0)), (3, iD 0)] [(2, .box [.own 1000, .own 1001, .own 1002]), (1000, .vec 1 (v4.1.map Av)), (1001, .vec 1 (v4.2.map Av)), (1002, .vec 1 (v10.map ER))] rfl rfl) (Aw ?_)
    exact ⟨⟨[_, _], ⟨.cellN _ _ _ _ _ _ _ rfl rfl CM Bc rfl rfl (J8 rfl), ⟨.tmp _ _ rfl, tv⟩⟩, rfl⟩, ⟨rfl, rfl, rfl, tv⟩⟩
theorem Ml (N : Nat) (p0 : Ag) (r : Ag) (h : Fy N p0 = some r) : Ax Tryz.prog 144 [.e (.agg (AQ p0))] [(1, r.fd.map Av), (1, r.fa.map Av), (1, r.fe.map ER)] (.e (.agg [.own 0, .own 1, .own 2])) := by
 unfold Fy at h
 refine Am (n := 16) (rs := [.cell 2 64]) Tryz.func144 rfl rfl rfl (A0 rfl) (A0 rfl) rfl fun w0 S0 => ?_
 refine Ar Ac rfl (qb rfl (qz FI rfl (Ae (Ar Ac rfl (E5 AE Et Lt rfl (qf D0 rfl (ql Bi rfl ?_)))))))
 refine GA h fun c1 h => HT (f := Av) AE AE Et Ms Lt (fun _ => rfl) c1 rfl (E5 AE Et Lt rfl (qf Ca rfl (ql Bi rfl ?_)))
 refine GA h fun c2 h => HT (f := Av) AE AE Et Ms Lt (fun _ => rfl) c2 rfl (E5 E0 HK Sk rfl (qf DO rfl (ql IT rfl ?_)))
 refine GA h fun c3 h => HT (f := ER) E0 E0 HK TV Sk (fun _ => rfl) c3 rfl (Bo FI J4 rfl (qs Bc rfl (AI (by kernel_rfl) ?_)))
 obtain rfl := sj h
 refine Aj (sm [(1000, 6), (1001, 10), (1002, 14)] [(2, oD (.ptr 2 0))] [(2, .box [.own 1000, .own 1001, .own 1002]), (1000, .vec 1 (((([] : List Int)) ++ p0.fd).map Av)), (1001, .vec 1 (((([] : List Int)) ++ p0.fa).map Av)), (1002, .vec 1 (((([] : List Int)) ++ p0.fe).map ER))] rfl rfl) (Aw ?_)
 exact ⟨⟨[_], ⟨.cellN _ _ _ _ _ _ _ rfl rfl CM Bc rfl rfl (J8 rfl), tv⟩, rfl⟩, ⟨rfl, rfl, rfl, tv⟩⟩
theorem Og (N : Nat) (p0 : Ag) (r : (List Ag)) (h : FD N p0 = some r) : Ax Tryz.prog 117 [.e (.agg (AQ p0))] [(3, r.map F0)] (oD (.own 0)) := by
 unfold FD at h
 refine Am (n := 62) (rs := [.tmp 2]) Tryz.func117 rfl rfl rfl (A0 rfl) (A0 rfl) rfl fun w0 S0 => ?_
 refine Ar Ac rfl (qb rfl (qa rfl (Ae (Ar Ac rfl (qa rfl (Ae (Ao (Ar Ac rfl (qe rfl ?_)))))))))
 refine AA (L := Dg N p0) h (fun v1 => mk [(1, oD (.ptr 1 0)), (3, iD v1.1), (4, iD v1.2)] [(1, .box (AQ p0))]) (fun v2 => mk [(1, oD (.ptr 1 0)), (3, iD v2)] [(1, .box (AQ p0))]) (fun _ _ => rfl) (sm [] _ _ rfl rfl) (fun j1 n1 v1 h => ?_) (fun v2 s h hs => ?_)
 ·unfold Dg at h
  refine Ao (Ar Ac rfl (qm rfl (qf Ca rfl (ql Bi rfl (AX AE rfl (AY rfl (Ae ?_)))))))
  refine Ba h rfl (fun h => ?_) fun h => ?_
  ·refine An ?_
   refine AR h (fun v4 => mk [(1, oD (.ptr 1 0)), (3, iD v4), (4, iD v1.2)] [(1, .box (AQ p0))]) (fun j4 h => ?_) (fun v4 h => ?_)
   ·refine AJ (Ar Ac rfl (qf Ca rfl (ql Bi rfl (qm rfl ?_))))
    refine Bb h fun v5 a5 b5 h => qi AE Et a5 (Af b5) rfl (qk CV rfl (Ej rfl (Ae ?_)))
    refine Ba h rfl (fun h => ?_) fun h => ?_
    ·refine Ai Ac rfl (qm rfl (AV rfl (qe rfl ?_)))
     exact sn [] h
    ·refine An ?_
     exact sn [] h
   ·refine Ai Ac rfl (qm rfl (AV rfl (qe rfl ?_)))
    exact sn [] h
  ·refine AT ?_
   exact sn [] h
 ·refine Aj hs (Ar Ac rfl (qa rfl (Ae (Ao (Ar Ac rfl (qe rfl ?_))))))
  refine AA (L := BU N p0 v2) h (fun v7 => mk [(1, oD (.ptr 1 0)), (3, iD v2), (5, oD (.own 2001)), (6, iD v7.2)] [(1, .box (AQ p0)), (2001, .vec 3 (v7.1.map F0))]) (fun v8 => mk [(5, oD (.own 2002))] [(2002, .vec 3 (v8.map F0))]) (fun _ _ => rfl) ((Bf 5 2022 3 rfl rfl rfl).trans (sm [(2001, 2022)] _ _ rfl rfl)) (fun j7 n7 v7 h => ?_) (fun v8 s h hs => ?_)
  ·unfold BU at h
   refine Ao (Ar Ac rfl (qm rfl (qm rfl ?_)))
   refine GA h fun c9 h => Jy rfl c9 (AY rfl (Ae ?_))
   refine Ba h rfl (fun h => ?_) fun h => ?_
   ·refine An (Ao (AJ (Ar Ac rfl (qL CM Bc rfl ?_))))
    refine BR h fun v11 a11 h => AC [2003, 2004, 2005] (Ml N p0 v11 a11) bT rfl (qz FI rfl (qs Bc rfl (Ae (Ar Ac rfl (qa rfl (Ae (Ao (Ar Ac rfl (qe rfl ?_)))))))))
    refine AA (L := Cw N p0 v7) h (fun v12 => mk [(1, oD (.ptr 1 0)), (3, iD v2), (5, oD (.own 2009)), (6, iD v7.2), (7, oD (.ptr 7 0)), (8, iD v12.2.1), (9, iD v12.2.2)] [(1, .box (AQ p0)), (7, .box [.own 2006, .own 2007, .own 2008]), (2006, .vec 1 (v11.fd.map Av)), (2007, .vec 1 (v12.1.map Av)), (2008, .vec 1 (v11.fe.map ER)), (2009, .vec 3 (v7.1.map F0))]) (fun v13 => mk [(1, oD (.ptr 1 0)), (3, iD v2), (5, oD (.own 2013)), (6, iD v7.2), (7, oD (.ptr 7 0))] [(1, .box (AQ p0)), (7, .box [.own 2010, .own 2011, .own 2012]), (2010, .vec 1 (v11.fd.map Av)), (2011, .vec 1 (v13.map Av)), (2012, .vec 1 (v11.fe.map ER)), (2013, .vec 3 (v7.1.map F0))]) (fun _ _ => rfl) (sm [(2006, 2003), (2007, 2004), (2008, 2005), (2009, 2001)] _ _ rfl rfl) (fun j12 n12 v12 h => ?_) (fun v13 s h hs => ?_)
    ·unfold Cw at h
     refine Ao (Ar Ac rfl (qm rfl (qf Ca rfl (ql Bi rfl (AX AE rfl (AY rfl (Ae ?_)))))))
     refine Ba h rfl (fun h => ?_) fun h => ?_
     ·refine An ?_
      refine AR h (fun v15 => mk [(1, oD (.ptr 1 0)), (3, iD v2), (5, oD (.own 2017)), (6, iD v7.2), (7, oD (.ptr 7 0)), (8, iD v15.2), (9, iD v12.2.2)] [(1, .box (AQ p0)), (7, .box [.own 2014, .own 2015, .own 2016]), (2014, .vec 1 (v11.fd.map Av)), (2015, .vec 1 (v15.1.map Av)), (2016, .vec 1 (v11.fe.map ER)), (2017, .vec 3 (v7.1.map F0))]) (fun j15 h => ?_) (fun v15 h => ?_)
      ·refine AJ (Ao (Ar Ac rfl (qf Ca rfl (ql Bi rfl (qm rfl ?_)))))
       refine Bb h fun v16 a16 b16 h => qi AE Et a16 (Af b16) rfl (qk CV rfl (AY rfl (Ae ?_)))
       refine Ba h rfl (fun h => ?_) fun h => ?_
       ·refine AT ?_
        exact sn [(2014, 2006), (2015, 2007), (2016, 2008), (2017, 2009)] h
       ·refine An ?_
        refine AR h (fun v18 => mk [(1, oD (.ptr 1 0)), (3, iD v2), (5, oD (.own 2021)), (6, iD v7.2), (7, oD (.ptr 7 0)), (8, iD v12.2.1), (9, iD v12.2.2)] [(1, .box (AQ p0)), (7, .box [.own 2018, .own 2019, .own 2020]), (2018, .vec 1 (v11.fd.map Av)), (2019, .vec 1 (v18.map Av)), (2020, .vec 1 (v11.fe.map ER)), (2021, .vec 3 (v7.1.map F0))]) (fun j18 h => ?_) (fun v18 h => ?_)
        ·refine Ar Ac rfl (qm rfl (qm rfl ?_))
         refine GA h fun c19 h => II rfl c19 (Nf rfl (by decide) (B9 rfl (Ae ?_)))
         refine Ba h rfl (fun h => ?_) fun h => ?_
         ·refine Ai Ac rfl (qf Ca rfl (ql Bi rfl (qm rfl ?_)))
          refine Bb h fun v21 a21 b21 h => qI AE Et a21 (Af b21) rfl ?_
          refine A7 rfl rfl rfl rfl (Af b21) rfl Et rfl (A0 rfl) (A4 Av v12.1 _ ((-1))) ?_
          refine Ae ?_
          exact sn [(2018, 2006), (2019, 2007), (2020, 2008), (2021, 2009)] h
         ·refine An ?_
          exact sn [(2018, 2006), (2019, 2007), (2020, 2008), (2021, 2009)] h
        ·refine Ai Ac rfl (qm rfl (AV rfl (qe rfl ?_)))
         exact sn [(2014, 2018), (2015, 2019), (2016, 2020), (2017, 2021)] h
      ·refine Ai Ac rfl (qm rfl (AV rfl (qe rfl ?_)))
       exact sn [(2006, 2014), (2007, 2015), (2008, 2016), (2009, 2017)] h
     ·refine AT ?_
      exact sn [(2010, 2006), (2011, 2007), (2012, 2008), (2013, 2009)] h
    ·refine Aj hs (Ai Ac rfl (qm rfl (qL CM Bc rfl (EF (BD 2010 _ _ rfl rfl) (EF (BD 2011 _ _ rfl rfl) (EF (BD 2012 _ _ rfl rfl) (E5 K2 Bc FI rfl ?_)))))))
     refine GA h fun c22 h => Ew (f := F0) K2 K2 Bc Z3 FI c22 rfl (qa rfl (Ae (Ai Ac rfl (qm rfl (AV rfl (qe rfl ?_))))))
     exact sn [(2001, 60)] h
   ·refine AT ?_
    exact sn [(2002, 2001)] h
  ·refine Aj hs (Ar Ac rfl (qm rfl (qe rfl ?_)))
   obtain rfl := sj h
   refine Aj (sm [(1000, 2002)] [(2, oD (.own 1000))] [(1000, .vec 3 (v8.map F0))] rfl rfl) (Aw ?_)
   exact ⟨⟨[_], ⟨.tmp _ _ rfl, tv⟩, rfl⟩, ⟨rfl, tv⟩⟩
theorem Fv (N : Nat) (p0 : Ag) (p1 : Int) (r : Int) (h : Ct N p0 p1 = some r) : Ax Tryz.prog 142 [.e (.agg (AQ p0)), iD p1] [] (pD (.val (.int .u8 r))) := by
 unfold Ct at h
 refine Am (n := 27) (rs := [.tmp 4]) Tryz.func142 rfl rfl rfl (A0 rfl) (A0 rfl) rfl fun w0 S0 => ?_
 refine Ar Ac rfl (qb rfl (qa rfl (Ae (Ar Ac rfl (qf D0 rfl (ql Bi rfl (qm rfl ?_)))))))
 refine Bb h fun v1 a1 b1 h => qi AE Et a1 (Af b1) rfl (qk CV rfl ?_)
 refine GA h fun c2 h => Jy rfl c2 (qe rfl ?_)
 refine AR h (fun v3 => mk [(5, pD (.val (.int .u8 v3)))] []) (fun j3 h => ?_) (fun v3 h => ?_)
 ·refine Ar Ac rfl (qf Ca rfl (ql Bi rfl (qm rfl ?_)))
  refine Bb h fun v4 a4 b4 h => qi AE Et a4 (Af b4) rfl (qk CV rfl (Ej rfl (Ae ?_)))
  refine Ba h rfl (fun h => ?_) fun h => ?_
  ·refine Ai Ac rfl (qm rfl (qf Ca rfl (ql Bi rfl (qm rfl ?_))))
   refine Bb h fun v6 a6 b6 h => qi AE Et a6 (Af b6) rfl (qk CV rfl ?_)
   refine GA h fun c7 h => Jy rfl c7 (XM rfl (qe rfl ?_))
   exact sn [] h
  ·refine An ?_
   exact sn [] h
 ·refine Ar Ac rfl (qm rfl (qe rfl ?_))
  obtain rfl := sj h
  refine Aj (sm [] [(4, pD (.val (.int .u8 v3)))] [] rfl rfl) (Aw ?_)
  exact ⟨⟨[_], ⟨.tmp _ _ rfl, tv⟩, rfl⟩, tv⟩
theorem HE (N : Nat) (p0 : Int) (p1 : Int) (r : Bool) (h : Db N p0 p1 = some r) : Ax Tryz.prog 143 [pD (.val (.int .u8 p0)), iD p1] [] (bD r) := by
 unfold Db at h
 refine Am (n := 10) (rs := [.tmp 4]) Tryz.func143 rfl rfl rfl (A0 rfl) (A0 rfl) rfl fun w0 S0 => ?_
 refine Ar Ac rfl (qa rfl (Ae (Ar Ac rfl (qm rfl (qm rfl ?_)))))
 refine GA h fun c1 h => II rfl c1 (M5 rfl (B9 rfl (qe rfl ?_)))
 obtain rfl := sj h
 refine Aj (sm [] [(4, bD (((Hh .u8 ((FA .u8 p0 p1)) 1) == 1)))] [] rfl rfl) (Aw ?_)
 exact ⟨⟨[_], ⟨.tmp _ _ rfl, tv⟩, rfl⟩, tv⟩
theorem MQ (N : Nat) (p0 : Ad) (p1 : Ag) (r : (List Aa)) (h : FQ N p0 p1 = some r) : Ax Tryz.prog 116 [.e (.agg (Ak p0)), .e (.agg (AQ p1))] [(3, r.map Ab)] (oD (.own 0)) := by
 unfold FQ at h
 refine Am (n := 111) (rs := [.tmp 4]) Tryz.func116 rfl rfl rfl (A0 rfl) (A0 rfl) rfl fun w0 S0 => ?_
 refine Ar Ac rfl (qb rfl (qb rfl (qa rfl (Ae (Ar Ac rfl (qa rfl (Ae (Ao (Ar Ac rfl (qe rfl ?_))))))))))
 refine AA (L := Dn N p0 p1) h (fun v1 => mk [(2, oD (.ptr 2 0)), (3, oD (.ptr 3 0)), (5, oD (.own 2001)), (6, iD v1.2)] [(2, .box (Ak p0)), (3, .box (AQ p1)), (2001, .vec 3 (v1.1.map Ab))]) (fun v2 => mk [(5, oD (.own 2002))] [(2002, .vec 3 (v2.map Ab))]) (fun _ _ => rfl) ((Bf 5 2013 3 rfl rfl rfl).trans (sm [(2001, 2013)] _ _ rfl rfl)) (fun j1 n1 v1 h => ?_) (fun v2 s h hs => ?_)
 ·unfold Dn at h
  refine Ao (Ar Ac rfl (qm rfl (qf BJ rfl (ql GN rfl (AX C9 rfl (AY rfl (Ae ?_)))))))
  refine Ba h rfl (fun h => ?_) fun h => ?_
  ·refine An (Ao (AJ (Ar Ac rfl (qf BJ rfl (ql GN rfl (qm rfl ?_))))))
   refine Bb h fun v4 a4 b4 h => qi C9 Dx a4 (Af b4) rfl (qK HQ Dx rfl (qz JX rfl (qs Dx rfl (Ae (Ar Ac rfl (qL CM Bc rfl (qf En rfl (ql CV rfl ?_))))))))
   refine BR h fun v5 a5 h => AC [] (Fv N p1 v4.fg v5 a5) Ul rfl (qe rfl ?_)
   refine AR h (fun v6 => mk [(2, oD (.ptr 2 0)), (3, oD (.ptr 3 0)), (5, oD (.own 2003)), (6, iD v1.2), (7, oD (.ptr 7 0)), (8, pD (.val (.int .u8 v6)))] [(2, .box (Ak p0)), (3, .box (AQ p1)), (7, .box (Bt v4)), (2003, .vec 3 (v1.1.map Ab))]) (fun j6 h => ?_) (fun v6 h => ?_)
   ·refine Ar Ac rfl (qL HQ Dx rfl ?_)
    refine BR h fun v7 a7 h => AC [] (C1 N v4 v7 a7) Tg rfl (Ae ?_)
    refine Ba h rfl (fun h => ?_) fun h => ?_
    ·refine Ai Ac rfl (qf DO rfl (ql IT rfl (qm rfl ?_)))
     refine Bb h fun v9 a9 b9 h => qi E0 HK a9 (Af b9) rfl (qk Mj rfl (qe rfl ?_))
     exact sn [(2003, 2001)] h
    ·refine An ?_
     exact sn [(2003, 2001)] h
   ·refine Ar Ac rfl (qe rfl ?_)
    refine AA (L := B6 N p0 p1 v1 v4 v6) h (fun v10 => mk [(2, oD (.ptr 2 0)), (3, oD (.ptr 3 0)), (5, oD (.own 2004)), (6, iD v1.2), (7, oD (.ptr 7 0)), (8, pD (.val (.int .u8 v6))), (9, iD v10.2)] [(2, .box (Ak p0)), (3, .box (AQ p1)), (7, .box (Bt v4)), (2004, .vec 3 (v10.1.map Ab))]) (fun v11 => mk [(2, oD (.ptr 2 0)), (3, oD (.ptr 3 0)), (5, oD (.own 2005)), (6, iD v1.2)] [(2, .box (Ak p0)), (3, .box (AQ p1)), (2005, .vec 3 (v11.map Ab))]) (fun _ _ => rfl) (sm [(2004, 2003)] _ _ rfl rfl) (fun j10 n10 v10 h => ?_) (fun v11 s h hs => ?_)
    ·unfold B6 at h
     refine Ao (Ar Ac rfl (qm rfl (qf BF rfl (ql Bi rfl (qf En rfl (ql CV rfl ?_))))))
     refine Bb h fun v12 a12 b12 h => qi AE Et a12 (Af b12) rfl (qk CV rfl (AY rfl (Ae ?_)))
     refine Ba h rfl (fun h => ?_) fun h => ?_
     ·refine An ?_
      refine AR h (fun v14 => mk [(2, oD (.ptr 2 0)), (3, oD (.ptr 3 0)), (5, oD (.own 2006)), (6, iD v1.2), (7, oD (.ptr 7 0)), (8, pD (.val (.int .u8 v6))), (9, iD v10.2)] [(2, .box (Ak p0)), (3, .box (AQ p1)), (7, .box (Bt v4)), (2006, .vec 3 (v14.map Ab))]) (fun j14 h => ?_) (fun v14 h => ?_)
      ·refine AJ (Ao (Ar Ac rfl (qm rfl (qm rfl ?_))))
       refine BR h fun v15 a15 h => AC [] (HE N v6 v10.2 v15 a15) Wa rfl (CO rfl (Ae ?_))
       refine Ba h rfl (fun h => ?_) fun h => ?_
       ·refine AT ?_
        exact sn [(2006, 2004)] h
       ·refine An (Ar Ac rfl (qa rfl (Ae (Ao (Ar Ac rfl (qe rfl ?_))))))
        refine AA (L := BH N p0 p1 v1 v4 v10) h (fun v17 => mk [(2, oD (.ptr 2 0)), (3, oD (.ptr 3 0)), (5, oD (.own 2007)), (6, iD v1.2), (7, oD (.ptr 7 0)), (8, pD (.val (.int .u8 v6))), (9, iD v10.2), (10, bD v17.2.1), (11, iD v17.2.2)] [(2, .box (Ak p0)), (3, .box (AQ p1)), (7, .box (Bt v4)), (2007, .vec 3 (v17.1.map Ab))]) (fun v18 => mk [(2, oD (.ptr 2 0)), (3, oD (.ptr 3 0)), (5, oD (.own 2008)), (6, iD v1.2), (7, oD (.ptr 7 0)), (8, pD (.val (.int .u8 v6))), (9, iD v10.2), (10, bD v18.2)] [(2, .box (Ak p0)), (3, .box (AQ p1)), (7, .box (Bt v4)), (2008, .vec 3 (v18.1.map Ab))]) (fun _ _ => rfl) (sm [(2007, 2004)] _ _ rfl rfl) (fun j17 n17 v17 h => ?_) (fun v18 s h hs => ?_)
        ·unfold BH at h
         refine Ao (Ar Ac rfl (qm rfl (qf BF rfl (ql Bi rfl (qf JT rfl (ql CV rfl ?_))))))
         refine Bb h fun v19 a19 b19 h => qi AE Et a19 (Af b19) rfl (qk CV rfl (AY rfl (Ae ?_)))
         refine Ba h rfl (fun h => ?_) fun h => ?_
         ·refine An ?_
          refine AR h (fun v21 => mk [(2, oD (.ptr 2 0)), (3, oD (.ptr 3 0)), (5, oD (.own 2009)), (6, iD v1.2), (7, oD (.ptr 7 0)), (8, pD (.val (.int .u8 v6))), (9, iD v10.2), (10, bD v21.2), (11, iD v17.2.2)] [(2, .box (Ak p0)), (3, .box (AQ p1)), (7, .box (Bt v4)), (2009, .vec 3 (v21.1.map Ab))]) (fun j21 h => ?_) (fun v21 h => ?_)
          ·refine AJ (Ao (Ar Ac rfl (qL CM Bc rfl (qf JT rfl (ql CV rfl ?_)))))
           refine BR h fun v22 a22 h => AC [] (Fv N p1 v4.fk v22 a22) Ul rfl (qm rfl ?_)
           refine BR h fun v23 a23 h => AC [] (HE N v22 v17.2.2 v23 a23) Wa rfl (CO rfl (Ae ?_))
           refine Ba h rfl (fun h => ?_) fun h => ?_
           ·refine AT ?_
            exact sn [(2009, 2007)] h
           ·refine An ?_
            refine AR h (fun v25 => mk [(2, oD (.ptr 2 0)), (3, oD (.ptr 3 0)), (5, oD (.own 2010)), (6, iD v1.2), (7, oD (.ptr 7 0)), (8, pD (.val (.int .u8 v6))), (9, iD v10.2), (10, bD v25), (11, iD v17.2.2)] [(2, .box (Ak p0)), (3, .box (AQ p1)), (7, .box (Bt v4)), (2010, .vec 3 (v17.1.map Ab))]) (fun j25 h => ?_) (fun v25 h => ?_)
            ·refine Ai Ac rfl (qm rfl (qm rfl ?_))
             refine E7 67 h rfl (fun h => ?_) fun h => ?_
             ·refine qn rfl (qn rfl (qn rfl (qn rfl (qn rfl (qn rfl (qn rfl (qn rfl (qp rfl (qe rfl ?_)))))))))
              exact sn [(2010, 2007)] h
             ·refine qf Fq rfl (ql HL rfl (qm rfl ?_))
              refine Bb h fun v27 a27 b27 h => qi D7 IS a27 (Af b27) rfl (qk Me rfl (qm rfl ?_))
              refine Bb h fun v28 a28 b28 h => qi E6 Nh a28 (Af b28) rfl (qk TE rfl (qp rfl (qe rfl ?_)))
              exact sn [(2010, 2007)] h
            ·refine AR h (fun v29 => mk [(2, oD (.ptr 2 0)), (3, oD (.ptr 3 0)), (5, oD (.own 2011)), (6, iD v1.2), (7, oD (.ptr 7 0)), (8, pD (.val (.int .u8 v6))), (9, iD v10.2), (10, bD v25), (11, iD v17.2.2), (90, bD v29)] [(2, .box (Ak p0)), (3, .box (AQ p1)), (7, .box (Bt v4)), (2011, .vec 3 (v17.1.map Ab))]) (fun j29 h => ?_) (fun v29 h => ?_)
             ·refine Ai Ac rfl (qf KP rfl (ql TE rfl (CO rfl (qm rfl ?_))))
              refine E7 80 h rfl (fun h => ?_) fun h => ?_
              ·refine qf Fq rfl (ql HL rfl (qm rfl ?_))
               refine Bb h fun v31 a31 b31 h => qi D7 IS a31 (Af b31) rfl (qk Me rfl (qm rfl ?_))
               refine Bb h fun v32 a32 b32 h => qi E6 Nh a32 (Af b32) rfl (qk TE rfl (CO rfl (qp rfl (Ae ?_))))
               exact sn [(2011, 2010)] h
              ·refine qn rfl (qn rfl (qn rfl (qn rfl (qn rfl (qn rfl (qn rfl (qn rfl (qn rfl (qp rfl (Ae ?_))))))))))
               exact sn [(2011, 2010)] h
             ·refine Ba h rfl (fun h => ?_) fun h => ?_
              ·refine Ai Ac rfl (qm rfl (qm rfl (qm rfl (qm rfl (Bo HA Rn rfl (E5 AP AO HA rfl ?_))))))
               refine GA h fun c34 h => Ew (f := Ab) AP AP AO NZ HA c34 rfl (qe rfl ?_)
               exact sn [(2009, 97)] h
              ·refine An ?_
               exact sn [(2009, 2011)] h
          ·refine Ai Ac rfl (qm rfl (AV rfl (qe rfl ?_)))
           exact sn [(2007, 2009)] h
         ·refine AT ?_
          exact sn [(2008, 2007)] h
        ·refine Aj hs ?_
         refine AR h (fun v35 => mk [(2, oD (.ptr 2 0)), (3, oD (.ptr 3 0)), (5, oD (.own 2012)), (6, iD v1.2), (7, oD (.ptr 7 0)), (8, pD (.val (.int .u8 v6))), (9, iD v10.2), (103, bD v35)] [(2, .box (Ak p0)), (3, .box (AQ p1)), (7, .box (Bt v4)), (2012, .vec 3 (v18.1.map Ab))]) (fun j35 h => ?_) (fun v35 h => ?_)
         ·refine Ai Ac rfl (qf KP rfl (ql TE rfl (qm rfl ?_)))
          refine E7 100 h rfl (fun h => ?_) fun h => ?_
          ·refine qm rfl (CO rfl (qp rfl (Ae ?_)))
           exact sn [(2012, 2008)] h
          ·refine qn rfl (qn rfl (qp rfl (Ae ?_)))
           exact sn [(2012, 2008)] h
         ·refine Ba h rfl (fun h => ?_) fun h => ?_
          ·refine Ai Ac rfl (qm rfl (qm rfl (qm rfl (Bo HA Rn rfl (E5 AP AO HA rfl ?_)))))
           refine GA h fun c38 h => Ew (f := Ab) AP AP AO NZ HA c38 rfl (qe rfl ?_)
           exact sn [(2006, 109)] h
          ·refine An ?_
           exact sn [(2006, 2012)] h
      ·refine Ai Ac rfl (qm rfl (AV rfl (qe rfl ?_)))
       exact sn [(2004, 2006)] h
     ·refine AT ?_
      exact sn [(2005, 2004)] h
    ·refine Aj hs (Ai Ac rfl (qm rfl (AV rfl (qe rfl ?_))))
     exact sn [(2001, 2005)] h
  ·refine AT ?_
   exact sn [(2002, 2001)] h
 ·refine Aj hs (Ar Ac rfl (qm rfl (qe rfl ?_)))
  obtain rfl := sj h
  refine Aj (sm [(1000, 2002)] [(4, oD (.own 1000))] [(1000, .vec 3 (v2.map Ab))] rfl rfl) (Aw ?_)
  exact ⟨⟨[_], ⟨.tmp _ _ rfl, tv⟩, rfl⟩, ⟨rfl, tv⟩⟩
theorem L8 (N : Nat) (p0 : Ad) (p1 : Ag) (r : Bool) (h : Fw N p0 p1 = some r) : Ax Tryz.prog 118 [.e (.agg (Ak p0)), .e (.agg (AQ p1))] [] (bD r) := by
 unfold Fw at h
 refine Am (n := 10) (rs := [.tmp 4]) Tryz.func118 rfl rfl rfl (A0 rfl) (A0 rfl) rfl fun w0 S0 => ?_
 refine Ar Ac rfl (qb rfl (qb rfl (qa rfl (Ae (Ar Ac rfl (qL Dv Ci rfl (qL CM Bc rfl ?_)))))))
 refine BR h fun v1 a1 h => AC [2001] (MQ N p0 p1 v1 a1) cL rfl (D4 AP rfl (B9 rfl (qe rfl ?_)))
 obtain rfl := sj h
 refine Aj (sm [] [(4, bD (((v1.length : Int) == 0)))] [] rfl rfl) (Aw ?_)
 exact ⟨⟨[_], ⟨.tmp _ _ rfl, tv⟩, rfl⟩, tv⟩
theorem I2 (N : Nat) (p0 : Ad) (p1 : Ag) (r : Bool) (h : D8 N p0 p1 = some r) : Ax Tryz.prog 84 [.e (.agg (Ak p0)), .e (.agg (AQ p1))] [] (bD r) := by
 unfold D8 at h
 refine Am (n := 22) (rs := [.tmp 4]) Tryz.func84 rfl rfl rfl (A0 rfl) (A0 rfl) rfl fun w0 S0 => ?_
 refine Ar Ac rfl (qb rfl (qb rfl (qa rfl (Ae (Ar Ac rfl (qL CM Bc rfl ?_))))))
 refine BR h fun v1 a1 h => AC [2001] (Og N p1 v1 a1) cG rfl (qa rfl (Ae (Ao (Ar Ac rfl (qe rfl ?_)))))
 refine AA (L := CL N p0 v1) h (fun v2 => mk [(2, oD (.ptr 2 0)), (5, oD (.own 2002)), (6, iD v2)] [(2, .box (Ak p0)), (2002, .vec 3 (v1.map F0))]) (fun v3 => mk [] []) (fun _ _ => rfl) (sm [(2002, 2001)] _ _ rfl rfl) (fun j2 n2 v2 h => ?_) (fun v3 s h hs => ?_)
 ·unfold CL at h
  refine Ao (Ar Ac rfl (qm rfl (qm rfl (D4 K2 rfl (AY rfl (Ae ?_))))))
  refine Ba h rfl (fun h => ?_) fun h => ?_
  ·refine An (Ao (AJ (Ar Ac rfl (qL Dv Ci rfl (qm rfl (qm rfl ?_))))))
   refine Bb h fun v5 a5 b5 h => qI K2 Bc a5 (Af b5) rfl (qJ CM Bc (Af b5) rfl ?_)
   refine BR h fun v6 a6 h => AC [] (L8 N p0 v5 v6 a6) cm rfl (CO rfl (AI (by kernel_rfl) ?_))
   refine Ba h rfl (fun h => ?_) fun h => ?_
   ·refine Ar Ac rfl (qe rfl ?_)
    obtain rfl := sj h
    refine Aj (sm [] [(4, bD false)] [] rfl rfl) (Aw ?_)
    exact ⟨⟨[_], ⟨.tmp _ _ rfl, tv⟩, rfl⟩, tv⟩
   ·refine An (Ai Ac rfl (qm rfl (AV rfl (qe rfl ?_))))
    exact sn [] h
  ·refine AT ?_
   exact sn [] h
 ·refine Aj hs (Ar Ac rfl (qe rfl ?_))
  obtain rfl := sj h
  refine Aj (sm [] [(4, bD true)] [] rfl rfl) (Aw ?_)
  exact ⟨⟨[_], ⟨.tmp _ _ rfl, tv⟩, rfl⟩, tv⟩
end Go.Lift
