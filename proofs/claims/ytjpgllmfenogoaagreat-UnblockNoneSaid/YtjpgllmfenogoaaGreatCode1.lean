/- Lemmas for UnblockNoneSaid, which YtjpgllmfenogoaaGreatFinU3 proves. -/
import Derived.Test.YtjpgllmfenogoaaGreatLift35
import Derived.Test.YtjpgllmfenogoaaGreatProg
import Derived.KernelRfl
namespace Go.Lift
open Go.RowKit
variable {P : Program} {X : Kh} {ops : Array Oper}
theorem Ry {st : St} (b c : Nat) {e ix k e2 : Nat} {cols cols2 : List Ow} {rows rows2 rows' : List (List T)} {row : List T} (hb : st.bx b = some (.hol e cols ix k c rows)) (hc : st.bx c = some (inner e2 cols2 rows2)) (hcol : cols.getD k .s = .x e2 cols2) (hrow : rows[ix]? = some row)
  (hbl : BF b = false) (hcl : BF c = false) (hr : rows.set ix (row.set k (.sl rows2)) = rows') : G6 P X st ⟨st.env, Bm st.bx [(b, .dvec e cols rows'), (c, .gone)]⟩ := by
 have hcb : c ≠ b := fun e' => by rw [e', hb] at hc; unfold inner at hc; split at hc <;> cases hc
 subst hr
 rintro a w ⟨G, hs⟩
 obtain ⟨β, cap, arr, el, Rf, hβ, h1, h2, h3, h4, h5, h6, h7, h8, h9, h10, h11⟩ := hs.blk b _ hb
 have hX := Nk (hs.blk c _ hc)
 have hre := h5 ix row hrow
 let G' : Gh := { G with more := fun d => if d = b then (fun γ => G.more b γ ∨ G.has c γ) else G.more d }
 have hcβ : ∀ γ, G.has c γ → γ ≠ β := fun γ h e' => hcb (hs.at_inj c b _ _ γ hc hb Dk rfl h (.inl (e' ▸ hβ)))
 have hbx : ∀ d, Bm st.bx [(b, .dvec e cols (rows.set ix (row.set k (.sl rows2)))), (c, .gone)] d = if d = b then some (.dvec e cols (rows.set ix (row.set k (.sl rows2)))) else if d = c then some .gone else st.bx d := fun d => rfl
 have hasO : ∀ d γ, d ≠ b → (G'.has d γ ↔ G.has d γ) := fun d γ h => by unfold Gh.has; simp only [G', if_neg h]
 have hasB : ∀ γ, G'.has b γ → G.has b γ ∨ G.has c γ := fun γ h => by
  unfold Gh.has at h
  simp only [G', if_true] at h
  rcases h with h | h | h
  ·exact .inl (.inl h)
  ·exact .inl (.inr h)
  ·exact .inr h
 refine ⟨G', ?_⟩
 refine hs.frame2 (fun d hd => ?_) (fun _ h => h) (fun _ _ => rfl) (fun _ _ => rfl) (fun _ _ => rfl) ?_ ?_ ?_ hs.S_lt hs.S_src hs.below (fun d hd => ?_)
 ·rw [hbx]; split
  ·rfl
  ·split
   ·rfl
   ·exact hd
 ·intro d kk hd
  rw [hbx] at hd
  split at hd
  ·rename_i e1; subst e1; cases hd
   refine .inr ⟨.inr ⟨β, cap, arr, el, fun i0 j0 γ => if i0 = ix ∧ j0 = k then G.has c γ else Rf i0 j0 γ, hβ, by rw [List.length_set]; exact h1, h2, by rw [List.length_set]; exact h3, h4, ?_, ?_, ?_, ?_, ?_⟩, fun c' hc' => by cases hc'⟩
   ·intro j0 row' hj
    rcases Fi hj with ⟨_, rfl⟩ | ⟨_, hj⟩
    ·rw [List.length_set]; exact hre
    ·exact h5 j0 row' hj
   ·intro i0 row' j0 t0 hi hj
    have hj0 : j0 < e := by
     have := AC hj
     rcases Fi hi with ⟨_, rfl⟩ | ⟨_, hi⟩
     ·rw [List.length_set] at this; omega
     ·have := h5 i0 row' hi; omega
    by_cases hh : i0 = ix ∧ j0 = k
    ·obtain ⟨rfl, rfl⟩ := hh
     rw [hcol]
     have ht0 : t0 = .sl rows2 := by
      rcases Fi hi with ⟨_, rfl⟩ | ⟨hne, _⟩
      ·rcases Fi hj with ⟨_, rfl⟩ | ⟨hne, _⟩
       ·rfl
       ·exact (hne rfl).elim
      ·exact (hne rfl).elim
     subst ht0
     rw [h10]
     exact hX.mono (fun _ _ => rfl) (fun _ h => h) (fun γ hγ => by simp only [and_self, if_true]; exact hγ)
    ·have hold : ∃ row0, rows[i0]? = some row0 ∧ row0[j0]? = some t0 := by
      rcases Fi hi with ⟨hii, rfl⟩ | ⟨_, hi⟩
      ·subst hii
       rcases Fi hj with ⟨hjj, _⟩ | ⟨_, hj⟩
       ·exact (hh ⟨rfl, hjj⟩).elim
       ·exact ⟨row, hrow, hj⟩
      ·exact ⟨row', hi, hj⟩
     obtain ⟨row0, q1, q2⟩ := hold
     exact (h6 i0 row0 j0 t0 q1 q2 hh).mono (fun _ _ => rfl) (fun _ h => h) (fun γ hγ => by simp only [if_neg hh]; exact hγ)
   ·intro i0 j0 γ hγ
    simp only [G', if_true]
    split at hγ
    ·exact .inr hγ
    ·exact .inl (h7 i0 j0 γ hγ)
   ·intro i0 j0 hγ
    split at hγ
    ·exact hcβ β hγ rfl
    ·exact h8 i0 j0 hγ
   ·intro i0 j0 i1 j1 γ hγ hγ'
    have cross : ∀ i j, Rf i j γ → G.has c γ → False := fun i j hr hh => hcb (hs.at_inj c d _ _ γ hc hb Dk rfl hh (.inr (h7 i j γ hr)))
    split at hγ <;> split at hγ'
    ·rename_i q q'; exact ⟨q.1.trans q'.1.symm, q.2.trans q'.2.symm⟩
    ·exact (cross _ _ hγ' hγ).elim
    ·exact (cross _ _ hγ hγ').elim
    ·exact h9 i0 j0 i1 j1 γ hγ hγ'
  ·rename_i e1
   split at hd
   ·cases hd; exact .inr ⟨trivial, fun c' hc' => by cases hc'⟩
   ·rename_i e2'
    exact .inl ⟨hd, by simp only [G', if_neg e1], fun _ _ _ => rfl⟩
 ·intro d kk γ hd hr hγ
  rw [hbx] at hd
  split at hd
  ·rename_i e1; subst e1
   rcases hasB γ hγ with h | h
   ·exact hs.at_ok d _ γ hb rfl h
   ·have := hs.at_ok c _ γ hc Dk h
    exact ⟨.new (this.1.1 hcl), this.2⟩
  ·rename_i e1
   split at hd
   ·cases hd; cases hr
   ·exact hs.at_ok d kk γ hd hr ((hasO d γ e1).1 hγ)
 ·intro d d' kk kk' γ hd hd' hr hr' hγ hγ'
  rw [hbx] at hd hd'
  have cl : ∀ d kk, (if d = b then some (BI.dvec e cols (rows.set ix (row.set k (.sl rows2)))) else if d = c then some .gone else st.bx d) = some kk → kk.real = true → G'.has d γ → (d = b ∧ (G.has b γ ∨ G.has c γ)) ∨ (d ≠ b ∧ d ≠ c ∧ st.bx d = some kk ∧ G.has d γ) := by
   intro d kk hd hr hγ
   split at hd
   ·rename_i e1; subst e1; exact .inl ⟨rfl, hasB γ hγ⟩
   ·rename_i e1
    split at hd
    ·cases hd; cases hr
    ·rename_i e2'; exact .inr ⟨e1, e2', hd, (hasO d γ e1).1 hγ⟩
  rcases cl d kk hd hr hγ with ⟨q1, q2⟩ | ⟨q1, q2, q3, q4⟩ <;> rcases cl d' kk' hd' hr' hγ' with ⟨q1', q2'⟩ | ⟨q1', q2', q3', q4'⟩
  ·rw [q1, q1']
  ·rcases q2 with h | h
   ·exact (q1' (hs.at_inj d' b _ _ γ q3' hb hr' rfl q4' h)).elim
   ·exact (q2' (hs.at_inj d' c _ _ γ q3' hc hr' Dk q4' h)).elim
  ·rcases q2' with h | h
   ·exact (q1 (hs.at_inj d b _ _ γ q3 hb hr rfl q4 h)).elim
   ·exact (q2 (hs.at_inj d c _ _ γ q3 hc hr Dk q4 h)).elim
  ·exact hs.at_inj d d' kk kk' γ q3 q3' hr hr' q4 q4'
 ·have e1 : d ≠ b := fun e' => by rw [e', hbl] at hd; cases hd
  refine ⟨rfl, rfl, ?_⟩
  simp only [G', if_neg e1]
section run
variable {dr : Bool} {Q : St → Prop} {r i : Nat} {st : St} {log : List (Nat × DC)} {o : Oper} {gs : List (Operand × D)}
def WT (bx : Nat → Option BI) : C → Ow → T → Prop
 | .pure u, .s, t => u = t
 | .own c, .x e2 cols2, .sl rows2 => bx c = some (inner e2 cols2 rows2)
 | _, _, _ => False
def UU (bx : Nat → Option BI) : Nat → List Ow → List C → List T → Prop
 | _, _, [], [] => True
 | j, cols, c :: cs, t :: ts => WT bx c (cols.getD j .s) t ∧ UU bx (j + 1) cols cs ts
 | _, _, _, _ => False
def PF : Nat → List Ow → List C → List T → List (Nat × BI)
 | j, cols, .own c :: cs, .sl rows2 :: ts => (match cols.getD j .s with | .x e2 cols2 => [(c, inner e2 cols2 rows2)] | .s => []) ++ PF (j + 1) cols cs ts
 | j, cols, _ :: cs, _ :: ts => PF (j + 1) cols cs ts
 | _, _, _, _ => []
theorem PG {bx : Nat → Option BI} {cols : List Ow} : ∀ {cs : List C} {ts : List T} {j0 : Nat}, UU bx j0 cols cs ts → cs.length = ts.length ∧ ∀ (j : Nat) (c : C) (t : T), cs[j]? = some c → ts[j]? = some t → WT bx c (cols.getD (j0 + j) .s) t
 | [], [], _, _ => ⟨rfl, fun j c t h => by simp at h⟩
 | c :: cs, t :: ts, j0, h => by
  obtain ⟨g1, g2⟩ := PG h.2
  refine ⟨by simp [g1], fun j c' t' hc ht => ?_⟩
  cases j with
  | zero => simp at hc ht; subst hc; subst ht; exact h.1
  | succ j =>
   have := g2 j c' t' (by simpa using hc) (by simpa using ht)
   rwa [show j0 + 1 + j = j0 + (j + 1) from by omega] at this
end run
end Go.Lift
namespace Go.Lift
open List renaming mem_of_getElem? → lM
open Go.RowKit
variable {P : Program} {X : Kh} {ops : Array Oper}
theorem Xi {e : Nat} {arr : Array Value} {v : Value} (ha : arr.size = 1 * e) (hv : v.cells.size = e) :
  ∃ arr', Instr.fill (fun i => some (i * e, e)) arr [(0, v)] = some arr' ∧ arr'.size = 1 * e ∧ ∀ j, j < e → Az arr' j = Az v.cells j := by
 refine ⟨Gg arr 0 v.cells.toList, ?_, by rw [Gv, ha], fun j hj => ?_⟩
 ·simp only [Instr.fill]
  rw [if_neg (by simp; omega), Mq]
  simp
 ·rw [Fd _ _ _ _ (by simp; omega), if_pos (by simp; omega), Ga, Nat.sub_zero]
theorem Wy {bx : Nat → Option BI} {c : C} {o : Ow} {t : T} (h : WT bx c o t) : (∃ u, c = .pure u ∧ o = .s ∧ t = u) ∨ ∃ b e2 cols2 rows2, c = .own b ∧ o = .x e2 cols2 ∧ t = .sl rows2 ∧ bx b = some (inner e2 cols2 rows2) := by
 cases c with
 | pure u =>
  cases o with
  | s => exact .inl ⟨u, rfl, rfl, h.symm⟩
  | x e cols => exact h.elim
 | own b =>
  cases o with
  | s => exact h.elim
  | x e cols =>
   cases t with
   | sl rows2 => exact .inr ⟨b, e, cols, rows2, rfl, rfl, rfl, h⟩
   | _ => exact h.elim
 | _ => cases o <;> exact h.elim
section run
variable {dr : Bool} {Q : St → Prop} {r i : Nat} {st : St} {log : List (Nat × DC)} {o : Oper} {gs : List (Operand × D)}
def Ev : List C → List Nat
 | [] => []
 | .own c :: cs => c :: Ev cs
 | _ :: cs => Ev cs
theorem HD {b : Nat} : ∀ {cs : List C}, b ∈ Ev cs ↔ .own b ∈ cs
 | [] => by simp [Ev]
 | c :: cs => by
  cases c <;> simp [Ev, HD (cs := cs)]
theorem O2 : ∀ {cs : List C}, (Ev cs).Nodup → ∀ (j j' b : Nat), cs[j]? = some (.own b) → cs[j']? = some (.own b) → j = j'
 | [], _, j, j', b, h, _ => by simp at h
 | c :: cs, hn, j, j', b, h, h' => by
  have hn2 : (Ev cs).Nodup := by
   cases c <;> simp only [Ev] at hn <;> first | exact hn | exact (List.nodup_cons.1 hn).2
  have hnot : c = .own b → .own b ∉ cs := fun e hm => by
   subst e
   simp only [Ev] at hn
   exact (List.nodup_cons.1 hn).1 (HD.2 hm)
  cases j with
  | zero =>
   cases j' with
   | zero => rfl
   | succ j' =>
    simp at h h'
    exact (hnot h (lM h')).elim
  | succ j =>
   cases j' with
   | zero =>
    simp at h h'
    exact (hnot h' (lM h)).elim
   | succ j' =>
    rw [O2 hn2 j j' b (by simpa using h) (by simpa using h')]
theorem Jj {t el : TypeId} {s e : Nat} {z : Value} {y : Operand} {x : E} {cs : List C} {ts : List T} (cols : List Ow) (rb : List (Nat × BI)) {parts : Array (Nat × Operand)} (hat : At st.env ops i X.n (.buildSlice t 1 parts) s gs) (hps : parts = #[(0, y)])
  (hx : opd st.env y = some (.e x)) (hcs : x.cells = cs) (hlen : cs.length = e) (hrb : PF 0 cols cs ts = rb) (hb : IJ st.bx rb) (hcx : UU st.bx 0 cols cs ts) (hnew : st.bx s = none)
  (hnd : Jz (Ev cs) = true) (hnl : (Ev cs).all (fun c => !BF c) = true) (ht : sliceB P t el = true) (he : H0 P el e = true) (hz : Fn P el = some z) (hsm : e ≤ 16777216)
  (next : Bh P X ops dr Q r (i + 1) (DC.upd ⟨gs ++ [(y, .e x)], rb, some s, some (.e (.one (.own s))), (s, .dvec e cols [ts]) :: H2 (Ev cs), [s]⟩ st) ((i, ⟨gs ++ [(y, .e x)], rb, some s, some (.e (.one (.own s))), (s, .dvec e cols [ts]) :: H2 (Ev cs), [s]⟩) :: log)) : Bh P X ops dr Q (r + 1) i st log := by
 obtain ⟨o, ho, hop, hdst, hn, hg, hgp⟩ := hat.out
 have hndp := Jp hnd
 refine Bh.step next ⟨Aq.2 ⟨hgp, hx, trivial⟩, hb, hnew, trivial⟩ (LR.value ho hg rfl hdst.symm (DN hdst hn) ?_)
 have hcx0 := PG hcx
 intro G st' a w hs hpre
 have hx := (Aq.1 hpre.r).2.1
 have hnew := hpre.n.1
 have hb := hpre.b
 have hpb : ∀ {l : List (Nat × BI)}, IJ st'.bx l → ∀ p, p ∈ l → st'.bx p.1 = some p.2 := by
  intro l
  induction l with
  | nil => intro _ p hp; cases hp
  | cons q l ih =>
   intro h p hp
   rcases List.mem_cons.1 hp with e | e
   ·subst e; exact h.1
   ·exact ih h.2 p e
 -- what each cell is, in this state
 have hown : ∀ (j : Nat) (c : C) (u : T), cs[j]? = some c → ts[j]? = some u → (∃ v, c = .pure v ∧ cols.getD j .s = .s ∧ u = v) ∨ ∃ b e2 cols2 rows2, c = .own b ∧ cols.getD j .s = .x e2 cols2 ∧ u = .sl rows2 ∧ st'.bx b = some (inner e2 cols2 rows2) := by
  intro j c u hc hu
  have h1 := hcx0.2 j c u hc hu
  rw [Nat.zero_add] at h1
  rcases Wy h1 with h2 | ⟨b, e2, cols2, rows2, rfl, h3, rfl, _⟩
  ·exact .inl h2
  ·refine .inr ⟨b, e2, cols2, rows2, rfl, h3, rfl, ?_⟩
   have hmem : ∀ (cs : List C) (ts : List T) (j0 j : Nat), cs[j]? = some (.own b) → ts[j]? = some (.sl rows2) → cols.getD (j0 + j) .s = .x e2 cols2 → (b, inner e2 cols2 rows2) ∈ PF j0 cols cs ts := by
    intro cs
    induction cs with
    | nil => intro ts j0 j h; simp at h
    | cons c cs ih =>
     intro ts j0 j h h' hcol
     cases ts with
     | nil => simp at h'
     | cons t ts =>
      cases j with
      | zero =>
       simp at h h'; subst h; subst h'
       rw [Nat.add_zero] at hcol
       simp only [PF, hcol]
       exact List.mem_append_left _ (by simp)
      | succ j =>
       have := ih ts (j0 + 1) j (by simpa using h) (by simpa using h') (by rwa [show j0 + 1 + j = j0 + (j + 1) from by omega])
       cases c <;> first | (simp only [PF]; exact this) | (cases t <;> simp only [PF] <;> first | exact this | exact List.mem_append_right _ this)
   have := hmem cs ts 0 j hc hu (by rw [Nat.zero_add]; exact h3)
   rw [hrb] at this
   exact hpb hb _ this
 obtain ⟨hcsz, hcr⟩ := (show JF P w G (a.eval y) x from hs.opd hx).cells
 rw [hcs] at hcsz hcr
 have hve : (a.eval y).cells.size = e := by rw [hcsz, hlen]
 have hgn : ∀ c, c ∈ Ev cs → ∃ (j e2 : Nat) (cols2 : List Ow) (rows2 : List (List T)), cs[j]? = some (.own c) ∧ cols.getD j .s = .x e2 cols2 ∧ st'.bx c = some (inner e2 cols2 rows2) := by
  intro c hc
  obtain ⟨j, hj⟩ := List.mem_iff_getElem?.1 (HD.1 hc)
  have hjt : j < ts.length := by rw [← hcx0.1]; exact AC hj
  rcases hown j _ ts[j] hj (by simp [hjt]) with ⟨v, h, _⟩ | ⟨b, e2, cols2, rows2, h1, h2, _, h4⟩
  ·cases h
  ·cases h1; exact ⟨j, e2, cols2, rows2, hj, h2, h4⟩
 have hs0 : s ∉ Ev cs := fun hm => by
  obtain ⟨_, _, _, _, _, _, h⟩ := hgn s hm
  rw [hnew] at h; cases h
 obtain ⟨arr', r1, r2, r3⟩ := Xi (e := e) (arr := (Array.range (1 * e)).map (fun k => (if 1 * e = 0 then (#[] : Array Value) else z.cells)[k % (if 1 * e = 0 then (#[] : Array Value) else z.cells).size]!)) (v := a.eval y) (by simp) hve
 let w' := w.alloc (.cells arr' el)
 let G' : Gh := { S := G.S, loc := fun c => if c = s then some w.heap.size else G.loc c, hd := fun c => if c = s then .slice (some ⟨w.heap.size, 0, none⟩) 1 1 else G.hd c, more := fun c => if c = s then (fun γ => ∃ b, b ∈ Ev cs ∧ G.has b γ) else G.more c }
 have hheap : ∀ γ, γ < w.heap.size → w'.heap[γ]? = w.heap[γ]? := fun γ hγ => by show (w.alloc _).heap[γ]? = _; rw [DS, if_neg (by omega)]
 have hatw : w'.heap[w.heap.size]? = some (.cells arr' el) := by show (w.alloc _).heap[_]? = _; rw [DS, if_pos rfl]
 have hsz : w'.heap.size = w.heap.size + 1 := by show (w.heap.push _).size = _; simp
 have hbx : ∀ d, Bm st'.bx ((s, .dvec e cols [ts]) :: H2 (Ev cs)) d = if d = s then some (.dvec e cols [ts]) else if d ∈ Ev cs then some .gone else st'.bx d := fun d => by
  simp only [Bm]; split
  ·rfl
  ·exact LQ
 have hsome : ∀ c, (st'.bx c).isSome = true → c ≠ s := fun c hc e => by rw [e, hnew] at hc; cases hc
 have hasO : ∀ d γ, d ≠ s → (G'.has d γ ↔ G.has d γ) := fun d γ h => by unfold Gh.has; simp only [G', if_neg h]
 have hasS : ∀ γ, G'.has s γ → γ = w.heap.size ∨ ∃ b, b ∈ Ev cs ∧ G.has b γ := fun γ h => by
  unfold Gh.has at h
  simp only [G', if_true] at h
  rcases h with h | h
  ·cases h; exact .inl rfl
  ·exact .inr h
 have hlt : ∀ b γ, b ∈ Ev cs → G.has b γ → PD X b γ ∧ γ < w.heap.size ∧ ¬ G.S γ := fun b γ hbm hγ => by
  obtain ⟨_, _, _, _, _, _, h⟩ := hgn b hbm
  exact hs.at_ok b _ γ h Dk hγ
 have hcsj : ∀ (j : Nat) (c : C), cs[j]? = some c → FQ P w G (Az (a.eval y).cells j) c := hcr
 have key : D5 P X G' ⟨st'.env, Bm st'.bx ((s, .dvec e cols [ts]) :: H2 (Ev cs))⟩ a w' := by
  refine hs.frame2 (fun d hd => ?_) (fun _ h => h) (fun c hc => by simp only [G']; rw [if_neg (hsome c hc)]) (fun c hc => by simp only [G']; rw [if_neg (hsome c hc)]) (fun γ hγ => hheap γ (hs.S_lt γ hγ)) ?_ ?_ ?_ (fun γ hγ => by have := hs.S_lt γ hγ; omega) hs.S_src (hs.below.alloc hs.below.size _) (fun d hd => ?_)
  ·rw [hbx]; split
   ·rfl
   ·split
    ·rfl
    ·exact hd
  ·intro d kk hd
   rw [hbx] at hd
   split at hd
   ·rename_i e1; subst e1; cases hd
    refine .inr ⟨.inr ⟨w.heap.size, 1, arr', el, fun i0 j0 γ => i0 = 0 ∧ ∃ b, cs[j0]? = some (.own b) ∧ G.has b γ, by simp [G'], by simp [G'], hatw, by simp, r2, ?_, ?_, ?_, ?_, ?_⟩, fun c' hc' => by cases hc'⟩
    ·intro i0 row hi
     cases i0 with
     | zero => simp at hi; subst hi; rw [← hcx0.1, hlen]
     | succ i0 => simp at hi
    ·intro i0 row j0 t0 hi hj
     cases i0 with
     | succ i0 => simp at hi
     | zero =>
      simp at hi; subst hi
      have hj0 : j0 < cs.length := by rw [hcx0.1]; exact AC hj
      have hcj : cs[j0]? = some cs[j0] := by simp [hj0]
      rw [Nat.zero_mul, Nat.zero_add, r3 j0 (by omega)]
      have hR := hcsj j0 _ hcj
      rcases hown j0 _ t0 hcj hj with ⟨v, h1, h2, h3⟩ | ⟨b, e2, cols2, rows2, h1, h2, h3, h4⟩
      ·rw [h2, h3]
       rw [h1] at hR
       exact .s ((show EF w G.S _ v from hR).mono (fun γ hγ => hheap γ (hs.S_lt γ hγ)) fun _ h => h)
      ·rw [h2, h3]
       rw [h1] at hR hcj
       have hvv : Az (a.eval y).cells j0 = G.hd b := hR.1
       rw [hvv]
       refine (Nk (hs.blk b _ h4)).mono (fun γ hγ => hheap γ ?_) (fun _ h => h) (fun γ hγ => ⟨rfl, b, hcj, hγ⟩)
       rcases hγ with h | h
       ·exact hs.S_lt γ h
       ·exact (hs.at_ok b _ γ h4 Dk h).2.1
    ·rintro i0 j0 γ ⟨_, b, hcb, hγ⟩
     simp only [G', if_true]
     exact ⟨b, HD.2 (lM hcb), hγ⟩
    ·rintro i0 j0 ⟨_, b, hcb, hγ⟩
     exact Nat.lt_irrefl _ (hlt b _ (HD.2 (lM hcb)) hγ).2.1
    ·rintro i0 j0 i1 j1 γ ⟨q0, b, hcb, hγ⟩ ⟨q1, b', hcb', hγ'⟩
     refine ⟨q0.trans q1.symm, ?_⟩
     obtain ⟨_, _, _, _, _, _, k1⟩ := hgn b (HD.2 (lM hcb))
     obtain ⟨_, _, _, _, _, _, k2⟩ := hgn b' (HD.2 (lM hcb'))
     have := hs.at_inj b b' _ _ γ k1 k2 Dk Dk hγ hγ'
     subst this
     exact O2 hndp _ _ b hcb hcb'
   ·rename_i e1
    split at hd
    ·cases hd; exact .inr ⟨trivial, fun c' hc' => by cases hc'⟩
    ·exact .inl ⟨hd, by simp only [G', if_neg e1], fun γ hr hγ => hheap γ (hs.at_ok d kk γ hd hr hγ).2.1⟩
  ·intro d kk γ hd hr hγ
   rw [hbx] at hd
   split at hd
   ·rename_i e1; subst e1
    rcases hasS γ hγ with h | ⟨b, hbm, h⟩
    ·subst h
     exact ⟨.new hs.below.size, by omega, fun h => Nat.lt_irrefl _ (hs.S_lt _ h)⟩
    ·have := hlt b γ hbm h
     have hbl : BF b = false := by
      have := List.all_eq_true.1 hnl b hbm
      simpa using this
     exact ⟨.new (this.1.1 hbl), by omega, this.2.2⟩
   ·rename_i e1
    split at hd
    ·cases hd; cases hr
    ·have := hs.at_ok d kk γ hd hr ((hasO d γ e1).1 hγ)
     exact ⟨this.1, by omega, this.2.2⟩
  ·intro d d' kk kk' γ hd hd' hr hr' hγ hγ'
   rw [hbx] at hd hd'
   have cl : ∀ d kk, (if d = s then some (BI.dvec e cols [ts]) else if d ∈ Ev cs then some .gone else st'.bx d) = some kk → kk.real = true → G'.has d γ → (d = s ∧ (γ = w.heap.size ∨ ∃ b, b ∈ Ev cs ∧ G.has b γ)) ∨ (d ≠ s ∧ d ∉ Ev cs ∧ st'.bx d = some kk ∧ G.has d γ) := by
    intro d kk hd hr hγ
    split at hd
    ·rename_i e1; subst e1; exact .inl ⟨rfl, hasS γ hγ⟩
    ·rename_i e1
     split at hd
     ·cases hd; cases hr
     ·rename_i e2'; exact .inr ⟨e1, e2', hd, (hasO d γ e1).1 hγ⟩
   have cross : ∀ d kk, d ∉ Ev cs → st'.bx d = some kk → kk.real = true → G.has d γ → (γ = w.heap.size ∨ ∃ b, b ∈ Ev cs ∧ G.has b γ) → False := by
    intro d kk hdm hd hr hγ h
    rcases h with h | ⟨b, hbm, h⟩
    ·have := (hs.at_ok d kk γ hd hr hγ).2.1; omega
    ·obtain ⟨_, _, _, _, _, _, k1⟩ := hgn b hbm
     exact hdm (hs.at_inj d b _ _ γ hd k1 hr Dk hγ h ▸ hbm)
   rcases cl d kk hd hr hγ with ⟨q1, q2⟩ | ⟨q1, q2, q3, q4⟩ <;> rcases cl d' kk' hd' hr' hγ' with ⟨q1', q2'⟩ | ⟨q1', q2', q3', q4'⟩
   ·rw [q1, q1']
   ·exact (cross d' kk' q2' q3' hr' q4' q2).elim
   ·exact (cross d kk q2 q3 hr q4 q2').elim
   ·exact hs.at_inj d d' kk kk' γ q3 q3' hr hr' q4 q4'
  ·have e1 : d ≠ s := fun e' => by rw [e', hs.nl hn] at hd; cases hd
   refine ⟨?_, ?_, ?_⟩ <;> simp only [G', if_neg e1]
 refine ⟨.slice (some ⟨w.heap.size, 0, none⟩) 1 1, w', G', ?_, key, ?_⟩
 ·simp only [execOp, hop, hps]
  refine Am (w1 := w') (a := .slice (some ⟨w.heap.size, 0, none⟩) 1 1) ?_ rfl
  have hpa : ((#[(0, y)] : Array (Nat × Operand)).map fun (i, x) => (i, a.eval x)) = #[(0, a.eval y)] := by simp
  unfold sliceB at ht
  split at ht
  ·rename_i e' hu
   have : e' = el := by simpa using ht
   subst this
   rw [hpa]
   unfold Instr.buildSlice
   refine Am (AS hu w) ?_
   refine Am (E8 he w) ?_
   rw [if_neg (by omega)]
   by_cases hne : 1 * e = 0
   ·rw [if_pos hne] at r1
    rw [if_pos hne]
    refine Am (a := (#[] : Array Value)) (w1 := w) rfl ?_
    simp only [r1]
    rfl
   ·rw [if_neg hne] at r1
    rw [if_neg hne]
    refine Am (F8 hz w) ?_
    refine Am (a := z.cells) (w1 := w) rfl ?_
    simp only [r1]
    rfl
  ·cases ht
 ·rintro d ⟨⟩
  refine ⟨⟨by simp [G'], _, _, _, rfl⟩, fun b hb => ?_⟩
  have : b = s := by simpa [D.names, E.names, C.names] using hb
  subst this
  rw [hbx, if_pos rfl]; rfl
end run
end Go.Lift
namespace Go.Lift
open Go.RowKit
variable {P : Program} {X : Kh} {ops : Array Oper}
theorem Pf {α : Type} (f : α → List T) (xs : List α) (n e : Nat) (cols : List Ow) : vl (.pvec n e cols (xs.map f)) = some (e, xs.length) := by simp [vl]
theorem Pr {st : St} (b : Nat) (k k' : BI) (hb : st.bx b = some k) (hr : k.real = true) (hn : k'.names = []) (h : ∀ (w : World) (G : Gh), Fo P w G b k → Fo P w G b k') : G6 P X st (St.setB st b k') := by
 rintro a w ⟨G, hs⟩
 refine ⟨G, hs.frame (bx' := (St.setB st b k').bx) ?_ ⟨fun _ h => h, fun _ _ => rfl, fun _ _ => rfl, fun _ _ => rfl⟩ (fun _ _ => rfl) ?_ ?_ ?_ hs.S_lt hs.S_src hs.below (fun _ _ => ⟨rfl, rfl, rfl⟩)⟩
 ·intro c hc; simp only [St.setB]; split <;> simp [hc]
 ·intro c kk hc
  simp only [St.setB] at hc
  split at hc
  ·rename_i e1; subst e1; cases hc
   exact .inr ⟨h w G (hs.blk c _ hb), fun c' hc' => by rw [hn] at hc'; cases hc'⟩
  ·exact .inl ⟨hc, fun _ _ _ => rfl⟩
 ·intro c kk β hc hr' hβ
  simp only [St.setB] at hc
  split at hc
  ·rename_i e1; subst e1; exact hs.at_ok _ _ β hb hr hβ
  ·exact hs.at_ok c kk β hc hr' hβ
 ·intro c c' kk kk' β hc hc' hr1 hr2 hβ hβ'
  simp only [St.setB] at hc hc'
  have old : ∀ c kk, (if c = b then some k' else st.bx c) = some kk → kk.real = true → ∃ k0, st.bx c = some k0 ∧ k0.real = true := by
   intro c kk hc hr'
   split at hc
   ·rename_i e1; subst e1; exact ⟨_, hb, hr⟩
   ·exact ⟨kk, hc, hr'⟩
  obtain ⟨k0, q1, q2⟩ := old c kk hc hr1
  obtain ⟨k0', q1', q2'⟩ := old c' kk' hc' hr2
  exact hs.at_inj c c' k0 k0' β q1 q1' q2 q2' hβ hβ'
theorem TF {st : St} (b e : Nat) (cols : List Ow) (rows : List (List T)) (hb : st.bx b = some (.vec e rows)) : G6 P X st (St.setB st b (.pvec 0 e cols rows)) :=
 Pr b _ _ hb rfl rfl fun _ _ h => ⟨Nat.zero_le _, h.imp id fun ⟨β, cap, arr, el, h0, h1, h2, h3, h4, h5, h6⟩ =>
  ⟨β, cap, arr, el, fun _ _ _ => False, h0, h1, h2, h3, h4, h5, fun i row j t hi hj => by rw [if_neg (by omega)]; exact .s (h6 i row j t hi hj), fun _ _ _ h => h.elim, fun _ _ h => h, fun _ _ _ _ _ h => h.elim⟩⟩
theorem Us {st : St} (b : Nat) {n m e : Nat} {cols : List Ow} {rows : List (List T)} (hb : st.bx b = some (.pvec n e cols rows)) (h : n = m) : G6 P X st (St.setB st b (.pvec m e cols rows)) :=
 Pr b _ _ hb rfl rfl fun _ _ hk => h ▸ hk
theorem TN {st : St} (b : Nat) {n e : Nat} {cols : List Ow} {rows : List (List T)} (hb : st.bx b = some (.pvec n e cols rows)) (h : n = rows.length) : G6 P X st (St.setB st b (.dvec e cols rows)) :=
 Pr b _ _ hb rfl rfl fun _ _ hk => by
  obtain ⟨_, hk⟩ := hk
  refine hk.imp id fun ⟨β, cap, arr, el, Rf, h0, h1, h2, h3, h4, h5, h6, h7⟩ => ⟨β, cap, arr, el, Rf, h0, h1, h2, h3, h4, h5, fun i row j t hi hj => ?_, h7⟩
  have := h6 i row j t hi hj
  rwa [if_pos (by rw [h]; exact AC hi)] at this
section run
variable {dr : Bool} {Q : St → Prop} {r i : Nat} {st : St} {log : List (Nat × DC)} {o : Oper} {gs : List (Operand × D)}
theorem T6 {x : Operand} {b n e ix k s : Nat} {cols : List Ow} {rows : List (List T)} {row : List T} {u : T} {t : TypeId} (hat : At st.env ops i X.n (.load t x) s gs)
  (hx : opd st.env x = some (.e (.one (.eptr b e ix k)))) (ht : F5 P t false = true) (hb : st.bx b = some (.pvec n e cols rows)) (hrow : rows[ix]? = some row) (hc : row[k]? = some u) (hn : n ≤ ix)
  (next : Bh P X ops dr Q r (i + 1) (DC.upd ⟨gs ++ [(x, .e (.one (.eptr b e ix k)))], [(b, .pvec n e cols rows)], some s, some (one u), [], []⟩ st) ((i, ⟨gs ++ [(x, .e (.one (.eptr b e ix k)))], [(b, .pvec n e cols rows)], some s, some (one u), [], []⟩) :: log)) : Bh P X ops dr Q (r + 1) i st log := by
 obtain ⟨o, ho, hop, hd, hn', hg, hgp⟩ := hat.out
 refine Bh.step next ⟨Aq.2 ⟨hgp, hx, trivial⟩, ⟨hb, trivial⟩, trivial⟩ (LR.value ho hg rfl hd.symm (DN hd hn') ?_)
 intro G st a w hs hpre
 have hx := (Aq.1 hpre.r).2.1
 have hb := hpre.b.1
 obtain ⟨β, hβ, hv⟩ : FQ P w G (a.eval x) (.eptr b e ix k) := hs.opd hx
 obtain ⟨_, hbk⟩ := hs.blk b _ hb
 obtain ⟨β', cap, arr, el, Rf, h0, h1, h2, h3, h4, h5, h6, h7⟩ := hbk.resolve_left (fun ⟨_, _, h, _⟩ => by rw [h] at hrow; cases hrow)
 rw [hβ] at h0; cases h0
 have hre := h5 ix row hrow
 have hk := AC hc
 have hix := AC hrow
 have hbnd : ix * e + e ≤ arr.size := by rw [h4, ← Nat.succ_mul]; exact Nat.mul_le_mul_right e (Nat.le_trans hix h3)
 have hcell := h6 ix row k u hrow hc
 rw [if_neg (by omega)] at hcell
 refine ⟨Az arr (ix * e + k), w, G, ?_, hs, ?_⟩
 ·simp only [execOp, hop, hv]
  exact Am (Jn ht h2 (by omega)) rfl
 ·rintro d ⟨⟩
  cases hcell with
  | s h => exact ⟨h, fun b hb => by cases hb⟩
theorem Re {x y : Operand} {b c n ix e2 : Nat} {cols cols2 : List Ow} {rows rows2 rows' : List (List T)} {row : List T} {t : TypeId} (hat : QX ops i = some (.store t x y))
  (hx : opd st.env x = some (.e (.one (.eptr b 1 ix 0)))) (hy : opd st.env y = some (.e (.one (.own c)))) (hb : st.bx b = some (.pvec n 1 cols rows)) (hc : st.bx c = some (inner e2 cols2 rows2)) (hcol : cols.getD 0 .s = .x e2 cols2) (hrow : rows[ix]? = some row) (hixn : n = ix) (hz : H0 P t 1 = true)
  (hbl : BF b = false) (hcl : BF c = false) (hr : rows.set ix (row.set 0 (.sl rows2)) = rows')
  (next : Bh P X ops dr Q r (i + 1) (DC.upd ⟨[(x, .e (.one (.eptr b 1 ix 0))), (y, .e (.one (.own c)))], [(b, .pvec n 1 cols rows), (c, inner e2 cols2 rows2)], none, none, [(b, .pvec (n + 1) 1 cols rows'), (c, .gone)], []⟩ st) ((i, ⟨[(x, .e (.one (.eptr b 1 ix 0))), (y, .e (.one (.own c)))], [(b, .pvec n 1 cols rows), (c, inner e2 cols2 rows2)], none, none, [(b, .pvec (n + 1) 1 cols rows'), (c, .gone)], []⟩) :: log)) : Bh P X ops dr Q (r + 1) i st log := by
 obtain ⟨o, ho, hop, hd, hgn⟩ := Mt hat
 have hg : Wv ops o [] := .none hgn
 have hcb : c ≠ b := fun e' => by rw [e', hb] at hc; unfold inner at hc; split at hc <;> cases hc
 refine Bh.step next ⟨⟨hx, hy, trivial⟩, ⟨hb, hc, trivial⟩, trivial⟩ (LR.skip (rs := [(x, .e (.one (.eptr b 1 ix 0))), (y, .e (.one (.own c)))]) ho hg rfl hd rfl ?_)
 intro G st a w hs hpre
 obtain ⟨hx, hy, _⟩ := hpre.r
 obtain ⟨hb, hc, _⟩ := hpre.b
 subst hr
 obtain ⟨β, hβ, hv⟩ : FQ P w G (a.eval x) (.eptr b 1 ix 0) := hs.opd hx
 obtain ⟨hy1, pp, pn, pq, hy2⟩ : FQ P w G (a.eval y) (.own c) := hs.opd hy
 obtain ⟨hnl, hbk⟩ := hs.blk b _ hb
 obtain ⟨β', cap, arr, el, Rf, h0, h1, h2, h3, h4, h5, h6, h7, h8, h9⟩ := hbk.resolve_left (fun ⟨_, _, h, _⟩ => by rw [h] at hrow; cases hrow)
 rw [hβ] at h0; cases h0
 subst hixn
 have hX := Nk (hs.blk c _ hc)
 have hatb := hs.at_ok b _ β hb rfl (.inl hβ)
 have hre := h5 n row hrow
 have hix := AC hrow
 have hbnd : n * 1 + 1 ≤ arr.size := by rw [h4, ← Nat.succ_mul]; exact Nat.mul_le_mul_right 1 (Nat.le_trans hix h3)
 have hone : Iq (a.eval y) = true := by rw [hy2]; rfl
 have hst := E7 (P := P) (β := β) (el := el) [a.eval y] w (n * 1 + 0) 0 arr h2 (by simp; omega) (fun v hv => by simp at hv; subst hv; exact hone)
 rw [Nat.add_zero] at hst
 let G' : Gh := { G with more := fun d => if d = b then (fun γ => G.more b γ ∨ G.has c γ) else G.more d }
 let arr' := Gg arr (n * 1 + 0) [a.eval y]
 let w' := GF w β (.cells arr' el (0, 0))
 have hover : ∀ j, Az arr' j = if j = n * 1 + 0 then a.eval y else Az arr j := fun j => by
  show Az (Gg arr (n * 1 + 0) [a.eval y]) j = _
  rw [Fd _ _ _ _ (by simp; omega)]
  simp only [List.length_singleton]
  by_cases hj : j = n * 1 + 0
  ·subst hj; rw [if_pos (by omega), if_pos rfl]; simp
  ·rw [if_neg (by omega), if_neg hj]
 have hheap : ∀ γ, γ ≠ β → w'.heap[γ]? = w.heap[γ]? := fun γ hγ => by show (GF w β _).heap[γ]? = _; rw [Eg, if_neg (fun h => hγ h.1)]
 have hsz : w'.heap.size = w.heap.size := by show (GF w β _).heap.size = _; simp [GF]
 have hcβ : ∀ γ, G.has c γ → γ ≠ β := fun γ h e' => hcb (hs.at_inj c b _ _ γ hc hb Dk rfl h (.inl (e' ▸ hβ)))
 have hbx : ∀ d, Bm st.bx [(b, .pvec (n + 1) 1 cols (rows.set n (row.set 0 (.sl rows2)))), (c, .gone)] d = if d = b then some (.pvec (n + 1) 1 cols (rows.set n (row.set 0 (.sl rows2)))) else if d = c then some .gone else st.bx d := fun d => rfl
 have hasO : ∀ d γ, d ≠ b → (G'.has d γ ↔ G.has d γ) := fun d γ h => by unfold Gh.has; simp only [G', if_neg h]
 have hasB : ∀ γ, G'.has b γ → G.has b γ ∨ G.has c γ := fun γ h => by
  unfold Gh.has at h
  simp only [G', if_true] at h
  rcases h with h | h | h
  ·exact .inl (.inl h)
  ·exact .inl (.inr h)
  ·exact .inr h
 have hix2 : ∀ i0 j0, j0 < 1 → i0 * 1 + j0 = n * 1 + 0 → i0 = n ∧ j0 = 0 := by
  intro i0 j0 hj0 he
  rcases Nat.lt_trichotomy i0 n with h | h | h
  ·have : i0 * 1 + 1 ≤ n * 1 := by rw [← Nat.succ_mul]; exact Nat.mul_le_mul_right 1 h
   omega
  ·subst h; exact ⟨rfl, by omega⟩
  ·have : n * 1 + 1 ≤ i0 * 1 := by rw [← Nat.succ_mul]; exact Nat.mul_le_mul_right 1 h
   omega
 refine ⟨w', G', ?_, ?_⟩
 ·simp only [execOp, hop, hv]
  have hcells : (a.eval y).cells.toList = [a.eval y] := by rw [hy2]; rfl
  refine Am (a := ()) (w1 := w') ?_ rfl
  have := Kr (P := P) (n := 1) hz (v := a.eval y) (by rw [hy2]; rfl) h2 (show n * 1 + 0 + 1 ≤ arr.size by omega) (fun u hu => by rw [hcells] at hu; simp at hu; subst hu; exact hone)
  rw [hcells] at this
  exact this
 ·refine hs.frame2 (fun d hd => ?_) (fun _ h => h) (fun _ _ => rfl) (fun _ _ => rfl) (fun γ hγ => hheap γ fun e' => hatb.2.2 (e' ▸ hγ)) ?_ ?_ ?_ (fun γ hγ => by rw [hsz]; exact hs.S_lt γ hγ) hs.S_src (J9 hs.below hatb.1.2 _) (fun d hd => ?_)
  ·rw [hbx]; split
   ·rfl
   ·split
    ·rfl
    ·exact hd
  ·intro d kk hd
   rw [hbx] at hd
   split at hd
   ·rename_i e1; subst e1; cases hd
    refine .inr ⟨⟨by rw [List.length_set]; exact AC hrow, .inr ⟨β, cap, arr', el, fun i0 j0 γ => if i0 = n ∧ j0 = 0 then G.has c γ else Rf i0 j0 γ, hβ, by rw [List.length_set]; exact h1, by show (GF w β _).heap[β]? = _; rw [Eg, if_pos ⟨rfl, hatb.2.1⟩], by rw [List.length_set]; exact h3, by show (Gg _ _ _).size = _; rw [Gv, h4], ?_, ?_, ?_, ?_, ?_⟩⟩, fun c' hc' => by cases hc'⟩
    ·intro j0 row' hj
     rcases Fi hj with ⟨_, rfl⟩ | ⟨_, hj⟩
     ·rw [List.length_set]; exact hre
     ·exact h5 j0 row' hj
    ·intro i0 row' j0 t0 hi hj
     have hj0 : j0 < 1 := by
      have := AC hj
      rcases Fi hi with ⟨_, rfl⟩ | ⟨_, hi⟩
      ·rw [List.length_set] at this; omega
      ·have := h5 i0 row' hi; omega
     rw [hover]
     by_cases hh : i0 = n ∧ j0 = 0
     ·obtain ⟨rfl, rfl⟩ := hh
      rw [if_pos rfl, hcol]
      have ht0 : t0 = .sl rows2 := by
       rcases Fi hi with ⟨_, rfl⟩ | ⟨hne, _⟩
       ·rcases Fi hj with ⟨_, rfl⟩ | ⟨hne, _⟩
        ·rfl
        ·exact (hne rfl).elim
       ·exact (hne rfl).elim
      subst ht0
      rw [hy1, if_pos (Nat.lt_succ_self _)]
      refine hX.mono (fun γ hγ => hheap γ ?_) (fun _ h => h) (fun γ hγ => by simp only [and_self, if_true]; exact hγ)
      rcases hγ with h | h
      ·exact fun e' => hatb.2.2 (e' ▸ h)
      ·exact hcβ γ h
     ·rw [if_neg (fun h => hh (hix2 i0 j0 hj0 h))]
      have hold : ∃ row0, rows[i0]? = some row0 ∧ row0[j0]? = some t0 := by
       rcases Fi hi with ⟨hii, rfl⟩ | ⟨_, hi⟩
       ·subst hii
        rcases Fi hj with ⟨hjj, _⟩ | ⟨_, hj⟩
        ·exact (hh ⟨rfl, hjj⟩).elim
        ·exact ⟨row, hrow, hj⟩
       ·exact ⟨row', hi, hj⟩
      obtain ⟨row0, q1, q2⟩ := hold
      have hne : i0 ≠ n := fun e' => hh ⟨e', by omega⟩
      have hif : (if i0 < n + 1 then cols.getD j0 .s else .s) = if i0 < n then cols.getD j0 .s else .s := by
       by_cases hl : i0 < n
       ·rw [if_pos hl, if_pos (by omega)]
       ·rw [if_neg hl, if_neg (by omega)]
      rw [hif]
      refine (h6 i0 row0 j0 t0 q1 q2).mono (fun γ hγ => hheap γ ?_) (fun _ h => h) (fun γ hγ => by simp only [if_neg hh]; exact hγ)
      rcases hγ with h | h
      ·exact fun e' => hatb.2.2 (e' ▸ h)
      ·exact fun e' => h8 i0 j0 (e' ▸ h)
    ·intro i0 j0 γ hγ
     simp only [G', if_true]
     split at hγ
     ·exact .inr hγ
     ·exact .inl (h7 i0 j0 γ hγ)
    ·intro i0 j0 hγ
     split at hγ
     ·exact hcβ β hγ rfl
     ·exact h8 i0 j0 hγ
    ·intro i0 j0 i1 j1 γ hγ hγ'
     have cross : ∀ i j, Rf i j γ → G.has c γ → False := fun i j hr hh => hcb (hs.at_inj c d _ _ γ hc hb Dk rfl hh (.inr (h7 i j γ hr)))
     split at hγ <;> split at hγ'
     ·rename_i q q'; exact ⟨q.1.trans q'.1.symm, q.2.trans q'.2.symm⟩
     ·exact (cross _ _ hγ' hγ).elim
     ·exact (cross _ _ hγ hγ').elim
     ·exact h9 i0 j0 i1 j1 γ hγ hγ'
   ·rename_i e1
    split at hd
    ·cases hd; exact .inr ⟨trivial, fun c' hc' => by cases hc'⟩
    ·rename_i e2'
     refine .inl ⟨hd, by simp only [G', if_neg e1], fun γ hr hγ => hheap γ fun e' => e1 (hs.at_inj d b kk _ γ hd hb hr rfl hγ (.inl (e' ▸ hβ)))⟩
  ·intro d kk γ hd hr hγ
   rw [hbx] at hd
   rw [hsz]
   split at hd
   ·rename_i e1; subst e1
    rcases hasB γ hγ with h | h
    ·exact hs.at_ok d _ γ hb rfl h
    ·have := hs.at_ok c _ γ hc Dk h
     exact ⟨.new (this.1.1 hcl), this.2⟩
   ·rename_i e1
    split at hd
    ·cases hd; cases hr
    ·exact hs.at_ok d kk γ hd hr ((hasO d γ e1).1 hγ)
  ·intro d d' kk kk' γ hd hd' hr hr' hγ hγ'
   rw [hbx] at hd hd'
   have cl : ∀ d kk, (if d = b then some (BI.pvec (n + 1) 1 cols (rows.set n (row.set 0 (.sl rows2)))) else if d = c then some .gone else st.bx d) = some kk → kk.real = true → G'.has d γ → (d = b ∧ (G.has b γ ∨ G.has c γ)) ∨ (d ≠ b ∧ d ≠ c ∧ st.bx d = some kk ∧ G.has d γ) := by
    intro d kk hd hr hγ
    split at hd
    ·rename_i e1; subst e1; exact .inl ⟨rfl, hasB γ hγ⟩
    ·rename_i e1
     split at hd
     ·cases hd; cases hr
     ·rename_i e2'; exact .inr ⟨e1, e2', hd, (hasO d γ e1).1 hγ⟩
   rcases cl d kk hd hr hγ with ⟨q1, q2⟩ | ⟨q1, q2, q3, q4⟩ <;> rcases cl d' kk' hd' hr' hγ' with ⟨q1', q2'⟩ | ⟨q1', q2', q3', q4'⟩
   ·rw [q1, q1']
   ·rcases q2 with h | h
    ·exact (q1' (hs.at_inj d' b _ _ γ q3' hb hr' rfl q4' h)).elim
    ·exact (q2' (hs.at_inj d' c _ _ γ q3' hc hr' Dk q4' h)).elim
   ·rcases q2' with h | h
    ·exact (q1 (hs.at_inj d b _ _ γ q3 hb hr rfl q4 h)).elim
    ·exact (q2 (hs.at_inj d c _ _ γ q3 hc hr Dk q4 h)).elim
   ·exact hs.at_inj d d' kk kk' γ q3 q3' hr hr' q4 q4'
  ·have e1 : d ≠ b := fun e' => by rw [e', hbl] at hd; cases hd
   refine ⟨rfl, rfl, ?_⟩
   simp only [G', if_neg e1]
end run
theorem Zb {α : Type} {f : α → List T} {xs : List α} {b e len : Nat} {bs : List (Nat × BI)} {l l' : List D} (h : 0 + len ≤ xs.length) (hb : lent bs b = some (xs.map f)) (h2 : l.map (fun d => (d.lend bs).nrm) = l') :
  (D.e (.one (.view b e 0 len)) :: l).map (fun d => (d.lend bs).nrm) = .e (.one (.pure (.sl ((xs.take len).map f)))) :: l' := by
 rw [List.map_cons, h2, Va h bs hb]; rfl
theorem Yu {d : D} {bs : List (Nat × BI)} {l l' : List D} (h2 : l.map (fun d => (d.lend bs).nrm) = l') : (d :: l).map (fun d => (d.lend bs).nrm) = (d.lend bs).nrm :: l' := by
 rw [List.map_cons, h2]
end Go.Lift
namespace Go.Lift
open Go.RowKit
variable {P : Program} {X : Kh}
theorem Bd {α : Type} {c : Operand} {x y : Code} {Q : Exit → St → Prop} {st : St} {b : Bool} {e1 e2 : Option α} {v : α} (h : AY b e1 e2 = some v) (hc : opd st.env c = some (bD b)) (ht : e1 = some v → W P X x Q st) (hf : e2 = some v → W P X y Q st) : W P X (.cond c x y) Q st :=
 aR hc (fun k => ht (ZN k h)) (fun k => hf (ZT k h))
theorem E1 {ops : Array Oper} {dr : Bool} {Q : St → Prop} {r i : Nat} {st : St} {log : List (Nat × DC)} {α : Type} {b : Bool} {e1 e2 : Option α} {v : α} (t : Nat) (h : AY b e1 e2 = some v) (hx : st.env t = some (bD b)) (h1 : e1 = some v → Bh P X ops dr Q r i (St.put st (some t) (some (bD true))) log) (h2 : e2 = some v → Bh P X ops dr Q r i (St.put st (some t) (some (bD false))) log) : Bh P X ops dr Q r i st log :=
 Ys hx (fun k => h1 (ZN k h)) (fun k => h2 (ZT k h))
theorem sn {V R : Type} {J : V → Option R} {r : R} {S : V → St} {s : St} {v : V} {el : List (Nat × D)} {bl : List (Nat × BI)} (l : List (Nat × Nat)) (h : J v = some r) (e : S v = mk el bl := by exact rfl) (h1 : (cx s.env el, bJ (rn l) s.bx bl) = (cH (rn l) el, cQ (rn l) bl) := by exact rfl) (h2 : ((Jz ((GQ bl).map (rn l)) && Oy (rn l) (GQ bl)) && (RL (GQ bl) el && RG (GQ bl) bl)) = true := by exact rfl) : ∃ v, J v = some r ∧ G6 P X s (S v) :=
 ⟨v, h, e ▸ sm l el bl h1 h2⟩
theorem As {y : Code} {id : Nat} {ops : Array Oper} {dr : Bool} {Q : Exit → St → Prop} {st : St} {n : Nat} (hm : P.follows .mixedOrders = true) (hn : ops.size = n)
  (h : Bh P X ops dr (fun st' => W P X y Q st') n 0 st []) : W P X (.seq (.region id ops dr) y) Q st :=
 Ap (Aj hm hn h)
end Go.Lift
namespace Go.Lift
def Aw (n : Int) : List T := [.val (.int .i64 n)]
def EI (n : Int) : List T := [.val (.int .u8 n)]
def dP (n : Int) : List T := [.val (.int .u16 n)]
abbrev C7 (n : Int) : T := .val (.int .i64 n)
abbrev tB (b : Bool) : T := .val (.bool b)
def eB (b : Bool) : List T := [.val (.bool b)]
def FP {α : Type} (f : α → List T) (xs : List α) : List T := [.sl (xs.map f)]
theorem Sx : XY Aw := ⟨by intro x y h; simpa [Aw] using h⟩
theorem cX : XY EI := ⟨by intro x y h; simpa [EI] using h⟩
theorem dE : XY eB := ⟨by intro x y h; simpa [eB] using h⟩
theorem bu {α : Type} {f : α → List T} (h : XY f) : XY (FP f) := ⟨by intro x y hx; simp only [FP, List.cons.injEq, T.sl.injEq, and_true] at hx; exact Ms h.inj _ _ hx⟩
structure In where
 ff : Int
 fg : Int
 fk : Int
 fp : Bool
 fB : Int
 fC : Int
def HS (x : In) : List T := [.val (.int .u8 x.ff), .val (.int .u8 x.fg), .val (.int .u8 x.fk), .val (.bool x.fp), .val (.int .u16 x.fB), .val (.int .u16 x.fC)]
structure BW where
 fb : List Int
 fh : List Int
 fo : List Int
 fA : List In
def ND (x : BW) : List T := [.sl (x.fb.map EI), .sl (x.fh.map EI), .sl (x.fo.map EI), .sl (x.fA.map HS)]
structure Ar where
 ff : Int
 fg : Int
 fk : Int
 fp : Bool
 fj : List (List Bool)
 fm : List (List Bool)
def AO (x : Ar) : List T := [.val (.int .i64 x.ff), .val (.int .i64 x.fg), .val (.int .i64 x.fk), .val (.bool x.fp), .sl (x.fj.map (FP eB)), .sl (x.fm.map (FP eB))]
structure Ae where
 fb : List Int
 fh : List Int
 fo : List Int
 fc : List Ar
structure Aa where
 fw : Int
 fv : Int
 fu : Int
def Ab (x : Aa) : List T := [.val (.int .i64 x.fw), .val (.int .i64 x.fv), .val (.int .i64 x.fu)]
theorem A5 : XY Ab := ⟨by
 rintro ⟨a1, a2, a3⟩ ⟨b1, b2, b3⟩ h
 simp only [Ab, List.cons.injEq, T.val.injEq, Value.int.injEq, and_true, true_and] at h
 obtain ⟨h1, h2, h3⟩ := h
 subst h1
 subst h2
 subst h3
 rfl⟩
structure Ag where
 fd : List Int
 fa : List Int
 fe : List Int
def FT (x : Ag) : List T := [.sl (x.fd.map Aw), .sl (x.fa.map Aw), .sl (x.fe.map EI)]
structure Ai where
 ff : Int
 fi : Int
 fr : Int
def AP (x : Ai) : List T := [.val (.int .i64 x.ff), .val (.int .i64 x.fi), .val (.int .i64 x.fr)]
theorem Qa : XY AP := ⟨by
 rintro ⟨a1, a2, a3⟩ ⟨b1, b2, b3⟩ h
 simp only [AP, List.cons.injEq, T.val.injEq, Value.int.injEq, and_true, true_and] at h
 obtain ⟨h1, h2, h3⟩ := h
 subst h1
 subst h2
 subst h3
 rfl⟩
structure AN where
 fy : Ag
 fD : Int
 ft : Ai
def CV (x : AN) : List T := [.sl (x.fy.fd.map Aw), .sl (x.fy.fa.map Aw), .sl (x.fy.fe.map EI), .val (.int .i64 x.fD), .val (.int .i64 x.ft.ff), .val (.int .i64 x.ft.fi), .val (.int .i64 x.ft.fr)]
structure AH where
 fq : Ag
 fg : Int
 ft : Ai
 fa : List Int
def Bs (x : AH) : List T := [.sl (x.fq.fd.map Aw), .sl (x.fq.fa.map Aw), .sl (x.fq.fe.map EI), .val (.int .i64 x.fg), .val (.int .i64 x.ft.ff), .val (.int .i64 x.ft.fi), .val (.int .i64 x.ft.fr), .sl (x.fa.map Aw)]
theorem Tw : XY Bs := ⟨by
 rintro ⟨⟨a1, a2, a3⟩, a4, ⟨a5, a6, a7⟩, a8⟩ ⟨⟨b1, b2, b3⟩, b4, ⟨b5, b6, b7⟩, b8⟩ h
 simp only [Bs, List.cons.injEq, T.val.injEq, T.sl.injEq, Value.int.injEq, and_true, true_and] at h
 obtain ⟨h1, h2, h3, h4, h5, h6, h7, h8⟩ := h
 have h1 := Ms Sx.inj _ _ h1
 subst h1
 have h2 := Ms Sx.inj _ _ h2
 subst h2
 have h3 := Ms cX.inj _ _ h3
 subst h3
 subst h4
 subst h5
 subst h6
 subst h7
 have h8 := Ms Sx.inj _ _ h8
 subst h8
 rfl⟩
open IntKind renaming wrap → wI
def Fa (_ : Nat) (p0 : List Int) (p1 : Int) : Option Int :=
 AY ((decide (p1 < (p0.length : Int))))
  ((A8 p0 p1).bind fun v2 =>
  some ((wI .i64 v2)))
  (some 0)
def Bg (_ : Nat) (p0 : Ar) : Option Bool :=
 Be (fun (v1 : Bool) =>
  some v1)
 fun j1 =>
 AY ((p0.ff == 3))
  (j1 true)
  (j1 (p0.ff == 4))
def C0 (N : Nat) (p1 : Int) (p2 : Int) (p3 : Bool) (v1 : (List (List Bool)) × Int) (j4 : ((List Bool)) → Option ((List (List Bool)))) : Nat → ((List Bool) × Int) → Option ((List (List Bool)))
 | 0, _ => none
 | n4 + 1, v4 =>
  AY ((decide (v4.2 < p1)))
   (Be (fun (v7 : (List Bool)) =>
    C0 N p1 p2 p3 v1 j4 n4 (v7, (wI .i64 (v4.2 + 1))))
   fun j7 =>
   AY p3
    (AY ((v1.2 == v4.2))
     ((Ef (v4.1.length + (([true] : List Bool)).length ≤ DM)).bind fun _ =>
     j7 (v4.1 ++ (([true] : List Bool))))
     ((Ef (0 ≤ (wI .i64 ((wI .i64 (3 * v1.2)) + v4.2)))).bind fun _ =>
     (Ef (v4.1.length + (([((Int.tmod ((FE .u16 p2 ((wI .i64 ((wI .i64 (3 * v1.2)) + v4.2))))) 2) == 0)] : List Bool)).length ≤ DM)).bind fun _ =>
     j7 (v4.1 ++ (([((Int.tmod ((FE .u16 p2 ((wI .i64 ((wI .i64 (3 * v1.2)) + v4.2))))) 2) == 0)] : List Bool)))))
    ((Ef (0 ≤ (wI .i64 ((wI .i64 (3 * v1.2)) + v4.2)))).bind fun _ =>
    (Ef (v4.1.length + (([((Int.tmod ((FE .u16 p2 ((wI .i64 ((wI .i64 (3 * v1.2)) + v4.2))))) 2) == 0)] : List Bool)).length ≤ DM)).bind fun _ =>
    j7 (v4.1 ++ (([((Int.tmod ((FE .u16 p2 ((wI .i64 ((wI .i64 (3 * v1.2)) + v4.2))))) 2) == 0)] : List Bool)))))
   (j4 v4.1)
def C1 (N : Nat) (p0 : Int) (p1 : Int) (p2 : Int) (p3 : Bool) (j1 : ((List (List Bool))) → Option ((List (List Bool)))) : Nat → ((List (List Bool)) × Int) → Option ((List (List Bool)))
 | 0, _ => none
 | n1 + 1, v1 =>
  AY ((decide (v1.2 < p0)))
   (C0 N p1 p2 p3 v1 (fun (v5 : (List Bool)) =>
    (Ef (v1.1.length + (([v5] : List (List Bool))).length ≤ DM)).bind fun _ =>
    C1 N p0 p1 p2 p3 j1 n1 (v1.1 ++ (([v5] : List (List Bool))), (wI .i64 (v1.2 + 1)))) N (([] : List Bool), 0))
   (j1 v1.1)
def E9 (N : Nat) (p0 : Int) (p1 : Int) (p2 : Int) (p3 : Bool) : Option ((List (List Bool))) :=
 C1 N p0 p1 p2 p3 (fun (v2 : (List (List Bool))) =>
  some v2) N (([] : List (List Bool)), 0)
def Dz (N : Nat) (p0 : BW) (j4 : ((List Int) × (List Int) × (List Int)) → Option (Ae × Bool)) : Nat → ((List Int) × (List Int) × (List Int) × Int) → Option (Ae × Bool)
 | 0, _ => none
 | n4 + 1, v4 =>
  AY ((decide (v4.2.2.2 < (p0.fb.length : Int))))
   ((A8 p0.fb v4.2.2.2).bind fun v7 =>
   (Ef (v4.1.length + (([(wI .i64 (1 + (wI .i64 ((Int.tmod v7 3)))))] : List Int)).length ≤ DM)).bind fun _ =>
   (Fa N p0.fh v4.2.2.2).bind fun v9 =>
   (Ef ((wI .i64 (1 + (wI .i64 ((Int.tmod v7 3))))) ≠ 0)).bind fun _ =>
   (Ef (v4.2.1.length + (([(Int.tmod v9 ((wI .i64 (1 + (wI .i64 ((Int.tmod v7 3)))))))] : List Int)).length ≤ DM)).bind fun _ =>
   (Fa N p0.fo v4.2.2.2).bind fun v12 =>
   (Ef ((wI .i64 (1 + (wI .i64 ((Int.tmod v7 3))))) ≠ 0)).bind fun _ =>
   (Ef (v4.2.2.1.length + (([(Int.tmod v12 ((wI .i64 (1 + (wI .i64 ((Int.tmod v7 3)))))))] : List Int)).length ≤ DM)).bind fun _ =>
   Dz N p0 j4 n4 (v4.1 ++ (([(wI .i64 (1 + (wI .i64 ((Int.tmod v7 3)))))] : List Int)), v4.2.1 ++ (([(Int.tmod v9 ((wI .i64 (1 + (wI .i64 ((Int.tmod v7 3)))))))] : List Int)), v4.2.2.1 ++ (([(Int.tmod v12 ((wI .i64 (1 + (wI .i64 ((Int.tmod v7 3)))))))] : List Int)), (wI .i64 (v4.2.2.2 + 1))))
   (j4 (v4.1, v4.2.1, v4.2.2.1))
def BR (N : Nat) (p0 : BW) (v5 : (List Int) × (List Int) × (List Int)) (j15 : ((List Ar)) → Option (Ae × Bool)) : Nat → ((List Ar) × Int) → Option (Ae × Bool)
 | 0, _ => none
 | n15 + 1, v15 =>
  Be (fun (v17 : Bool) =>
   AY v17
    ((A8 p0.fA v15.2).bind fun v20 =>
    (Ef ((v5.1.length : Int) ≠ 0)).bind fun _ =>
    (Ef ((v5.1.length : Int) ≠ 0)).bind fun _ =>
    Be (fun (v23 : Bool) =>
     (A8 v5.1 ((Int.tmod ((wI .i64 v20.fg)) ((v5.1.length : Int))))).bind fun v26 =>
     (A8 v5.1 ((Int.tmod ((wI .i64 v20.fk)) ((v5.1.length : Int))))).bind fun v27 =>
     (E9 N v26 v27 v20.fB false).bind fun v28 =>
     Be (fun (v29 : (List (List Bool))) =>
      (Ef (v15.1.length + (([(Ar.mk ((wI .i64 (1 + (wI .i64 ((Int.tmod v20.ff 4)))))) ((Int.tmod ((wI .i64 v20.fg)) ((v5.1.length : Int)))) ((Int.tmod ((wI .i64 v20.fk)) ((v5.1.length : Int)))) v23 v28 v29)] : List Ar)).length ≤ DM)).bind fun _ =>
      BR N p0 v5 j15 n15 (v15.1 ++ (([(Ar.mk ((wI .i64 (1 + (wI .i64 ((Int.tmod v20.ff 4)))))) ((Int.tmod ((wI .i64 v20.fg)) ((v5.1.length : Int)))) ((Int.tmod ((wI .i64 v20.fk)) ((v5.1.length : Int)))) v23 v28 v29)] : List Ar)), (wI .i64 (v15.2 + 1))))
     fun j29 =>
     AY (((wI .i64 (1 + (wI .i64 ((Int.tmod v20.ff 4))))) == 4))
      ((A8 v5.1 ((Int.tmod ((wI .i64 v20.fg)) ((v5.1.length : Int))))).bind fun v31 =>
      (A8 v5.1 ((Int.tmod ((wI .i64 v20.fg)) ((v5.1.length : Int))))).bind fun v32 =>
      (E9 N v31 v32 v20.fC true).bind fun v33 =>
      j29 v33)
      (j29 ([] : List (List Bool))))
    fun j23 =>
    AY v20.fp
     ((Bg N ((Ar.mk ((wI .i64 (1 + (wI .i64 ((Int.tmod v20.ff 4)))))) ((Int.tmod ((wI .i64 v20.fg)) ((v5.1.length : Int)))) ((Int.tmod ((wI .i64 v20.fk)) ((v5.1.length : Int)))) false (([] : List (List Bool))) (([] : List (List Bool)))))).bind fun v25 =>
     j23 (!v25))
     (j23 false))
    (j15 v15.1))
  fun j17 =>
  AY ((decide (v15.2 < (p0.fA.length : Int))))
   (j17 (decide (0 < (v5.1.length : Int))))
   (j17 false)
def GH (N : Nat) (p0 : BW) : Option (Ae × Bool) :=
 Be (fun (v1 : Bool) =>
  AY v1
   (some ((Ae.mk (([] : List Int)) (([] : List Int)) (([] : List Int)) (([] : List Ar))), false))
   (Dz N p0 (fun (v5 : (List Int) × (List Int) × (List Int)) =>
    BR N p0 v5 (fun (v16 : (List Ar)) =>
     some ((Ae.mk v5.1 v5.2.1 v5.2.2 v16), true)) N (([] : List Ar), 0)) N (([] : List Int), ([] : List Int), ([] : List Int), 0)))
 fun j1 =>
 AY ((decide (3 < (p0.fb.length : Int))))
  (j1 true)
  (j1 (decide (4 < (p0.fA.length : Int))))
def CT (N : Nat) (p0 : Ae) (v1 : (List Aa) × Int) (v4 : (List Aa) × Int) (j8 : ((List Aa)) → Option ((List Aa))) : Nat → ((List Aa) × Int) → Option ((List Aa))
 | 0, _ => none
 | n8 + 1, v8 =>
  (A8 p0.fc v1.2).bind fun v10 =>
  (A8 v10.fj v4.2).bind fun v11 =>
  AY ((decide (v8.2 < (v11.length : Int))))
   (Be (fun (v13 : (List Aa)) =>
    CT N p0 v1 v4 j8 n8 (v13, (wI .i64 (v8.2 + 1))))
   fun j13 =>
   (A8 p0.fc v1.2).bind fun v14 =>
   (A8 v14.fj v4.2).bind fun v15 =>
   (A8 v15 v8.2).bind fun v16 =>
   AY ((!v16))
    ((Ef (v8.1.length + (([(Aa.mk v1.2 v4.2 v8.2)] : List Aa)).length ≤ DM)).bind fun _ =>
    j13 (v8.1 ++ (([(Aa.mk v1.2 v4.2 v8.2)] : List Aa))))
    (j13 v8.1))
   (j8 v8.1)
def Cf (N : Nat) (p0 : Ae) (v1 : (List Aa) × Int) (j4 : ((List Aa)) → Option ((List Aa))) : Nat → ((List Aa) × Int) → Option ((List Aa))
 | 0, _ => none
 | n4 + 1, v4 =>
  (A8 p0.fc v1.2).bind fun v6 =>
  AY ((decide (v4.2 < (v6.fj.length : Int))))
   (CT N p0 v1 v4 (fun (v9 : (List Aa)) =>
    Cf N p0 v1 j4 n4 (v9, (wI .i64 (v4.2 + 1)))) N (v4.1, 0))
   (j4 v4.1)
def BO (N : Nat) (p0 : Ae) (j1 : ((List Aa)) → Option ((List Aa))) : Nat → ((List Aa) × Int) → Option ((List Aa))
 | 0, _ => none
 | n1 + 1, v1 =>
  AY ((decide (v1.2 < (p0.fc.length : Int))))
   (Cf N p0 v1 (fun (v5 : (List Aa)) =>
    BO N p0 j1 n1 (v5, (wI .i64 (v1.2 + 1)))) N (v1.1, 0))
   (j1 v1.1)
def E3 (N : Nat) (p0 : Ae) : Option ((List Aa)) :=
 BO N p0 (fun (v2 : (List Aa)) =>
  some v2) N (([] : List Aa), 0)
def EP (N : Nat) (p0 : List Aa) (p1 : Aa) (j1 : Unit → Option Bool) : Nat → Int → Option Bool
 | 0, _ => none
 | n1 + 1, v1 =>
  AY ((decide (v1 < (p0.length : Int))))
   ((A8 p0 v1).bind fun v4 =>
   AY (((v4.fw == p1.fw) && ((v4.fv == p1.fv) && ((v4.fu == p1.fu) && true))))
    (some true)
    (EP N p0 p1 j1 n1 (wI .i64 (v1 + 1))))
   (j1 ())
def GD (N : Nat) (p0 : List Aa) (p1 : Aa) : Option Bool :=
 EP N p0 p1 (fun (_ : Unit) =>
  some false) N 0
def CM (N : Nat) (p1 : List Aa) (v4 : (List Ar) × Int) (v8 : (List (List Bool)) × Int) (j15 : ((List Bool)) → Option Ae) : Nat → ((List Bool) × Int) → Option Ae
 | 0, _ => none
 | n15 + 1, v15 =>
  AY ((decide (v15.2 < (v15.1.length : Int))))
   (Be (fun (v18 : (List Bool)) =>
    CM N p1 v4 v8 j15 n15 (v18, (wI .i64 (v15.2 + 1))))
   fun j18 =>
   (A8 v15.1 v15.2).bind fun v19 =>
   AY v19
    ((A8 v15.1 v15.2).bind fun _ =>
    j18 (v15.1.set ((v15.2).toNat) true))
    ((GD N p1 ((Aa.mk v4.2 v8.2 v15.2))).bind fun v22 =>
    (A8 v15.1 v15.2).bind fun _ =>
    j18 (v15.1.set ((v15.2).toNat) v22)))
   (j15 v15.1)
def DJ (N : Nat) (p0 : Ae) (p1 : List Aa) (v4 : (List Ar) × Int) (j8 : ((List (List Bool))) → Option Ae) : Nat → ((List (List Bool)) × Int) → Option Ae
 | 0, _ => none
 | n8 + 1, v8 =>
  (A8 p0.fc v4.2).bind fun v10 =>
  AY ((decide (v8.2 < (v10.fj.length : Int))))
   ((A8 p0.fc v4.2).bind fun v12 =>
   (A8 v12.fj v8.2).bind fun v13 =>
   (Ef ((([] : List Bool)).length + v13.length ≤ DM)).bind fun _ =>
   CM N p1 v4 v8 (fun (v16 : (List Bool)) =>
    (Ef (v8.1.length + (([v16] : List (List Bool))).length ≤ DM)).bind fun _ =>
    DJ N p0 p1 v4 j8 n8 (v8.1 ++ (([v16] : List (List Bool))), (wI .i64 (v8.2 + 1)))) N ((([] : List Bool)) ++ v13, 0))
   (j8 v8.1)
def CN (N : Nat) (p0 : Ae) (v4 : (List Ar) × Int) (j25 : ((List (List Bool))) → Option Ae) : Nat → ((List (List Bool)) × Int) → Option Ae
 | 0, _ => none
 | n25 + 1, v25 =>
  (A8 p0.fc v4.2).bind fun v27 =>
  AY ((decide (v25.2 < (v27.fm.length : Int))))
   ((A8 p0.fc v4.2).bind fun v29 =>
   (A8 v29.fm v25.2).bind fun v30 =>
   (Ef ((([] : List Bool)).length + v30.length ≤ DM)).bind fun _ =>
   (Ef (v25.1.length + (([(([] : List Bool)) ++ v30] : List (List Bool))).length ≤ DM)).bind fun _ =>
   CN N p0 v4 j25 n25 (v25.1 ++ (([(([] : List Bool)) ++ v30] : List (List Bool))), (wI .i64 (v25.2 + 1))))
   (j25 v25.1)
def Cq (N : Nat) (p0 : Ae) (p1 : List Aa) (j4 : ((List Ar)) → Option Ae) : Nat → ((List Ar) × Int) → Option Ae
 | 0, _ => none
 | n4 + 1, v4 =>
  AY ((decide (v4.2 < (p0.fc.length : Int))))
   ((A8 p0.fc v4.2).bind fun v7 =>
   DJ N p0 p1 v4 (fun (v9 : (List (List Bool))) =>
    CN N p0 v4 (fun (v26 : (List (List Bool))) =>
     (Ef (v4.1.length + (([(Ar.mk v7.ff v7.fg v7.fk v7.fp v9 v26)] : List Ar)).length ≤ DM)).bind fun _ =>
     Cq N p0 p1 j4 n4 (v4.1 ++ (([(Ar.mk v7.ff v7.fg v7.fk v7.fp v9 v26)] : List Ar)), (wI .i64 (v4.2 + 1)))) N (([] : List (List Bool)), 0)) N (([] : List (List Bool)), 0))
   (j4 v4.1)
def F1 (N : Nat) (p0 : Ae) (p1 : List Aa) : Option Ae :=
 (Ef ((([] : List Int)).length + p0.fb.length ≤ DM)).bind fun _ =>
 (Ef ((([] : List Int)).length + p0.fh.length ≤ DM)).bind fun _ =>
 (Ef ((([] : List Int)).length + p0.fo.length ≤ DM)).bind fun _ =>
 Cq N p0 p1 (fun (v5 : (List Ar)) =>
  some ((Ae.mk ((([] : List Int)) ++ p0.fb) ((([] : List Int)) ++ p0.fh) ((([] : List Int)) ++ p0.fo) v5))) N (([] : List Ar), 0)
def C8 (N : Nat) (p0 : List (List Bool)) (p1 : Int) (p2 : Int) (j2 : Unit → Option Bool) : Nat → Int → Option Bool
 | 0, _ => none
 | n2 + 1, v2 =>
  AY ((decide (v2 < p1)))
   ((A8 p0 v2).bind fun v5 =>
   AY (((v5.length : Int) != p2))
    (some false)
    (C8 N p0 p1 p2 j2 n2 (wI .i64 (v2 + 1))))
   (j2 ())
def EA (N : Nat) (p0 : List (List Bool)) (p1 : Int) (p2 : Int) : Option Bool :=
 AY (((p0.length : Int) != p1))
  (some false)
  (C8 N p0 p1 p2 (fun (_ : Unit) =>
   some true) N 0)
def Cx (N : Nat) (p1 : Ar) (j22 : Unit → Option Int) : Nat → Int → Option Int
 | 0, _ => none
 | n22 + 1, v22 =>
  AY ((decide (v22 < (p1.fm.length : Int))))
   ((A8 p1.fm v22).bind fun v25 =>
   (A8 v25 v22).bind fun v26 =>
   AY ((!v26))
    (some 1)
    (Cx N p1 j22 n22 (wI .i64 (v22 + 1))))
   (j22 ())
def FK (N : Nat) (p0 : Ae) (p1 : Ar) : Option Int :=
 Be (fun (v1 : Bool) =>
  AY v1
   (some 1)
   (Be (fun (v7 : Bool) =>
    AY v7
     (some 4)
     ((A8 p0.fb p1.fg).bind fun v12 =>
     (A8 p0.fb p1.fk).bind fun v13 =>
     (EA N p1.fj v12 v13).bind fun v14 =>
     AY ((!v14))
      (some 6)
      (AY ((p1.ff != 4))
       (AY (((p1.fm.length : Int) != 0))
        (some 6)
        (some 0))
       ((A8 p0.fb p1.fg).bind fun v18 =>
       (A8 p0.fb p1.fg).bind fun v19 =>
       (EA N p1.fm v18 v19).bind fun v20 =>
       AY ((!v20))
        (some 6)
        (Cx N p1 (fun (_ : Unit) =>
         some 0) N 0)))))
   fun j7 =>
   AY ((decide (p1.fg < 0)))
    (j7 true)
    (AY ((decide ((p0.fb.length : Int) ≤ p1.fg)))
     (j7 true)
     (AY ((decide (p1.fk < 0)))
      (j7 true)
      (j7 (decide ((p0.fb.length : Int) ≤ p1.fk)))))))
 fun j1 =>
 AY ((decide (p1.ff < 1)))
  (j1 true)
  (AY ((decide (4 < p1.ff)))
   (j1 true)
   (AY p1.fp
    ((Bg N p1).bind fun v5 =>
    j1 v5)
    (j1 false)))
def Bz (N : Nat) (p0 : Ae) (j7 : Unit → Option Int) : Nat → Int → Option Int
 | 0, _ => none
 | n7 + 1, v7 =>
  AY ((decide (v7 < (p0.fb.length : Int))))
   ((A8 p0.fb v7).bind fun v10 =>
   Be (fun (v11 : Bool) =>
    AY v11
     (some 7)
     (Bz N p0 j7 n7 (wI .i64 (v7 + 1))))
   fun j11 =>
   AY ((decide (v10 < 1)))
    (j11 true)
    (AY ((decide (6 < v10)))
     (j11 true)
     ((A8 p0.fh v7).bind fun v14 =>
     AY ((decide (v14 < 0)))
      (j11 true)
      ((A8 p0.fh v7).bind fun v16 =>
      AY ((decide (v10 ≤ v16)))
       (j11 true)
       ((A8 p0.fo v7).bind fun v18 =>
       AY ((decide (v18 < 0)))
        (j11 true)
        ((A8 p0.fo v7).bind fun v20 =>
        j11 (decide (v10 ≤ v20))))))))
   (j7 ())
def Bo (N : Nat) (p0 : Ae) (j22 : Unit → Option Int) : Nat → Int → Option Int
 | 0, _ => none
 | n22 + 1, v22 =>
  AY ((decide (v22 < (p0.fc.length : Int))))
   ((A8 p0.fc v22).bind fun v25 =>
   (FK N p0 v25).bind fun v26 =>
   AY ((v26 != 0))
    (some v26)
    (Bo N p0 j22 n22 (wI .i64 (v22 + 1))))
   (j22 ())
def Dc (N : Nat) (p0 : Ae) : Option Int :=
 Be (fun (v1 : Bool) =>
  AY v1
   (some 3)
   (Be (fun (v4 : Bool) =>
    AY v4
     (some 6)
     (Bz N p0 (fun (_ : Unit) =>
      Bo N p0 (fun (_ : Unit) =>
       some 0) N 0) N 0))
   fun j4 =>
   AY (((p0.fh.length : Int) != (p0.fb.length : Int)))
    (j4 true)
    (j4 ((p0.fo.length : Int) != (p0.fb.length : Int)))))
 fun j1 =>
 AY ((decide (6 < (p0.fb.length : Int))))
  (j1 true)
  (j1 (decide (12 < (p0.fc.length : Int))))
def CL (N : Nat) (p0 : Ae) (j3 : ((List Int) × (List Int)) → Option (Ag × Int)) : Nat → ((List Int) × (List Int) × Int) → Option (Ag × Int)
 | 0, _ => none
 | n3 + 1, v3 =>
  AY ((decide (v3.2.2 < (p0.fb.length : Int))))
   ((A8 p0.fh v3.2.2).bind fun v6 =>
   (Ef (v3.1.length + (([v6] : List Int)).length ≤ DM)).bind fun _ =>
   (Ef (v3.2.1.length + (([(-1)] : List Int)).length ≤ DM)).bind fun _ =>
   CL N p0 j3 n3 (v3.1 ++ (([v6] : List Int)), v3.2.1 ++ (([(-1)] : List Int)), (wI .i64 (v3.2.2 + 1))))
   (j3 (v3.1, v3.2.1))
def By (N : Nat) (p0 : Ae) (j9 : ((List Int)) → Option (Ag × Int)) : Nat → ((List Int) × Int) → Option (Ag × Int)
 | 0, _ => none
 | n9 + 1, v9 =>
  AY ((decide (v9.2 < (p0.fc.length : Int))))
   (Be (fun (v12 : Int) =>
    (Ef (v9.1.length + (([v12] : List Int)).length ≤ DM)).bind fun _ =>
    By N p0 j9 n9 (v9.1 ++ (([v12] : List Int)), (wI .i64 (v9.2 + 1))))
   fun j12 =>
   (A8 p0.fc v9.2).bind fun v13 =>
   (Bg N v13).bind fun v14 =>
   AY v14
    ((A8 p0.fc v9.2).bind fun v16 =>
    (A8 p0.fh v16.fg).bind fun v17 =>
    (Ef (0 ≤ v17)).bind fun _ =>
    j12 (Dp .u8 1 v17))
    (j12 0))
   (j9 v9.1)
def FF (N : Nat) (p0 : Ae) : Option (Ag × Int) :=
 (Dc N p0).bind fun v1 =>
 AY ((v1 != 0))
  (some ((Ag.mk (([] : List Int)) (([] : List Int)) (([] : List Int))), v1))
  (CL N p0 (fun (v4 : (List Int) × (List Int)) =>
   By N p0 (fun (v10 : (List Int)) =>
    some ((Ag.mk v4.1 v4.2 v10), 0)) N (([] : List Int), 0)) N (([] : List Int), ([] : List Int), 0))
def Fr (_ : Nat) (p0 : Ag) : Option Ag :=
 (Ef ((([] : List Int)).length + p0.fd.length ≤ DM)).bind fun _ =>
 (Ef ((([] : List Int)).length + p0.fa.length ≤ DM)).bind fun _ =>
 (Ef ((([] : List Int)).length + p0.fe.length ≤ DM)).bind fun _ =>
 some ((Ag.mk ((([] : List Int)) ++ p0.fd) ((([] : List Int)) ++ p0.fa) ((([] : List Int)) ++ p0.fe)))
def Df (N : Nat) (p0 : Ag) (j1 : Int → Option ((List Ag))) : Nat → (Int × Int) → Option ((List Ag))
 | 0, _ => none
 | n1 + 1, v1 =>
  AY ((decide (v1.2 < (p0.fa.length : Int))))
   (Be (fun (v4 : Int) =>
    Df N p0 j1 n1 (v4, (wI .i64 (v1.2 + 1))))
   fun j4 =>
   (A8 p0.fa v1.2).bind fun v5 =>
   AY ((decide (0 ≤ v5)))
    (j4 (wI .i64 (v1.1 + 1)))
    (j4 v1.1))
   (j1 v1.1)
def Cp (N : Nat) (p0 : Ag) (v7 : (List Ag) × Int) (j12 : ((List Int)) → Option ((List Ag))) : Nat → ((List Int) × Int × Int) → Option ((List Ag))
 | 0, _ => none
 | n12 + 1, v12 =>
  AY ((decide (v12.2.2 < (p0.fa.length : Int))))
   (Be (fun (v15 : (List Int) × Int) =>
    Cp N p0 v7 j12 n12 (v15.1, v15.2, (wI .i64 (v12.2.2 + 1))))
   fun j15 =>
   (A8 p0.fa v12.2.2).bind fun v16 =>
   AY ((decide (v16 < 0)))
    (j15 (v12.1, v12.2.1))
    (Be (fun (v18 : (List Int)) =>
     j15 (v18, (wI .i64 (v12.2.1 + 1))))
    fun j18 =>
    (Ef (0 ≤ v12.2.1)).bind fun _ =>
    AY (((Int.tmod ((FE .i64 v7.2 v12.2.1)) 2) == 1))
     ((A8 v12.1 v12.2.2).bind fun _ =>
     j18 (v12.1.set ((v12.2.2).toNat) ((-1))))
     (j18 v12.1)))
   (j12 v12.1)
def BP (N : Nat) (p0 : Ag) (v2 : Int) (j7 : ((List Ag)) → Option ((List Ag))) : Nat → ((List Ag) × Int) → Option ((List Ag))
 | 0, _ => none
 | n7 + 1, v7 =>
  (Ef (0 ≤ v2)).bind fun _ =>
  AY ((decide (v7.2 < (Dp .i64 1 v2))))
   ((Fr N p0).bind fun v11 =>
   Cp N p0 v7 (fun (v13 : (List Int)) =>
    (Ef (v7.1.length + (([(Ag.mk v11.fd v13 v11.fe)] : List Ag)).length ≤ DM)).bind fun _ =>
    BP N p0 v2 j7 n7 (v7.1 ++ (([(Ag.mk v11.fd v13 v11.fe)] : List Ag)), (wI .i64 (v7.2 + 1)))) N (v11.fa, 0, 0))
   (j7 v7.1)
def Fs (N : Nat) (p0 : Ag) : Option ((List Ag)) :=
 Df N p0 (fun (v2 : Int) =>
  BP N p0 v2 (fun (v8 : (List Ag)) =>
   some v8) N (([] : List Ag), 0)) N (0, 0)
def Cr (_ : Nat) (p0 : Ag) (p1 : Int) : Option Int :=
 (A8 p0.fd p1).bind fun v1 =>
 (Ef (0 ≤ v1)).bind fun _ =>
 Be (fun (v3 : Int) =>
  some v3)
 fun j3 =>
 (A8 p0.fa p1).bind fun v4 =>
 AY ((decide (0 ≤ v4)))
  ((A8 p0.fa p1).bind fun v6 =>
  (Ef (0 ≤ v6)).bind fun _ =>
  j3 (QF .u8 ((Dp .u8 1 v1)) ((Dp .u8 1 v6))))
  (j3 (Dp .u8 1 v1))
def C9 (_ : Nat) (p0 : Int) (p1 : Int) : Option Bool :=
 (Ef (0 ≤ p1)).bind fun _ =>
 some (((Hr .u8 ((FE .u8 p0 p1)) 1) == 1))
def BE (N : Nat) (p0 : Ae) (p1 : Ag) (v1 : (List Aa) × Int) (v4 : Ar) (v10 : (List Aa) × Int) (j17 : ((List Aa) × Bool) → Option ((List Aa))) : Nat → ((List Aa) × Bool × Int) → Option ((List Aa))
 | 0, _ => none
 | n17 + 1, v17 =>
  (A8 p0.fb v4.fk).bind fun v19 =>
  AY ((decide (v17.2.2 < v19)))
   (Be (fun (v21 : (List Aa) × Bool) =>
    BE N p0 p1 v1 v4 v10 j17 n17 (v21.1, v21.2, (wI .i64 (v17.2.2 + 1))))
   fun j21 =>
   (Cr N p1 v4.fk).bind fun v22 =>
   (C9 N v22 v17.2.2).bind fun v23 =>
   AY ((!v23))
    (j21 (v17.1, v17.2.1))
    (Be (fun (v25 : Bool) =>
     Be (fun (v29 : Bool) =>
      AY v29
       ((Ef (v17.1.length + (([(Aa.mk v1.2 v10.2 v17.2.2)] : List Aa)).length ≤ DM)).bind fun _ =>
       j21 (v17.1 ++ (([(Aa.mk v1.2 v10.2 v17.2.2)] : List Aa)), v25))
       (j21 (v17.1, v25)))
     fun j29 =>
     AY ((!v4.fp))
      ((A8 v4.fj v10.2).bind fun v31 =>
      (A8 v31 v17.2.2).bind fun v32 =>
      j29 (!v32))
      (j29 false))
    fun j25 =>
    AY v17.2.1
     (j25 true)
     ((A8 v4.fj v10.2).bind fun v27 =>
     (A8 v27 v17.2.2).bind fun v28 =>
     j25 v28)))
   (j17 (v17.1, v17.2.1))
def B4 (N : Nat) (p0 : Ae) (p1 : Ag) (v1 : (List Aa) × Int) (v4 : Ar) (v6 : Int) (j10 : ((List Aa)) → Option ((List Aa))) : Nat → ((List Aa) × Int) → Option ((List Aa))
 | 0, _ => none
 | n10 + 1, v10 =>
  (A8 p0.fb v4.fg).bind fun v12 =>
  AY ((decide (v10.2 < v12)))
   (Be (fun (v14 : (List Aa)) =>
    B4 N p0 p1 v1 v4 v6 j10 n10 (v14, (wI .i64 (v10.2 + 1))))
   fun j14 =>
   (C9 N v6 v10.2).bind fun v15 =>
   AY ((!v15))
    (j14 v10.1)
    (BE N p0 p1 v1 v4 v10 (fun (v18 : (List Aa) × Bool) =>
     Be (fun (v35 : Bool) =>
      AY v35
       ((Ef (v18.1.length + (([(Aa.mk v1.2 v10.2 ((-1)))] : List Aa)).length ≤ DM)).bind fun _ =>
       j14 (v18.1 ++ (([(Aa.mk v1.2 v10.2 ((-1)))] : List Aa))))
       (j14 v18.1))
     fun j35 =>
     AY v4.fp
      (j35 (!v18.2))
      (j35 false)) N (v10.1, false, 0)))
   (j10 v10.1)
def Do (N : Nat) (p0 : Ae) (p1 : Ag) (j1 : ((List Aa)) → Option ((List Aa))) : Nat → ((List Aa) × Int) → Option ((List Aa))
 | 0, _ => none
 | n1 + 1, v1 =>
  AY ((decide (v1.2 < (p0.fc.length : Int))))
   ((A8 p0.fc v1.2).bind fun v4 =>
   (Cr N p1 v4.fg).bind fun v5 =>
   Be (fun (v6 : Int) =>
    B4 N p0 p1 v1 v4 v6 (fun (v11 : (List Aa)) =>
     Do N p0 p1 j1 n1 (v11, (wI .i64 (v1.2 + 1)))) N (v1.1, 0))
   fun j6 =>
   (Bg N v4).bind fun v7 =>
   AY v7
    ((A8 p1.fe v1.2).bind fun v9 =>
    j6 v9)
    (j6 v5))
   (j1 v1.1)
def FC (N : Nat) (p0 : Ae) (p1 : Ag) : Option ((List Aa)) :=
 Do N p0 p1 (fun (v2 : (List Aa)) =>
  some v2) N (([] : List Aa), 0)
def Fk (N : Nat) (p0 : Ae) (p1 : Ag) : Option Bool :=
 (FC N p0 p1).bind fun v1 =>
 some (((v1.length : Int) == 0))
def CE (N : Nat) (p0 : Ae) (v1 : (List Ag)) (j2 : Unit → Option Bool) : Nat → Int → Option Bool
 | 0, _ => none
 | n2 + 1, v2 =>
  AY ((decide (v2 < (v1.length : Int))))
   ((A8 v1 v2).bind fun v5 =>
   (Fk N p0 v5).bind fun v6 =>
   AY ((!v6))
    (some false)
    (CE N p0 v1 j2 n2 (wI .i64 (v2 + 1))))
   (j2 ())
def D3 (N : Nat) (p0 : Ae) (p1 : Ag) : Option Bool :=
 (Fs N p1).bind fun v1 =>
 CE N p0 v1 (fun (_ : Unit) =>
  some true) N 0
def CO (N : Nat) (p0 : Ae) (p1 : Ag) (j7 : Unit → Option Int) : Nat → Int → Option Int
 | 0, _ => none
 | n7 + 1, v7 =>
  AY ((decide (v7 < (p0.fb.length : Int))))
   (Be (fun (v10 : Bool) =>
    AY v10
     (some 7)
     ((A8 p1.fd v7).bind fun v21 =>
     (A8 p1.fa v7).bind fun v22 =>
     AY ((v21 == v22))
      (some 1)
      (CO N p0 p1 j7 n7 (wI .i64 (v7 + 1)))))
   fun j10 =>
   (A8 p1.fd v7).bind fun v11 =>
   AY ((decide (v11 < 0)))
    (j10 true)
    ((A8 p1.fd v7).bind fun v13 =>
    (A8 p0.fb v7).bind fun v14 =>
    AY ((decide (v14 ≤ v13)))
     (j10 true)
     ((A8 p1.fa v7).bind fun v16 =>
     AY ((decide (v16 < (-1))))
      (j10 true)
      ((A8 p1.fa v7).bind fun v18 =>
      (A8 p0.fb v7).bind fun v19 =>
      j10 (decide (v19 ≤ v18))))))
   (j7 ())
def Cz (N : Nat) (p0 : Ae) (p1 : Ag) (j24 : Unit → Option Int) : Nat → Int → Option Int
 | 0, _ => none
 | n24 + 1, v24 =>
  AY ((decide (v24 < (p0.fc.length : Int))))
   ((A8 p0.fc v24).bind fun v27 =>
   (A8 p0.fb v27.fg).bind fun v28 =>
   (Ef (0 ≤ v28)).bind fun _ =>
   Be (fun (v30 : Bool) =>
    AY v30
     (some 1)
     (Cz N p0 p1 j24 n24 (wI .i64 (v24 + 1))))
   fun j30 =>
   (Bg N v27).bind fun v31 =>
   AY ((!v31))
    ((A8 p1.fe v24).bind fun v33 =>
    AY ((v33 != 0))
     (j30 true)
     ((Bg N v27).bind fun v35 =>
     AY v35
      ((A8 p1.fe v24).bind fun v37 =>
      AY (((Ei .u8 v37 ((wI .u8 ((Dp .u8 1 v28) - 1)))) != 0))
       (j30 true)
       ((Cr N p1 v27.fg).bind fun v39 =>
       (A8 p1.fe v24).bind fun v40 =>
       j30 ((Ei .u8 v39 v40) != 0)))
      (j30 false)))
    ((Bg N v27).bind fun v41 =>
    AY v41
     ((A8 p1.fe v24).bind fun v43 =>
     AY (((Ei .u8 v43 ((wI .u8 ((Dp .u8 1 v28) - 1)))) != 0))
      (j30 true)
      ((Cr N p1 v27.fg).bind fun v45 =>
      (A8 p1.fe v24).bind fun v46 =>
      j30 ((Ei .u8 v45 v46) != 0)))
     (j30 false)))
   (j24 ())
def FG (N : Nat) (p0 : Ae) (p1 : Ag) : Option Int :=
 (Dc N p0).bind fun v1 =>
 AY ((v1 != 0))
  (some v1)
  (Be (fun (v3 : Bool) =>
   AY v3
    (some 6)
    (CO N p0 p1 (fun (_ : Unit) =>
     Cz N p0 p1 (fun (_ : Unit) =>
      some 0) N 0) N 0))
  fun j3 =>
  AY (((p1.fd.length : Int) != (p0.fb.length : Int)))
   (j3 true)
   (AY (((p1.fa.length : Int) != (p0.fb.length : Int)))
    (j3 true)
    (j3 ((p1.fe.length : Int) != (p0.fc.length : Int)))))
def FB (_ : Nat) (p0 : Ai) : Option Bool :=
 Be (fun (v1 : Bool) =>
  some v1)
 fun j1 =>
 AY ((decide (1 ≤ p0.ff)))
  (AY ((decide (p0.ff ≤ 4)))
   (AY ((decide (0 ≤ p0.fi)))
    (AY ((decide (0 ≤ p0.fr)))
     (AY ((p0.ff == 1))
      (j1 true)
      (j1 (p0.fr == 0)))
     (j1 false))
    (j1 false))
   (j1 false))
  (j1 false)
def Cu (N : Nat) (p0 : Ae) (p2 : Ai) (j12 : ((List Int)) → Option (Ag × Bool)) : Nat → ((List Int) × Int) → Option (Ag × Bool)
 | 0, _ => none
 | n12 + 1, v12 =>
  AY ((decide (v12.2 < (p0.fc.length : Int))))
   (Be (fun (v15 : (List Int)) =>
    Cu N p0 p2 j12 n12 (v15, (wI .i64 (v12.2 + 1))))
   fun j15 =>
   Be (fun (v16 : Bool) =>
    AY v16
     ((A8 v12.1 v12.2).bind fun v22 =>
     (Ef (0 ≤ p2.fr)).bind fun _ =>
     (A8 v12.1 v12.2).bind fun _ =>
     j15 (v12.1.set ((v12.2).toNat) ((QF .u8 v22 ((Dp .u8 1 p2.fr))))))
     (j15 v12.1))
   fun j16 =>
   (A8 p0.fc v12.2).bind fun v17 =>
   AY ((v17.fg == p2.fi))
    ((A8 p0.fc v12.2).bind fun v19 =>
    (Bg N v19).bind fun v20 =>
    j16 v20)
    (j16 false))
   (j12 v12.1)
def B1 (N : Nat) (p0 : Ae) (p1 : Ag) (p2 : Ai) (v32 : Ar) (v35 : Int) (j38 : Unit → Option (Ag × Bool)) : Nat → Int → Option (Ag × Bool)
 | 0, _ => none
 | n38 + 1, v38 =>
  (A8 p0.fb v32.fg).bind fun v40 =>
  AY ((decide (v38 < v40)))
   (Be (fun (v42 : Bool) =>
    Be (fun (v47 : Bool) =>
     AY v47
      (some ((Ag.mk (([] : List Int)) (([] : List Int)) (([] : List Int))), false))
      (B1 N p0 p1 p2 v32 v35 j38 n38 (wI .i64 (v38 + 1))))
    fun j47 =>
    AY v42
     (AY ((v32.ff == 4))
      ((A8 v32.fm v38).bind fun v50 =>
      (A8 p1.fd v32.fg).bind fun v51 =>
      (A8 v50 v51).bind fun v52 =>
      j47 (!v52))
      (j47 false))
     (j47 false))
   fun j42 =>
   (A8 p1.fe p2.fi).bind fun v43 =>
   (C9 N v43 v38).bind fun v44 =>
   AY v44
    ((C9 N v35 v38).bind fun v46 =>
    j42 (!v46))
    (j42 false))
   (j38 ())
def Dy (N : Nat) (p0 : Ae) (p1 : Ag) (p2 : Ai) : Option (Ag × Bool) :=
 (Ef ((([] : List Int)).length + p1.fd.length ≤ DM)).bind fun _ =>
 (Ef ((([] : List Int)).length + p1.fa.length ≤ DM)).bind fun _ =>
 (Ef ((([] : List Int)).length + p1.fe.length ≤ DM)).bind fun _ =>
 Be (fun (v4 : (List Int) × (List Int) × (List Int)) =>
  some ((Ag.mk v4.1 v4.2.1 v4.2.2), true))
 fun j4 =>
 AY ((p2.ff == 1))
  (Be (fun (v6 : Bool) =>
   AY v6
    (some ((Ag.mk (([] : List Int)) (([] : List Int)) (([] : List Int))), false))
    ((A8 ((([] : List Int)) ++ p1.fa) p2.fi).bind fun _ =>
    Cu N p0 p2 (fun (v13 : (List Int)) =>
     j4 ((([] : List Int)) ++ p1.fd, ((([] : List Int)) ++ p1.fa).set ((p2.fi).toNat) p2.fr, v13)) N ((([] : List Int)) ++ p1.fe, 0)))
  fun j6 =>
  (A8 p1.fa p2.fi).bind fun v7 =>
  AY ((decide (0 ≤ v7)))
   (j6 true)
   ((A8 p1.fd p2.fi).bind fun v9 =>
   j6 (p2.fr == v9)))
  (AY ((p2.ff == 2))
   ((A8 p1.fa p2.fi).bind fun v26 =>
   AY ((decide (v26 < 0)))
    (some ((Ag.mk (([] : List Int)) (([] : List Int)) (([] : List Int))), false))
    ((A8 p1.fa p2.fi).bind fun v28 =>
    (A8 ((([] : List Int)) ++ p1.fd) p2.fi).bind fun _ =>
    (A8 ((([] : List Int)) ++ p1.fa) p2.fi).bind fun _ =>
    j4 (((([] : List Int)) ++ p1.fd).set ((p2.fi).toNat) v28, ((([] : List Int)) ++ p1.fa).set ((p2.fi).toNat) ((-1)), (([] : List Int)) ++ p1.fe)))
   (AY ((p2.ff == 3))
    ((A8 p0.fc p2.fi).bind fun v32 =>
    (Bg N v32).bind fun v33 =>
    AY ((!v33))
     (some ((Ag.mk (([] : List Int)) (([] : List Int)) (([] : List Int))), false))
     ((Cr N p1 v32.fg).bind fun v35 =>
     (A8 p1.fe p2.fi).bind fun v36 =>
     AY ((v36 == v35))
      (some ((Ag.mk (([] : List Int)) (([] : List Int)) (([] : List Int))), false))
      (B1 N p0 p1 p2 v32 v35 (fun (_ : Unit) =>
       (A8 ((([] : List Int)) ++ p1.fe) p2.fi).bind fun _ =>
       j4 ((([] : List Int)) ++ p1.fd, (([] : List Int)) ++ p1.fa, ((([] : List Int)) ++ p1.fe).set ((p2.fi).toNat) v35)) N 0)))
    ((A8 p1.fa p2.fi).bind fun v55 =>
    AY ((decide (v55 < 0)))
     (some ((Ag.mk (([] : List Int)) (([] : List Int)) (([] : List Int))), false))
     ((A8 ((([] : List Int)) ++ p1.fa) p2.fi).bind fun _ =>
     j4 ((([] : List Int)) ++ p1.fd, ((([] : List Int)) ++ p1.fa).set ((p2.fi).toNat) ((-1)), (([] : List Int)) ++ p1.fe)))))
def FM (N : Nat) (p0 : Ae) (p1 : Ag) (p2 : Ai) : Option (Ag × Int) :=
 (FG N p0 p1).bind fun v1 =>
 AY ((v1 != 0))
  (some ((Ag.mk (([] : List Int)) (([] : List Int)) (([] : List Int))), v1))
  ((FB N p2).bind fun v3 =>
  AY ((!v3))
   (some ((Ag.mk (([] : List Int)) (([] : List Int)) (([] : List Int))), 1))
   (Be (fun (v5 : Bool) =>
    AY v5
     (some ((Ag.mk (([] : List Int)) (([] : List Int)) (([] : List Int))), 4))
     (Be (fun (v11 : Bool) =>
      AY v11
       (some ((Ag.mk (([] : List Int)) (([] : List Int)) (([] : List Int))), 4))
       ((Dy N p0 p1 p2).bind fun v15 =>
       AY ((!v15.2))
        (some ((Ag.mk (([] : List Int)) (([] : List Int)) (([] : List Int))), 11))
        (some (v15.1, 0))))
     fun j11 =>
     AY ((p2.ff == 1))
      ((A8 p0.fb p2.fi).bind fun v13 =>
      j11 (decide (v13 ≤ p2.fr)))
      (j11 false)))
   fun j5 =>
   AY ((p2.ff == 3))
    (AY ((decide ((p0.fc.length : Int) ≤ p2.fi)))
     (j5 true)
     (AY ((p2.ff != 3))
      (j5 (decide ((p0.fb.length : Int) ≤ p2.fi)))
      (j5 false)))
    (AY ((p2.ff != 3))
     (j5 (decide ((p0.fb.length : Int) ≤ p2.fi)))
     (j5 false))))
def CJ (N : Nat) (p0 : Ae) (p1 : Ag) (v1 : (List Ai) × Int) (v4 : (List Ai) × Int) (j7 : ((List Ai)) → Option ((List Ai))) : Nat → ((List Ai) × Int) → Option ((List Ai))
 | 0, _ => none
 | n7 + 1, v7 =>
  AY ((decide (v7.2 < 6)))
   (Be (fun (v10 : (List Ai)) =>
    CJ N p0 p1 v1 v4 j7 n7 (v10, (wI .i64 (v7.2 + 1))))
   fun j10 =>
   (FM N p0 p1 ((Ai.mk v1.2 v4.2 v7.2))).bind fun v11 =>
   AY ((v11.2 == 0))
    ((Ef (v7.1.length + (([(Ai.mk v1.2 v4.2 v7.2)] : List Ai)).length ≤ DM)).bind fun _ =>
    j10 (v7.1 ++ (([(Ai.mk v1.2 v4.2 v7.2)] : List Ai))))
    (j10 v7.1))
   (j7 v7.1)
def CK (N : Nat) (p0 : Ae) (p1 : Ag) (v1 : (List Ai) × Int) (j4 : ((List Ai)) → Option ((List Ai))) : Nat → ((List Ai) × Int) → Option ((List Ai))
 | 0, _ => none
 | n4 + 1, v4 =>
  AY ((decide (v4.2 < (WC ((p0.fb.length : Int)) ((p0.fc.length : Int))))))
   (CJ N p0 p1 v1 v4 (fun (v8 : (List Ai)) =>
    CK N p0 p1 v1 j4 n4 (v8, (wI .i64 (v4.2 + 1)))) N (v4.1, 0))
   (j4 v4.1)
def BM (N : Nat) (p0 : Ae) (p1 : Ag) (j1 : ((List Ai)) → Option ((List Ai))) : Nat → ((List Ai) × Int) → Option ((List Ai))
 | 0, _ => none
 | n1 + 1, v1 =>
  AY ((decide (v1.2 ≤ 3)))
   (CK N p0 p1 v1 (fun (v5 : (List Ai)) =>
    BM N p0 p1 j1 n1 (v5, (wI .i64 (v1.2 + 1)))) N (v1.1, 0))
   (j1 v1.1)
def FI (N : Nat) (p0 : Ae) (p1 : Ag) : Option ((List Ai)) :=
 BM N p0 p1 (fun (v2 : (List Ai)) =>
  some v2) N (([] : List Ai), 1)
def Ej (N : Nat) (p0 : List Int) (p1 : List Int) (j1 : Unit → Option Int) : Nat → Int → Option Int
 | 0, _ => none
 | n1 + 1, v1 =>
  Be (fun (v3 : Bool) =>
   AY v3
    ((A8 p0 v1).bind fun v6 =>
    (A8 p1 v1).bind fun v7 =>
    AY ((decide (v6 < v7)))
     (some ((-1)))
     ((A8 p0 v1).bind fun v9 =>
     (A8 p1 v1).bind fun v10 =>
     AY ((decide (v10 < v9)))
      (some 1)
      (Ej N p0 p1 j1 n1 (wI .i64 (v1 + 1)))))
    (j1 ()))
  fun j3 =>
  AY ((decide (v1 < (p0.length : Int))))
   (j3 (decide (v1 < (p1.length : Int))))
   (j3 false)
def Er (N : Nat) (p0 : List Int) (p1 : List Int) : Option Int :=
 Ej N p0 p1 (fun (_ : Unit) =>
  AY ((decide ((p0.length : Int) < (p1.length : Int))))
   (some ((-1)))
   (AY ((decide ((p1.length : Int) < (p0.length : Int))))
    (some 1)
    (some 0))) N 0
def DD (N : Nat) (p0 : List Int) (j1 : ((List Int)) → Option ((List Int))) : Nat → ((List Int) × Int) → Option ((List Int))
 | 0, _ => none
 | n1 + 1, v1 =>
  AY ((decide (v1.2 < (p0.length : Int))))
   ((A8 p0 v1.2).bind fun v4 =>
   (Ef (v1.1.length + (([(wI .i64 v4)] : List Int)).length ≤ DM)).bind fun _ =>
   DD N p0 j1 n1 (v1.1 ++ (([(wI .i64 v4)] : List Int)), (wI .i64 (v1.2 + 1))))
   (j1 v1.1)
def Ek (N : Nat) (p0 : List Int) : Option ((List Int)) :=
 DD N p0 (fun (v2 : (List Int)) =>
  some v2) N (([] : List Int), 0)
def E5 (N : Nat) (p0 : Ag) (p1 : Ag) : Option Int :=
 (Er N p0.fd p1.fd).bind fun v1 =>
 AY ((v1 != 0))
  (some v1)
  ((Er N p0.fa p1.fa).bind fun v3 =>
  AY ((v3 != 0))
   (some v3)
   ((Ek N p0.fe).bind fun v5 =>
   (Ek N p1.fe).bind fun v6 =>
   (Er N v5 v6).bind fun v7 =>
   some v7))
def FD (N : Nat) (p0 : Ag) (p1 : Ag) : Option Bool :=
 (E5 N p0 p1).bind fun v1 =>
 some ((v1 == 0))
def C2 (N : Nat) (p0 : List AN) (p1 : Ag) (j1 : Unit → Option Int) : Nat → Int → Option Int
 | 0, _ => none
 | n1 + 1, v1 =>
  AY ((decide (v1 < (p0.length : Int))))
   ((A8 p0 v1).bind fun v4 =>
   (FD N ((Ag.mk v4.fy.fd v4.fy.fa v4.fy.fe)) p1).bind fun v5 =>
   AY v5
    (some v1)
    (C2 N p0 p1 j1 n1 (wI .i64 (v1 + 1))))
   (j1 ())
def Fb (N : Nat) (p0 : List AN) (p1 : Ag) : Option Int :=
 C2 N p0 p1 (fun (_ : Unit) =>
  some ((-1))) N 0
def Cb (N : Nat) (p0 : Ae) (p2 : Int) (v1 : (List AN) × Int) (v5 : (List Ai)) (j6 : ((List AN)) → Option ((List AN) × Bool)) : Nat → ((List AN) × Int) → Option ((List AN) × Bool)
 | 0, _ => none
 | n6 + 1, v6 =>
  AY ((decide (v6.2 < (v5.length : Int))))
   ((A8 v6.1 v1.2).bind fun v9 =>
   (A8 v5 v6.2).bind fun v10 =>
   (Dy N p0 ((Ag.mk v9.fy.fd v9.fy.fa v9.fy.fe)) v10).bind fun v11 =>
   Be (fun (v12 : (List AN)) =>
    AY ((decide (p2 < (v12.length : Int))))
     (some (([] : List AN), false))
     (Cb N p0 p2 v1 v5 j6 n6 (v12, (wI .i64 (v6.2 + 1)))))
   fun j12 =>
   Be (fun (v13 : Bool) =>
    AY v13
     ((A8 v5 v6.2).bind fun v18 =>
     (Ef (v6.1.length + (([(AN.mk v11.1 v1.2 v18)] : List AN)).length ≤ DM)).bind fun _ =>
     j12 (v6.1 ++ (([(AN.mk v11.1 v1.2 v18)] : List AN))))
     (j12 v6.1))
   fun j13 =>
   (D3 N p0 v11.1).bind fun v14 =>
   AY v14
    ((Fb N v6.1 v11.1).bind fun v16 =>
    j13 (decide (v16 < 0)))
    (j13 false))
   (j6 v6.1)
def B9 (N : Nat) (p0 : Ae) (p2 : Int) (j1 : ((List AN)) → Option ((List AN) × Bool)) : Nat → ((List AN) × Int) → Option ((List AN) × Bool)
 | 0, _ => none
 | n1 + 1, v1 =>
  AY ((decide (v1.2 < (v1.1.length : Int))))
   ((A8 v1.1 v1.2).bind fun v4 =>
   (FI N p0 ((Ag.mk v4.fy.fd v4.fy.fa v4.fy.fe))).bind fun v5 =>
   Cb N p0 p2 v1 v5 (fun (v7 : (List AN)) =>
    B9 N p0 p2 j1 n1 (v7, (wI .i64 (v1.2 + 1)))) N (v1.1, 0))
   (j1 v1.1)
def EQ (N : Nat) (p0 : Ae) (p1 : Ag) (p2 : Int) : Option ((List AN) × Bool) :=
 B9 N p0 p2 (fun (v2 : (List AN)) =>
  some (v2, true)) N (([(AN.mk p1 ((-1)) ((Ai.mk 0 0 0)))] : List AN), 0)
def FL (N : Nat) (p0 : Ae) (p1 : Int) : Option Bool :=
 (FF N p0).bind fun v1 =>
 Be (fun (v2 : Bool) =>
  AY v2
   (some true)
   ((EQ N p0 v1.1 p1).bind fun v6 =>
   some v6.2))
 fun j2 =>
 AY ((v1.2 != 0))
  (j2 true)
  ((D3 N p0 v1.1).bind fun v4 =>
  j2 (!v4))
def Gx (N : Nat) (p0 : Ae) : Option Bool :=
 (E3 N p0).bind fun v1 =>
 Be (fun (v2 : Bool) =>
  some v2)
 fun j2 =>
 AY ((decide ((v1.length : Int) ≤ 7)))
  ((F1 N p0 v1).bind fun v4 =>
  (FL N v4 60).bind fun v5 =>
  j2 v5)
  (j2 false)
def GG (N : Nat) (p0 : BW) : Option (Ae × Bool) :=
 (GH N p0).bind fun v1 =>
 Be (fun (v2 : Bool) =>
  some (v1.1, v2))
 fun j2 =>
 AY v1.2
  (AY ((decide ((v1.1.fb.length : Int) ≤ 2)))
   ((Gx N v1.1).bind fun v5 =>
   j2 v5)
   (j2 false))
  (j2 false)
def El (_ : Nat) : Option Ae :=
 some ((Ae.mk (([2, 2] : List Int)) (([0, 0] : List Int)) (([1, 1] : List Int)) (([(Ar.mk 1 0 1 false (([([true, false] : List Bool), ([false, true] : List Bool)] : List (List Bool))) (([] : List (List Bool))))] : List Ar))))
def Fe (_ : Nat) (p0 : Int) (p1 : Int) : Option Bool :=
 Be (fun (v1 : Bool) =>
  some v1)
 fun j1 =>
 AY ((decide (0 ≤ p0)))
  (j1 (decide (p0 < p1)))
  (j1 false)
def Il (_ : Nat) (p0 : Int) (p1 : Bool) : Option Bool :=
 Be (fun (v1 : Bool) =>
  some v1)
 fun j1 =>
 AY ((p0 == 1))
  (j1 true)
  (AY ((p0 == 2))
   (j1 true)
   (AY ((p0 == 3))
    (j1 (!p1))
    (AY ((p0 == 4))
     (j1 (!p1))
     (j1 false))))
def E6 (_ : Nat) (p0 : List Bool) (p1 : Int) : Option Bool :=
 some (((p0.length : Int) != p1))
def BH (N : Nat) (p0 : List (List Bool)) (p1 : (List Bool) → Option Bool) (j1 : Unit → Option Int) : Nat → Int → Option Int
 | 0, _ => none
 | n1 + 1, v1 =>
  AY ((decide (v1 < (p0.length : Int))))
   ((A8 p0 v1).bind fun v4 =>
   (p1 v4).bind fun v5 =>
   AY v5
    (some v1)
    (BH N p0 p1 j1 n1 (wI .i64 (v1 + 1))))
   (j1 ())
def Ez (N : Nat) (p0 : List (List Bool)) (p1 : (List Bool) → Option Bool) : Option Int :=
 BH N p0 p1 (fun (_ : Unit) =>
  some ((-1))) N 0
def DV (N : Nat) (p0 : List (List Bool)) (p1 : (List Bool) → Option Bool) : Option Bool :=
 (Ez N p0 p1).bind fun v1 =>
 some ((decide (0 ≤ v1)))
def Gu (N : Nat) (p0 : List (List Bool)) (p1 : Int) (p2 : Int) : Option Bool :=
 Be (fun (v1 : Bool) =>
  some v1)
 fun j1 =>
 AY (((p0.length : Int) == p1))
  ((DV N p0 ((fun (x : List Bool) => E6 N x p2))).bind fun v3 =>
  j1 (!v3))
  (j1 false)
def D6 (N : Nat) (p1 : Ar) (j19 : Unit → Option Int) : Nat → Int → Option Int
 | 0, _ => none
 | n19 + 1, v19 =>
  AY ((decide (v19 < (p1.fm.length : Int))))
   ((A8 p1.fm v19).bind fun v22 =>
   (A8 v22 v19).bind fun v23 =>
   AY ((!v23))
    (some 1)
    (D6 N p1 j19 n19 (wI .i64 (v19 + 1))))
   (j19 ())
def HL (N : Nat) (p0 : Ae) (p1 : Ar) : Option Int :=
 (Il N p1.ff p1.fp).bind fun v1 =>
 AY ((!v1))
  (some 1)
  (Be (fun (v3 : Bool) =>
   AY v3
    (some 4)
    ((A8 p0.fb p1.fg).bind fun v8 =>
    Be (fun (v9 : Bool) =>
     AY v9
      (some 6)
      (D6 N p1 (fun (_ : Unit) =>
       some 0) N 0))
    fun j9 =>
    (A8 p0.fb p1.fk).bind fun v10 =>
    (Gu N p1.fj v8 v10).bind fun v11 =>
    AY ((!v11))
     (j9 true)
     (AY ((p1.ff == 4))
      ((Gu N p1.fm v8 v8).bind fun v14 =>
      AY ((!v14))
       (j9 true)
       (AY ((!((p1.ff == 4))))
        (j9 (decide (0 < (p1.fm.length : Int))))
        (j9 false)))
      (AY ((!((p1.ff == 4))))
       (j9 (decide (0 < (p1.fm.length : Int))))
       (j9 false)))))
  fun j3 =>
  (Fe N p1.fg ((p0.fb.length : Int))).bind fun v4 =>
  AY ((!v4))
   (j3 true)
   ((Fe N p1.fk ((p0.fb.length : Int))).bind fun v6 =>
   j3 (!v6)))
def Cv (N : Nat) (p0 : Ae) (j7 : Unit → Option Int) : Nat → Int → Option Int
 | 0, _ => none
 | n7 + 1, v7 =>
  AY ((decide (v7 < (p0.fb.length : Int))))
   ((A8 p0.fb v7).bind fun v10 =>
   Be (fun (v11 : Bool) =>
    AY v11
     (some 7)
     (Cv N p0 j7 n7 (wI .i64 (v7 + 1))))
   fun j11 =>
   AY ((decide (v10 < 1)))
    (j11 true)
    (AY ((decide (6 < v10)))
     (j11 true)
     ((A8 p0.fh v7).bind fun v14 =>
     (Fe N v14 v10).bind fun v15 =>
     AY ((!v15))
      (j11 true)
      ((A8 p0.fo v7).bind fun v17 =>
      (Fe N v17 v10).bind fun v18 =>
      j11 (!v18)))))
   (j7 ())
def Ch (N : Nat) (p0 : Ae) (j20 : Unit → Option Int) : Nat → Int → Option Int
 | 0, _ => none
 | n20 + 1, v20 =>
  AY ((decide (v20 < (p0.fc.length : Int))))
   ((A8 p0.fc v20).bind fun v23 =>
   (HL N p0 v23).bind fun v24 =>
   AY ((v24 != 0))
    (some v24)
    (Ch N p0 j20 n20 (wI .i64 (v20 + 1))))
   (j20 ())
def BQ (N : Nat) (p0 : Ae) : Option Int :=
 Be (fun (v1 : Bool) =>
  AY v1
   (some 3)
   (Be (fun (v4 : Bool) =>
    AY v4
     (some 6)
     (Cv N p0 (fun (_ : Unit) =>
      Ch N p0 (fun (_ : Unit) =>
       some 0) N 0) N 0))
   fun j4 =>
   AY (((p0.fh.length : Int) != (p0.fb.length : Int)))
    (j4 true)
    (j4 ((p0.fo.length : Int) != (p0.fb.length : Int)))))
 fun j1 =>
 AY ((decide (6 < (p0.fb.length : Int))))
  (j1 true)
  (j1 (decide (12 < (p0.fc.length : Int))))
def DT (N : Nat) (v1 : (List Aa) × Int) (v5 : (List Aa) × Int) (v8 : List Bool) (j9 : ((List Aa)) → Option ((List Aa))) : Nat → ((List Aa) × Int) → Option ((List Aa))
 | 0, _ => none
 | n9 + 1, v9 =>
  AY ((decide (v9.2 < (v8.length : Int))))
   (Be (fun (v12 : (List Aa)) =>
    DT N v1 v5 v8 j9 n9 (v12, (wI .i64 (v9.2 + 1))))
   fun j12 =>
   (A8 v8 v9.2).bind fun v13 =>
   AY ((!v13))
    ((Ef (v9.1.length + (([(Aa.mk v1.2 v5.2 v9.2)] : List Aa)).length ≤ DM)).bind fun _ =>
    j12 (v9.1 ++ (([(Aa.mk v1.2 v5.2 v9.2)] : List Aa))))
    (j12 v9.1))
   (j9 v9.1)
def De (N : Nat) (v1 : (List Aa) × Int) (v4 : Ar) (j5 : ((List Aa)) → Option ((List Aa))) : Nat → ((List Aa) × Int) → Option ((List Aa))
 | 0, _ => none
 | n5 + 1, v5 =>
  AY ((decide (v5.2 < (v4.fj.length : Int))))
   ((A8 v4.fj v5.2).bind fun v8 =>
   DT N v1 v5 v8 (fun (v10 : (List Aa)) =>
    De N v1 v4 j5 n5 (v10, (wI .i64 (v5.2 + 1)))) N (v5.1, 0))
   (j5 v5.1)
def CI (N : Nat) (p0 : Ae) (j1 : ((List Aa)) → Option ((List Aa))) : Nat → ((List Aa) × Int) → Option ((List Aa))
 | 0, _ => none
 | n1 + 1, v1 =>
  AY ((decide (v1.2 < (p0.fc.length : Int))))
   ((A8 p0.fc v1.2).bind fun v4 =>
   De N v1 v4 (fun (v6 : (List Aa)) =>
    CI N p0 j1 n1 (v6, (wI .i64 (v1.2 + 1)))) N (v1.1, 0))
   (j1 v1.1)
def EK (N : Nat) (p0 : Ae) : Option ((List Aa)) :=
 CI N p0 (fun (v2 : (List Aa)) =>
  some v2) N (([] : List Aa), 0)
def Fv (N : Nat) (p0 : Ae) : Option ((List Aa) × Int) :=
 (BQ N p0).bind fun v1 =>
 AY ((v1 != 0))
  (some (([] : List Aa), v1))
  ((EK N p0).bind fun v3 =>
  some (v3, 0))
def EG (N : Nat) (v5 : Aa) (v7 : (List (List Aa))) (j8 : ((List (List Aa))) → Option ((List (List Aa)))) : Nat → ((List (List Aa)) × Int) → Option ((List (List Aa)))
 | 0, _ => none
 | n8 + 1, v8 =>
  AY ((decide (v8.2 < (v7.length : Int))))
   ((A8 v7 v8.2).bind fun v11 =>
   (Ef ((([v5] : List Aa)).length + v11.length ≤ DM)).bind fun _ =>
   (Ef (v8.1.length + (([(([v5] : List Aa)) ++ v11] : List (List Aa))).length ≤ DM)).bind fun _ =>
   EG N v5 v7 j8 n8 (v8.1 ++ (([(([v5] : List Aa)) ++ v11] : List (List Aa))), (wI .i64 (v8.2 + 1))))
   (j8 v8.1)
def Ec (N : Nat) (p0 : List Aa) (p1 : Int) (rc : (List Aa) → Int → Option ((List (List Aa)))) (j2 : ((List (List Aa))) → Option ((List (List Aa)))) : Nat → ((List (List Aa)) × Int) → Option ((List (List Aa)))
 | 0, _ => none
 | n2 + 1, v2 =>
  AY ((decide (v2.2 < (p0.length : Int))))
   ((A8 p0 v2.2).bind fun v5 =>
   (Ef ((0 : Int) ≤ (wI .i64 (v2.2 + 1)) ∧ ((wI .i64 (v2.2 + 1))).toNat ≤ p0.length ∧ p0.length ≤ p0.length)).bind fun _ =>
   (rc (((p0.drop ((wI .i64 (v2.2 + 1))).toNat).take (p0.length - ((wI .i64 (v2.2 + 1))).toNat))) ((wI .i64 (p1 - 1)))).bind fun v7 =>
   EG N v5 v7 (fun (v9 : (List (List Aa))) =>
    Ec N p0 p1 rc j2 n2 (v9, (wI .i64 (v2.2 + 1)))) N (v2.1, 0))
   (j2 v2.1)
def Ht (N : Nat) (rc : (List Aa) → Int → Option ((List (List Aa)))) (p0 : List Aa) (p1 : Int) : Option ((List (List Aa))) :=
 AY ((p1 == 0))
  (some (([([] : List Aa)] : List (List Aa))))
  (Ec N p0 p1 rc (fun (v3 : (List (List Aa))) =>
   some v3) N (([] : List (List Aa)), 0))
def Ew (N : Nat) : Nat → (List Aa) → Int → Option ((List (List Aa)))
 | 0, _, _ => none
 | k + 1, p0, p1 => Ht N (Ew N k) p0 p1
def Jw (N : Nat) (p0 : List Aa) (p1 : Int) : Option ((List (List Aa))) := Ew N N p0 p1
def A7 (_ : Nat) (p0 : List Int) : Option ((List Int)) :=
 (Ef ((([] : List Int)).length + p0.length ≤ DM)).bind fun _ =>
 some ((([] : List Int)) ++ p0)
def DA (_ : Nat) (p0 : List (List Bool)) : Option ((List (List Bool))) :=
 (Ef ((([] : List (List Bool))).length + p0.length ≤ DM)).bind fun _ =>
 some ((([] : List (List Bool))) ++ p0)
def Db (_ : Nat) (p0 : List Bool) : Option ((List Bool)) :=
 (Ef ((([] : List Bool)).length + p0.length ≤ DM)).bind fun _ =>
 some ((([] : List Bool)) ++ p0)
def Ea (N : Nat) (v1 : (List (List Bool))) (j3 : ((List (List Bool))) → Option Ar) : Nat → ((List (List Bool)) × Int) → Option Ar
 | 0, _ => none
 | n3 + 1, v3 =>
  AY ((decide (v3.2 < (v1.length : Int))))
   ((A8 v3.1 v3.2).bind fun v6 =>
   (Db N v6).bind fun v7 =>
   (A8 v3.1 v3.2).bind fun _ =>
   (Ef (((v3.2).toNat) + 1 = ((wI .i64 (v3.2 + 1))).toNat)).bind fun _ =>
   Ea N v1 j3 n3 (v3.1.set ((v3.2).toNat) v7, (wI .i64 (v3.2 + 1))))
   ((Ef ((v3.2).toNat = v3.1.length)).bind fun _ =>
   j3 v3.1)
def Cd (N : Nat) (v2 : (List (List Bool))) (j11 : ((List (List Bool))) → Option Ar) : Nat → ((List (List Bool)) × Int) → Option Ar
 | 0, _ => none
 | n11 + 1, v11 =>
  AY ((decide (v11.2 < (v2.length : Int))))
   ((A8 v11.1 v11.2).bind fun v14 =>
   (Db N v14).bind fun v15 =>
   (A8 v11.1 v11.2).bind fun _ =>
   (Ef (((v11.2).toNat) + 1 = ((wI .i64 (v11.2 + 1))).toNat)).bind fun _ =>
   Cd N v2 j11 n11 (v11.1.set ((v11.2).toNat) v15, (wI .i64 (v11.2 + 1))))
   ((Ef ((v11.2).toNat = v11.1.length)).bind fun _ =>
   j11 v11.1)
def GA (N : Nat) (p0 : Ar) : Option Ar :=
 (DA N p0.fj).bind fun v1 =>
 (DA N p0.fm).bind fun v2 =>
 Ea N v1 (fun (v4 : (List (List Bool))) =>
  Cd N v2 (fun (v12 : (List (List Bool))) =>
   some ((Ar.mk p0.ff p0.fg p0.fk p0.fp v4 v12))) N (v2, 0)) N (v1, 0)
def DU (N : Nat) (p0 : Ae) (j6 : ((List Ar)) → Option (Ae × Int)) : Nat → ((List Ar) × Int) → Option (Ae × Int)
 | 0, _ => none
 | n6 + 1, v6 =>
  AY ((decide (v6.2 < (p0.fc.length : Int))))
   ((A8 p0.fc v6.2).bind fun v9 =>
   (GA N v9).bind fun v10 =>
   (Ef (v6.1.length + (([v10] : List Ar)).length ≤ DM)).bind fun _ =>
   DU N p0 j6 n6 (v6.1 ++ (([v10] : List Ar)), (wI .i64 (v6.2 + 1))))
   (j6 v6.1)
def Gp (N : Nat) (p0 : Ae) (p1 : List Int) (p2 : List Int) : Option (Ae × Int) :=
 (BQ N p0).bind fun v1 =>
 AY ((v1 != 0))
  (some ((Ae.mk (([] : List Int)) (([] : List Int)) (([] : List Int)) (([] : List Ar))), v1))
  ((A7 N p0.fb).bind fun v3 =>
  (A7 N p1).bind fun v4 =>
  (A7 N p2).bind fun v5 =>
  DU N p0 (fun (v7 : (List Ar)) =>
   (BQ N ((Ae.mk v3 v4 v5 v7))).bind fun v12 =>
   AY ((v12 != 0))
    (some ((Ae.mk (([] : List Int)) (([] : List Int)) (([] : List Int)) (([] : List Ar))), v12))
    (some ((Ae.mk v3 v4 v5 v7), 0))) N (([] : List Ar), 0))
def EJ (N : Nat) (p1 : List Aa) (j2 : ((List Ar)) → Option Ae) : Nat → ((List Ar) × Int) → Option Ae
 | 0, _ => none
 | n2 + 1, v2 =>
  AY ((decide (v2.2 < (p1.length : Int))))
   ((A8 p1 v2.2).bind fun v5 =>
   (A8 v2.1 v5.fw).bind fun v6 =>
   (A8 v6.fj v5.fv).bind fun v7 =>
   (A8 v7 v5.fu).bind fun _ =>
   EJ N p1 j2 n2 (v2.1.set ((v5.fw).toNat) ((Ar.mk v6.ff v6.fg v6.fk v6.fp (v6.fj.set ((v5.fv).toNat) (v7.set ((v5.fu).toNat) true)) v6.fm)), (wI .i64 (v2.2 + 1))))
   (j2 v2.1)
def Hh (N : Nat) (p0 : Ae) (p1 : List Aa) : Option Ae :=
 (Gp N p0 p0.fh p0.fo).bind fun v1 =>
 EJ N p1 (fun (v3 : (List Ar)) =>
  some ((Ae.mk v1.1.fb v1.1.fh v1.1.fo v3))) N (v1.1.fc, 0)
def Iw (_ : Nat) (p0 : Int) (p1 : Int) : Option (Int × Int) :=
 some ((wI .u32 ((FE .u64 ((wI .u64 ((wI .u64 p0) * (wI .u64 p1)))) 32))), (wI .u32 ((wI .u64 ((wI .u64 p0) * (wI .u64 p1))))))
def Ip (_ : Nat) (p0 : Int) (p1 : Int) : Option (Int × Int) :=
 some ((wI .u64 ((wI .u64 ((wI .u64 ((FE .u64 p0 32) * (FE .u64 p1 32))) + (FE .u64 ((wI .u64 ((wI .u64 ((FE .u64 p0 32) * (Hr .u64 p1 4294967295))) + (FE .u64 ((wI .u64 ((Hr .u64 p0 4294967295) * (Hr .u64 p1 4294967295)))) 32)))) 32))) + (FE .u64 ((wI .u64 ((Hr .u64 ((wI .u64 ((wI .u64 ((FE .u64 p0 32) * (Hr .u64 p1 4294967295))) + (FE .u64 ((wI .u64 ((Hr .u64 p0 4294967295) * (Hr .u64 p1 4294967295)))) 32)))) 4294967295) + (wI .u64 ((Hr .u64 p0 4294967295) * (FE .u64 p1 32)))))) 32))), (wI .u64 (p0 * p1)))
def Ja (N : Nat) (p0 : Int) (p1 : Int) : Option (Int × Int) :=
 AY false
  ((Iw N ((wI .u32 p0)) ((wI .u32 p1))).bind fun v2 =>
  some ((wI .u64 v2.1), (wI .u64 v2.2)))
  ((Ip N p0 p1).bind fun v3 =>
  some (v3.1, v3.2))
def EY (N : Nat) (j9 : ((List Int)) → Option ((List Int))) : Nat → ((List Int) × Int) → Option ((List Int))
 | 0, _ => none
 | n9 + 1, v9 =>
  AY ((decide (v9.2 < (v9.1.length : Int))))
   ((Ef ((0 : Int) ≤ v9.2 ∧ (v9.2).toNat ≤ v9.1.length ∧ v9.1.length ≤ v9.1.length)).bind fun _ =>
   (Ef ((0 : Int) ≤ v9.2 ∧ 0 ≤ (v9.2).toNat ∧ (v9.2).toNat ≤ v9.1.length)).bind fun _ =>
   EY N j9 n9 (HC v9.1 ((v9.2).toNat) ((((v9.1.drop 0).take ((v9.2).toNat))).take (Nat.min (((v9.1.drop 0).take ((v9.2).toNat))).length ((v9.1.length - (v9.2).toNat)))), (wI .i64 (v9.2 + (((Nat.min (((v9.1.drop 0).take ((v9.2).toNat))).length ((v9.1.length - (v9.2).toNat))) : Nat) : Int)))))
   (j9 v9.1)
def Fy (N : Nat) (p0 : List Int) (p1 : Int) : Option ((List Int)) :=
 Be (fun (_ : Unit) =>
  (Ja N ((wI .u64 ((p0.length : Int)))) ((wI .u64 p1))).bind fun v3 =>
  Be (fun (_ : Unit) =>
   (Ef ((0 : Int) ≤ (wI .i64 v3.2) ∧ (wI .i64 v3.2) ≤ (wI .i64 v3.2) ∧ (wI .i64 v3.2) ≤ (DM : Int))).bind fun _ =>
   EY N (fun (v10 : (List Int)) =>
    some v10) N (HC (List.replicate ((wI .i64 v3.2)).toNat ((0 : Int))) 0 (p0.take (Nat.min p0.length ((List.replicate ((wI .i64 v3.2)).toNat ((0 : Int))).length))), (((Nat.min p0.length ((List.replicate ((wI .i64 v3.2)).toNat ((0 : Int))).length)) : Nat) : Int)))
  fun j4 =>
  Be (fun (v5 : Bool) =>
   AY v5
    (none)
    (j4 ()))
  fun j5 =>
  AY ((decide (0 < v3.1)))
   (j5 true)
   (j5 (decide (9223372036854775807 < v3.2))))
 fun j1 =>
 AY ((decide (p1 < 0)))
  (none)
  (j1 ())
def GN (_ : Nat) (p0 : Ar) : Option Bool :=
 Be (fun (v1 : Bool) =>
  some v1)
 fun j1 =>
 AY ((p0.ff == 3))
  (j1 true)
  (j1 (p0.ff == 4))
def Fc (N : Nat) (p0 : Ae) (j6 : ((List Int)) → Option (Ag × Int)) : Nat → ((List Int) × Int) → Option (Ag × Int)
 | 0, _ => none
 | n6 + 1, v6 =>
  AY ((decide (v6.2 < (p0.fc.length : Int))))
   (Be (fun (v9 : (List Int)) =>
    Fc N p0 j6 n6 (v9, (wI .i64 (v6.2 + 1))))
   fun j9 =>
   (A8 p0.fc v6.2).bind fun v10 =>
   (GN N v10).bind fun v11 =>
   AY v11
    ((A8 p0.fh v10.fg).bind fun v13 =>
    (Ef (0 ≤ v13)).bind fun _ =>
    (A8 v6.1 v6.2).bind fun _ =>
    j9 (v6.1.set ((v6.2).toNat) ((Dp .u8 1 v13))))
    (j9 v6.1))
   (j6 v6.1)
def IL (N : Nat) (p0 : Ae) : Option (Ag × Int) :=
 (BQ N p0).bind fun v1 =>
 AY ((v1 != 0))
  (some ((Ag.mk (([] : List Int)) (([] : List Int)) (([] : List Int))), v1))
  ((A7 N p0.fh).bind fun v3 =>
  (Fy N (([(-1)] : List Int)) ((p0.fh.length : Int))).bind fun v4 =>
  (Ef ((0 : Int) ≤ (p0.fc.length : Int) ∧ (p0.fc.length : Int) ≤ (p0.fc.length : Int) ∧ (p0.fc.length : Int) ≤ (DM : Int))).bind fun _ =>
  Fc N p0 (fun (v7 : (List Int)) =>
   some ((Ag.mk v3 v4 v7), 0)) N (List.replicate ((p0.fc.length : Int)).toNat ((0 : Int)), 0))
def Gj (_ : Nat) (p0 : Ag) (p1 : Int) : Option Int :=
 (A8 p0.fd p1).bind fun v1 =>
 (Ef (0 ≤ v1)).bind fun _ =>
 Be (fun (v3 : Int) =>
  some v3)
 fun j3 =>
 (A8 p0.fa p1).bind fun v4 =>
 AY ((decide (0 ≤ v4)))
  ((A8 p0.fa p1).bind fun v6 =>
  (Ef (0 ≤ v6)).bind fun _ =>
  j3 (QF .u8 ((Dp .u8 1 v1)) ((Dp .u8 1 v6))))
  (j3 (Dp .u8 1 v1))
def Ff (N : Nat) (p0 : Ae) (p1 : Ag) (j7 : Unit → Option Int) : Nat → Int → Option Int
 | 0, _ => none
 | n7 + 1, v7 =>
  AY ((decide (v7 < (p0.fb.length : Int))))
   ((A8 p0.fb v7).bind fun v10 =>
   Be (fun (v11 : Bool) =>
    AY v11
     (some 7)
     ((A8 p1.fd v7).bind fun v20 =>
     (A8 p1.fa v7).bind fun v21 =>
     AY ((v20 == v21))
      (some 1)
      (Ff N p0 p1 j7 n7 (wI .i64 (v7 + 1)))))
   fun j11 =>
   (A8 p1.fd v7).bind fun v12 =>
   AY ((decide (v12 < 0)))
    (j11 true)
    ((A8 p1.fd v7).bind fun v14 =>
    AY ((decide (v10 ≤ v14)))
     (j11 true)
     ((A8 p1.fa v7).bind fun v16 =>
     AY ((decide (v16 < (-1))))
      (j11 true)
      ((A8 p1.fa v7).bind fun v18 =>
      j11 (decide (v10 ≤ v18))))))
   (j7 ())
def ER (N : Nat) (p0 : Ae) (p1 : Ag) (j23 : Unit → Option Int) : Nat → Int → Option Int
 | 0, _ => none
 | n23 + 1, v23 =>
  AY ((decide (v23 < (p0.fc.length : Int))))
   ((A8 p0.fc v23).bind fun v26 =>
   Be (fun (v27 : Int × Int) =>
    Be (fun (v33 : Bool) =>
     AY v33
      (some 1)
      (ER N p0 p1 j23 n23 (wI .i64 (v23 + 1))))
    fun j33 =>
    (A8 p1.fe v23).bind fun v34 =>
    AY (((Ei .u8 v27.1 v34) != 0))
     (j33 true)
     ((A8 p1.fe v23).bind fun v36 =>
     j33 ((Ei .u8 v36 v27.2) != 0)))
   fun j27 =>
   (GN N v26).bind fun v28 =>
   AY v28
    ((Gj N p1 v26.fg).bind fun v30 =>
    (A8 p0.fb v26.fg).bind fun v31 =>
    (Ef (0 ≤ v31)).bind fun _ =>
    j27 (v30, (wI .u8 ((Dp .u8 1 v31) - 1))))
    (j27 (0, 0)))
   (j23 ())
def GI (N : Nat) (p0 : Ae) (p1 : Ag) : Option Int :=
 (BQ N p0).bind fun v1 =>
 AY ((v1 != 0))
  (some v1)
  (Be (fun (v3 : Bool) =>
   AY v3
    (some 6)
    (Ff N p0 p1 (fun (_ : Unit) =>
     ER N p0 p1 (fun (_ : Unit) =>
      some 0) N 0) N 0))
  fun j3 =>
  AY (((p1.fd.length : Int) != (p0.fb.length : Int)))
   (j3 true)
   (AY (((p1.fa.length : Int) != (p0.fb.length : Int)))
    (j3 true)
    (j3 ((p1.fe.length : Int) != (p0.fc.length : Int)))))
def Cn (_ : Nat) (p0 : List Int) : Option ((List Int)) :=
 (Ef ((([] : List Int)).length + p0.length ≤ DM)).bind fun _ =>
 some ((([] : List Int)) ++ p0)
def ES (N : Nat) (p1 : Ag) (j3 : ((List Int)) → Option ((List Ag) × Int)) : Nat → ((List Int) × Int) → Option ((List Ag) × Int)
 | 0, _ => none
 | n3 + 1, v3 =>
  AY ((decide (v3.2 < (p1.fa.length : Int))))
   (Be (fun (v6 : (List Int)) =>
    ES N p1 j3 n3 (v6, (wI .i64 (v3.2 + 1))))
   fun j6 =>
   (A8 p1.fa v3.2).bind fun v7 =>
   AY ((decide (0 ≤ v7)))
    ((Ef (v3.1.length + (([v3.2] : List Int)).length ≤ DM)).bind fun _ =>
    j6 (v3.1 ++ (([v3.2] : List Int))))
    (j6 v3.1))
   (j3 v3.1)
def DZ (N : Nat) (v4 : (List Int)) (v11 : (List Ag) × Int) (j17 : ((List Int)) → Option ((List Ag) × Int)) : Nat → ((List Int) × Int) → Option ((List Ag) × Int)
 | 0, _ => none
 | n17 + 1, v17 =>
  AY ((decide (v17.2 < (v4.length : Int))))
   (Be (fun (v20 : (List Int)) =>
    DZ N v4 v11 j17 n17 (v20, (wI .i64 (v17.2 + 1))))
   fun j20 =>
   (A8 v4 v17.2).bind fun v21 =>
   (Ef (0 ≤ v17.2)).bind fun _ =>
   AY (((Hr .i64 ((FE .i64 v11.2 v17.2)) 1) == 1))
    ((A8 v17.1 v21).bind fun _ =>
    j20 (v17.1.set ((v21).toNat) ((-1))))
    (j20 v17.1))
   (j17 v17.1)
def DX (N : Nat) (p1 : Ag) (v4 : (List Int)) (j11 : ((List Ag)) → Option ((List Ag) × Int)) : Nat → ((List Ag) × Int) → Option ((List Ag) × Int)
 | 0, _ => none
 | n11 + 1, v11 =>
  AY ((decide (v11.2 < (Dp .i64 1 ((v4.length : Int))))))
   ((A7 N p1.fd).bind fun v14 =>
   (A7 N p1.fa).bind fun v15 =>
   (Cn N p1.fe).bind fun v16 =>
   DZ N v4 v11 (fun (v18 : (List Int)) =>
    (Ef (v11.1.length + (([(Ag.mk v14 v18 v16)] : List Ag)).length ≤ DM)).bind fun _ =>
    DX N p1 v4 j11 n11 (v11.1 ++ (([(Ag.mk v14 v18 v16)] : List Ag)), (wI .i64 (v11.2 + 1)))) N (v15, 0))
   (j11 v11.1)
def Ij (N : Nat) (p0 : Ae) (p1 : Ag) : Option ((List Ag) × Int) :=
 (GI N p0 p1).bind fun v1 =>
 AY ((v1 != 0))
  (some (([] : List Ag), v1))
  (ES N p1 (fun (v4 : (List Int)) =>
   (Ef (0 ≤ (v4.length : Int))).bind fun _ =>
   DX N p1 v4 (fun (v12 : (List Ag)) =>
    some (v12, 0)) N (([] : List Ag), 0)) N (([] : List Int), 0))
def Cw (N : Nat) (v1 : (List Aa) × Int) (v4 : Ar) (v6 : Int) (v11 : (List Aa) × Int) (v17 : List Bool) (j18 : ((List Aa) × Bool) → Option ((List Aa))) : Nat → ((List Aa) × Bool × Int) → Option ((List Aa))
 | 0, _ => none
 | n18 + 1, v18 =>
  AY ((decide (v18.2.2 < (v17.length : Int))))
   (Be (fun (v21 : (List Aa) × Bool) =>
    Cw N v1 v4 v6 v11 v17 j18 n18 (v21.1, v21.2, (wI .i64 (v18.2.2 + 1))))
   fun j21 =>
   (A8 v17 v18.2.2).bind fun v22 =>
   (Ef (0 ≤ v18.2.2)).bind fun _ =>
   AY (((Hr .u8 ((FE .u8 v6 v18.2.2)) 1) == 0))
    (j21 (v18.1, v18.2.1))
    (Be (fun (v25 : Bool) =>
     Be (fun (v27 : Bool) =>
      AY v27
       ((Ef (v18.1.length + (([(Aa.mk v1.2 v11.2 v18.2.2)] : List Aa)).length ≤ DM)).bind fun _ =>
       j21 (v18.1 ++ (([(Aa.mk v1.2 v11.2 v18.2.2)] : List Aa)), v25))
       (j21 (v18.1, v25)))
     fun j27 =>
     AY ((!v22))
      (j27 (!v4.fp))
      (j27 false))
    fun j25 =>
    AY v18.2.1
     (j25 true)
     (j25 v22)))
   (j18 (v18.1, v18.2.1))
def C5 (N : Nat) (v1 : (List Aa) × Int) (v4 : Ar) (v6 : Int) (v7 : Int) (j11 : ((List Aa)) → Option ((List Aa))) : Nat → ((List Aa) × Int) → Option ((List Aa))
 | 0, _ => none
 | n11 + 1, v11 =>
  AY ((decide (v11.2 < (v4.fj.length : Int))))
   (Be (fun (v14 : (List Aa)) =>
    C5 N v1 v4 v6 v7 j11 n11 (v14, (wI .i64 (v11.2 + 1))))
   fun j14 =>
   (Ef (0 ≤ v11.2)).bind fun _ =>
   AY (((Hr .u8 ((FE .u8 v7 v11.2)) 1) == 0))
    (j14 v11.1)
    ((A8 v4.fj v11.2).bind fun v17 =>
    Cw N v1 v4 v6 v11 v17 (fun (v19 : (List Aa) × Bool) =>
     Be (fun (v31 : Bool) =>
      AY v31
       ((Ef (v19.1.length + (([(Aa.mk v1.2 v11.2 ((-1)))] : List Aa)).length ≤ DM)).bind fun _ =>
       j14 (v19.1 ++ (([(Aa.mk v1.2 v11.2 ((-1)))] : List Aa))))
       (j14 v19.1))
     fun j31 =>
     AY v4.fp
      (j31 (!v19.2))
      (j31 false)) N (v11.1, false, 0)))
   (j11 v11.1)
def Es (N : Nat) (p0 : Ae) (p1 : Ag) (j1 : ((List Aa)) → Option ((List Aa))) : Nat → ((List Aa) × Int) → Option ((List Aa))
 | 0, _ => none
 | n1 + 1, v1 =>
  AY ((decide (v1.2 < (p0.fc.length : Int))))
   ((A8 p0.fc v1.2).bind fun v4 =>
   (Gj N p1 v4.fg).bind fun v5 =>
   (Gj N p1 v4.fk).bind fun v6 =>
   Be (fun (v7 : Int) =>
    C5 N v1 v4 v6 v7 (fun (v12 : (List Aa)) =>
     Es N p0 p1 j1 n1 (v12, (wI .i64 (v1.2 + 1)))) N (v1.1, 0))
   fun j7 =>
   (GN N v4).bind fun v8 =>
   AY v8
    ((A8 p1.fe v1.2).bind fun v10 =>
    j7 v10)
    (j7 v5))
   (j1 v1.1)
def GY (N : Nat) (p0 : Ae) (p1 : Ag) : Option ((List Aa)) :=
 Es N p0 p1 (fun (v2 : (List Aa)) =>
  some v2) N (([] : List Aa), 0)
def FZ (N : Nat) (p0 : Ae) (v1 : (List Ag) × Int) (j3 : Unit → Option (Ag × Aa × Int)) : Nat → Int → Option (Ag × Aa × Int)
 | 0, _ => none
 | n3 + 1, v3 =>
  AY ((decide (v3 < (v1.1.length : Int))))
   ((A8 v1.1 v3).bind fun v6 =>
   (GY N p0 v6).bind fun v7 =>
   AY ((decide (0 < (v7.length : Int))))
    ((A8 v7 0).bind fun v9 =>
    some (v6, v9, 0))
    (FZ N p0 v1 j3 n3 (wI .i64 (v3 + 1))))
   (j3 ())
def IV (N : Nat) (p0 : Ae) (p1 : Ag) : Option (Ag × Aa × Int) :=
 (Ij N p0 p1).bind fun v1 =>
 AY ((v1.2 != 0))
  (some ((Ag.mk (([] : List Int)) (([] : List Int)) (([] : List Int))), (Aa.mk 0 0 0), v1.2))
  (FZ N p0 v1 (fun (_ : Unit) =>
   some ((Ag.mk (([] : List Int)) (([] : List Int)) (([] : List Int))), (Aa.mk 0 0 0), 15)) N 0)
def Ho (N : Nat) (p0 : Ae) (p1 : Ag) : Option (Bool × Int) :=
 (IV N p0 p1).bind fun v1 =>
 AY ((v1.2.2 == 0))
  (some (false, 0))
  (AY ((v1.2.2 == 15))
   (some (true, 0))
   (some (false, v1.2.2)))
def FO (N : Nat) (p0 : Ag) (j2 : ((List Int)) → Option ByteArray) : Nat → ((List Int) × Int) → Option ByteArray
 | 0, _ => none
 | n2 + 1, v2 =>
  AY ((decide (v2.2 < (p0.fd.length : Int))))
   ((A8 p0.fd v2.2).bind fun v5 =>
   (A8 p0.fa v2.2).bind fun v6 =>
   (Ef (v2.1.length + (([(wI .u8 v5), (wI .u8 ((wI .i64 (v6 + 1))))] : List Int)).length ≤ DM)).bind fun _ =>
   FO N p0 j2 n2 (v2.1 ++ (([(wI .u8 v5), (wI .u8 ((wI .i64 (v6 + 1))))] : List Int)), (wI .i64 (v2.2 + 1))))
   (j2 v2.1)
def EE (N : Nat) (p0 : Ag) (j8 : ((List Int)) → Option ByteArray) : Nat → ((List Int) × Int) → Option ByteArray
 | 0, _ => none
 | n8 + 1, v8 =>
  AY ((decide (v8.2 < (p0.fe.length : Int))))
   ((A8 p0.fe v8.2).bind fun v11 =>
   (Ef (v8.1.length + (([v11] : List Int)).length ≤ DM)).bind fun _ =>
   EE N p0 j8 n8 (v8.1 ++ (([v11] : List Int)), (wI .i64 (v8.2 + 1))))
   (j8 v8.1)
def IC (N : Nat) (p0 : Ag) : Option ByteArray :=
 (Ef ((0 : Int) ≤ 0 ∧ 0 ≤ (wI .i64 ((wI .i64 (2 * (p0.fd.length : Int))) + (p0.fe.length : Int))) ∧ (wI .i64 ((wI .i64 (2 * (p0.fd.length : Int))) + (p0.fe.length : Int))) ≤ (DM : Int))).bind fun _ =>
 FO N p0 (fun (v3 : (List Int)) =>
  EE N p0 (fun (v9 : (List Int)) =>
   some ((Dh v9))) N (v3, 0)) N (List.replicate (0 : Int).toNat ((0 : Int)), 0)
def FJ (N : Nat) (v1 : (List Ai) × Int) (v4 : Int) (j5 : ((List Ai)) → Option ((List Ai))) : Nat → ((List Ai) × Int) → Option ((List Ai))
 | 0, _ => none
 | n5 + 1, v5 =>
  AY ((decide (v5.2 < v4)))
   ((Ef (v5.1.length + (([(Ai.mk 1 v1.2 v5.2)] : List Ai)).length ≤ DM)).bind fun _ =>
   FJ N v1 v4 j5 n5 (v5.1 ++ (([(Ai.mk 1 v1.2 v5.2)] : List Ai)), (wI .i64 (v5.2 + 1))))
   (j5 v5.1)
def D8 (N : Nat) (p0 : Ae) (j1 : ((List Ai)) → Option ((List Ai))) : Nat → ((List Ai) × Int) → Option ((List Ai))
 | 0, _ => none
 | n1 + 1, v1 =>
  AY ((decide (v1.2 < (p0.fb.length : Int))))
   ((A8 p0.fb v1.2).bind fun v4 =>
   FJ N v1 v4 (fun (v6 : (List Ai)) =>
    D8 N p0 j1 n1 (v6, (wI .i64 (v1.2 + 1)))) N (v1.1, 0))
   (j1 v1.1)
def CZ (N : Nat) (p0 : Ae) (j9 : ((List Ai)) → Option ((List Ai))) : Nat → ((List Ai) × Int) → Option ((List Ai))
 | 0, _ => none
 | n9 + 1, v9 =>
  AY ((decide (v9.2 < (p0.fb.length : Int))))
   ((Ef (v9.1.length + (([(Ai.mk 2 v9.2 0)] : List Ai)).length ≤ DM)).bind fun _ =>
   CZ N p0 j9 n9 (v9.1 ++ (([(Ai.mk 2 v9.2 0)] : List Ai)), (wI .i64 (v9.2 + 1))))
   (j9 v9.1)
def BK (N : Nat) (p0 : Ae) (j13 : ((List Ai)) → Option ((List Ai))) : Nat → ((List Ai) × Int) → Option ((List Ai))
 | 0, _ => none
 | n13 + 1, v13 =>
  AY ((decide (v13.2 < (p0.fc.length : Int))))
   ((Ef (v13.1.length + (([(Ai.mk 3 v13.2 0)] : List Ai)).length ≤ DM)).bind fun _ =>
   BK N p0 j13 n13 (v13.1 ++ (([(Ai.mk 3 v13.2 0)] : List Ai)), (wI .i64 (v13.2 + 1))))
   (j13 v13.1)
def Jv (N : Nat) (p0 : Ae) : Option ((List Ai)) :=
 D8 N p0 (fun (v2 : (List Ai)) =>
  CZ N p0 (fun (v10 : (List Ai)) =>
   BK N p0 (fun (v14 : (List Ai)) =>
    some v14) N (v10, 0)) N (v2, 0)) N (([] : List Ai), 0)
def HI (N : Nat) (p0 : Ag) : Option Ag :=
 (A7 N p0.fd).bind fun v1 =>
 (A7 N p0.fa).bind fun v2 =>
 (Cn N p0.fe).bind fun v3 =>
 some ((Ag.mk v1 v2 v3))
def GX (_ : Nat) (p0 : Ar) : Option Bool :=
 Be (fun (v1 : Bool) =>
  some v1)
 fun j1 =>
 AY ((p0.ff == 3))
  (j1 true)
  (j1 (p0.ff == 4))
def EW (N : Nat) (p0 : Ae) (p2 : Ai) (j7 : ((List Int)) → Option (Bool × (List Int) × (List Int))) : Nat → ((List Int) × Int) → Option (Bool × (List Int) × (List Int))
 | 0, _ => none
 | n7 + 1, v7 =>
  AY ((decide (v7.2 < (p0.fc.length : Int))))
   (Be (fun (v10 : (List Int)) =>
    EW N p0 p2 j7 n7 (v10, (wI .i64 (v7.2 + 1))))
   fun j10 =>
   (A8 p0.fc v7.2).bind fun v11 =>
   Be (fun (v12 : Bool) =>
    AY v12
     ((A8 v7.1 v7.2).bind fun v16 =>
     (Ef (0 ≤ p2.fr)).bind fun _ =>
     (A8 v7.1 v7.2).bind fun _ =>
     j10 (v7.1.set ((v7.2).toNat) ((QF .u8 v16 ((Dp .u8 1 p2.fr))))))
     (j10 v7.1))
   fun j12 =>
   AY ((v11.fg == p2.fi))
    ((GX N v11).bind fun v14 =>
    j12 v14)
    (j12 false))
   (j7 v7.1)
def Jg (N : Nat) (p0 : Ae) (p1 : Ag) (p2 : Ai) : Option (Bool × (List Int) × (List Int)) :=
 Be (fun (v1 : Bool) =>
  AY v1
   (some (false, p1.fa, p1.fe))
   ((A8 p1.fa p2.fi).bind fun _ =>
   EW N p0 p2 (fun (v8 : (List Int)) =>
    some (true, p1.fa.set ((p2.fi).toNat) p2.fr, v8)) N (p1.fe, 0)))
 fun j1 =>
 (A8 p1.fa p2.fi).bind fun v2 =>
 AY ((decide (0 ≤ v2)))
  (j1 true)
  ((A8 p1.fd p2.fi).bind fun v4 =>
  j1 (v4 == p2.fr))
def Hj (_ : Nat) (p0 : Ag) (p1 : Int) : Option Int :=
 (A8 p0.fd p1).bind fun v1 =>
 (Ef (0 ≤ v1)).bind fun _ =>
 Be (fun (v3 : Int) =>
  some v3)
 fun j3 =>
 (A8 p0.fa p1).bind fun v4 =>
 AY ((decide (0 ≤ v4)))
  ((A8 p0.fa p1).bind fun v6 =>
  (Ef (0 ≤ v6)).bind fun _ =>
  j3 (QF .u8 ((Dp .u8 1 v1)) ((Dp .u8 1 v6))))
  (j3 (Dp .u8 1 v1))
def DW (_ : Nat) (p0 : Int) : Option Int :=
 (Wa ((⟨⟨(List.append (List.append [8, 0, 1, 0, 2, 0, 1, 0, 3, 0, 1, 0, 2, 0, 1, 0, 4, 0, 1, 0, 2, 0, 1, 0, 3, 0, 1, 0, 2, 0, 1, 0, 5, 0, 1, 0, 2, 0, 1, 0, 3, 0, 1, 0, 2, 0, 1, 0, 4, 0, 1, 0, 2, 0, 1, 0, 3, 0, 1, 0, 2, 0, 1, 0] [6, 0, 1, 0, 2, 0, 1, 0, 3, 0, 1, 0, 2, 0, 1, 0, 4, 0, 1, 0, 2, 0, 1, 0, 3, 0, 1, 0, 2, 0, 1, 0, 5, 0, 1, 0, 2, 0, 1, 0, 3, 0, 1, 0, 2, 0, 1, 0, 4, 0, 1, 0, 2, 0, 1, 0, 3, 0, 1, 0, 2, 0, 1, 0]) (List.append [7, 0, 1, 0, 2, 0, 1, 0, 3, 0, 1, 0, 2, 0, 1, 0, 4, 0, 1, 0, 2, 0, 1, 0, 3, 0, 1, 0, 2, 0, 1, 0, 5, 0, 1, 0, 2, 0, 1, 0, 3, 0, 1, 0, 2, 0, 1, 0, 4, 0, 1, 0, 2, 0, 1, 0, 3, 0, 1, 0, 2, 0, 1, 0] [6, 0, 1, 0, 2, 0, 1, 0, 3, 0, 1, 0, 2, 0, 1, 0, 4, 0, 1, 0, 2, 0, 1, 0, 3, 0, 1, 0, 2, 0, 1, 0, 5, 0, 1, 0, 2, 0, 1, 0, 3, 0, 1, 0, 2, 0, 1, 0, 4, 0, 1, 0, 2, 0, 1, 0, 3, 0, 1, 0, 2, 0, 1, 0]))⟩⟩ : ByteArray)) p0).bind fun v1 =>
 some ((wI .i64 v1))
def EB (N : Nat) (p0 : Ar) (p2 : Int) (j1 : Unit → Option Bool) : Nat → Int → Option Bool
 | 0, _ => none
 | n1 + 1, v1 =>
  AY ((v1 != 0))
   ((DW N v1).bind fun v4 =>
   (A8 p0.fm v4).bind fun v5 =>
   (A8 v5 p2).bind fun v6 =>
   AY ((!v6))
    (some false)
    (EB N p0 p2 j1 n1 (Hr .u8 v1 ((wI .u8 (v1 - 1))))))
   (j1 ())
def Hf (N : Nat) (p0 : Ar) (p1 : Int) (p2 : Int) : Option Bool :=
 EB N p0 p2 (fun (_ : Unit) =>
  some true) N p1
def Ia (N : Nat) (p0 : Ae) (p1 : Ag) (p2 : Int) : Option (Bool × (List Int)) :=
 (A8 p0.fc p2).bind fun v1 =>
 (GX N v1).bind fun v2 =>
 AY ((!v2))
  (some (false, p1.fe))
  ((Hj N p1 v1.fg).bind fun v4 =>
  (A8 p1.fe p2).bind fun v5 =>
  Be (fun (v6 : Bool) =>
   AY v6
    (some (false, p1.fe))
    ((A8 p1.fe p2).bind fun _ =>
    some (true, p1.fe.set ((p2).toNat) v4)))
  fun j6 =>
  (A8 p1.fe p2).bind fun v7 =>
  AY ((v7 == v4))
   (j6 true)
   (AY ((v1.ff == 4))
    ((A8 p1.fd v1.fg).bind fun v10 =>
    (Hf N v1 ((Ei .u8 v5 v4)) v10).bind fun v11 =>
    j6 (!v11))
    (j6 false)))
def GK (N : Nat) (p0 : Ae) (p1 : Ag) (p2 : Ai) : Option (Ag × Bool) :=
 (HI N p1).bind fun v1 =>
 AY ((p2.ff == 1))
  ((Jg N p0 v1 p2).bind fun v3 =>
  some ((Ag.mk v1.fd v3.2.1 v3.2.2), v3.1))
  (AY ((p2.ff == 3))
   ((Ia N p0 v1 p2.fi).bind fun v5 =>
   some ((Ag.mk v1.fd v1.fa v5.2), v5.1))
   ((A8 v1.fa p2.fi).bind fun v6 =>
   AY ((decide (v6 < 0)))
    (some (v1, false))
    ((A8 v1.fa p2.fi).bind fun _ =>
    Be (fun (v9 : (List Int)) =>
     some ((Ag.mk v9 (v1.fa.set ((p2.fi).toNat) ((-1))) v1.fe), true))
    fun j9 =>
    AY ((p2.ff == 2))
     ((A8 v1.fd p2.fi).bind fun _ =>
     j9 (v1.fd.set ((p2.fi).toNat) v6))
     (j9 v1.fd))))
def Ex (N : Nat) (p0 : Ai) (p1 : List Int) (p2 : List Int) (p3 : List Int) (p4 : List Ar) (p5 : List Int) (p6 : List Int) (p7 : List Int) : Option Bool :=
 (GK N ((Ae.mk p1 p2 p3 p4)) ((Ag.mk p5 p6 p7)) p0).bind fun v1 =>
 some ((!v1.2))
def Bb (N : Nat) (p0 : List Ai) (p1 : Ai → Option Bool) (j1 : Unit → Option Int) : Nat → Int → Option Int
 | 0, _ => none
 | n1 + 1, v1 =>
  AY ((decide (v1 < (p0.length : Int))))
   ((A8 p0 v1).bind fun v4 =>
   (p1 v4).bind fun v5 =>
   AY v5
    (some v1)
    (Bb N p0 p1 j1 n1 (wI .i64 (v1 + 1))))
   (j1 ())
def Cc (N : Nat) (p0 : List Ai) (p1 : Ai → Option Bool) : Option Int :=
 Bb N p0 p1 (fun (_ : Unit) =>
  some ((-1))) N 0
def A4 (N : Nat) (p1 : Ai → Option Bool) (j3 : ((List Ai) × Int) → Option (Nat × (List Ai))) : Nat → ((List Ai) × Int × Int) → Option (Nat × (List Ai))
 | 0, _ => none
 | n3 + 1, v3 =>
  AY ((decide (v3.2.2 < (v3.1.length : Int))))
   (Be (fun (v6 : (List Ai) × Int) =>
    A4 N p1 j3 n3 (v6.1, v6.2, (wI .i64 (v3.2.2 + 1))))
   fun j6 =>
   (A8 v3.1 v3.2.2).bind fun v7 =>
   (p1 v7).bind fun v8 =>
   AY ((!v8))
    ((A8 v3.1 v3.2.1).bind fun _ =>
    j6 (v3.1.set ((v3.2.1).toNat) v7, (wI .i64 (v3.2.1 + 1))))
    (j6 (v3.1, v3.2.1)))
   (j3 (v3.1, v3.2.1))
def B6 (N : Nat) (p0 : List Ai) (p1 : Ai → Option Bool) : Option (Nat × (List Ai)) :=
 (Cc N p0 p1).bind fun v1 =>
 AY ((v1 == (-1)))
  (some (p0.length, p0))
  (A4 N p1 (fun (v4 : (List Ai) × Int) =>
   (Ef ((0 : Int) ≤ v4.2 ∧ (v4.2).toNat ≤ v4.1.length ∧ v4.1.length ≤ v4.1.length)).bind fun _ =>
   (Ef ((0 : Int) ≤ v4.2 ∧ 0 ≤ (v4.2).toNat ∧ (v4.2).toNat ≤ (HC v4.1 ((v4.2).toNat) (List.replicate ((v4.1.length - (v4.2).toNat)) ((Ai.mk 0 0 0)))).length)).bind fun _ =>
   some ((v4.2).toNat, HC v4.1 ((v4.2).toNat) (List.replicate ((v4.1.length - (v4.2).toNat)) ((Ai.mk 0 0 0))))) N (p0, v1, (wI .i64 (v1 + 1))))
def Hl (N : Nat) (p0 : Ae) (p1 : Ag) : Option ((List Ai) × Int) :=
 (GI N p0 p1).bind fun v1 =>
 AY ((v1 != 0))
  (some (([] : List Ai), v1))
  ((Jv N p0).bind fun v3 =>
  (B6 N v3 ((fun (x : Ai) => Ex N x p0.fb p0.fh p0.fo p0.fc p1.fd p1.fa p1.fe))).bind fun v4 =>
  (Ef (v4.1 ≤ v4.2.length)).bind fun _ =>
  some (v4.2.take v4.1, 0))
def Ih (_ : Nat) (p0 : Ai) : Option Bool :=
 Be (fun (v1 : Bool) =>
  AY v1
   (some false)
   (Be (fun (v5 : Bool) =>
    some v5)
   fun j5 =>
   AY ((p0.ff == 1))
    (j5 true)
    (j5 (p0.fr == 0))))
 fun j1 =>
 AY ((decide ((W0 p0.fi p0.fr) < 0)))
  (j1 true)
  (AY ((decide (p0.ff < 1)))
   (j1 true)
   (j1 (decide (4 < p0.ff))))
def HJ (_ : Nat) (p0 : Ae) (p1 : Ai) : Option Bool :=
 AY ((p1.ff == 3))
  (some ((decide (p1.fi < (p0.fc.length : Int)))))
  (Be (fun (v2 : Bool) =>
   some v2)
  fun j2 =>
  AY ((decide (p1.fi < (p0.fb.length : Int))))
   (AY ((p1.ff != 1))
    (j2 true)
    ((A8 p0.fb p1.fi).bind fun v5 =>
    j2 (decide (p1.fr < v5))))
   (j2 false))
def Ik (N : Nat) (p0 : Ae) (p1 : Ag) (p2 : Ai) : Option (Ag × Int) :=
 (Ih N p2).bind fun v1 =>
 AY ((!v1))
  (some ((Ag.mk (([] : List Int)) (([] : List Int)) (([] : List Int))), 1))
  ((HJ N p0 p2).bind fun v3 =>
  AY ((!v3))
   (some ((Ag.mk (([] : List Int)) (([] : List Int)) (([] : List Int))), 4))
   ((GK N p0 p1 p2).bind fun v5 =>
   AY ((!v5.2))
    (some ((Ag.mk (([] : List Int)) (([] : List Int)) (([] : List Int))), 11))
    (some (v5.1, 0))))
def Ic (N : Nat) (p0 : Ae) (p1 : Ag) (p2 : Ai) : Option (Ag × Int) :=
 (GI N p0 p1).bind fun v1 =>
 AY ((v1 != 0))
  (some ((Ag.mk (([] : List Int)) (([] : List Int)) (([] : List Int))), v1))
  ((Ik N p0 p1 p2).bind fun v3 =>
  some (v3.1, v3.2))
def CY (N : Nat) (p0 : Ae) (v2 : (List AH) × (List (ByteArray × Int)) × Int) (v6 : (List Ai) × Int) (j8 : ((List AH) × (List (ByteArray × Int))) → Option ((List AH) × Int)) : Nat → ((List AH) × (List (ByteArray × Int)) × Int) → Option ((List AH) × Int)
 | 0, _ => none
 | n8 + 1, v8 =>
  AY ((decide (v8.2.2 < (v6.1.length : Int))))
   ((A8 v6.1 v8.2.2).bind fun v11 =>
   (A8 v8.1 v2.2.2).bind fun v12 =>
   (Ic N p0 ((Ag.mk v12.fq.fd v12.fq.fa v12.fq.fe)) v11).bind fun v13 =>
   AY ((v13.2 != 0))
    (some (([] : List AH), v13.2))
    ((IC N v13.1).bind fun v15 =>
    Be (fun (v16 : (List AH) × (List (ByteArray × Int)) × Int) =>
     Be (fun (v24 : (List AH)) =>
      AY ((decide (20000 < (v24.length : Int))))
       (some (([] : List AH), 3))
       (CY N p0 v2 v6 j8 n8 (v24, v16.2.1, (wI .i64 (v8.2.2 + 1)))))
     fun j24 =>
     AY ((decide (0 ≤ v16.2.2)))
      ((A8 v16.1 v2.2.2).bind fun v26 =>
      (Ef (v26.fa.length + (([v16.2.2] : List Int)).length ≤ DM)).bind fun _ =>
      (A8 v16.1 v2.2.2).bind fun v28 =>
      j24 (v16.1.set ((v2.2.2).toNat) ((AH.mk ((Ag.mk v28.fq.fd v28.fq.fa v28.fq.fe)) v28.fg ((Ai.mk v28.ft.ff v28.ft.fi v28.ft.fr)) (v26.fa ++ (([v16.2.2] : List Int)))))))
      (j24 v16.1))
    fun j16 =>
    AY ((!((L1 v15 v8.2.1).isSome)))
     (Be (fun (v18 : (List AH) × Int) =>
      j16 (v18.1, NX v15 v18.2 v8.2.1, v18.2))
     fun j18 =>
     (Ho N p0 v13.1).bind fun v19 =>
     Be (fun (v20 : Bool) =>
      AY v20
       (j18 (v8.1, (-1)))
       ((Ef (v8.1.length + (([(AH.mk v13.1 v2.2.2 v11 (([] : List Int)))] : List AH)).length ≤ DM)).bind fun _ =>
       j18 (v8.1 ++ (([(AH.mk v13.1 v2.2.2 v11 (([] : List Int)))] : List AH)), (v8.1.length : Int))))
     fun j20 =>
     AY ((v19.2 != 0))
      (j20 true)
      (j20 (!v19.1)))
     (j16 (v8.1, v8.2.1, ((L1 v15 v8.2.1).getD 0)))))
   (j8 (v8.1, v8.2.1))
def Ey (N : Nat) (p0 : Ae) (j2 : ((List AH)) → Option ((List AH) × Int)) : Nat → ((List AH) × (List (ByteArray × Int)) × Int) → Option ((List AH) × Int)
 | 0, _ => none
 | n2 + 1, v2 =>
  AY ((decide (v2.2.2 < (v2.1.length : Int))))
   ((A8 v2.1 v2.2.2).bind fun v5 =>
   (Hl N p0 ((Ag.mk v5.fq.fd v5.fq.fa v5.fq.fe))).bind fun v6 =>
   AY ((v6.2 != 0))
    (some (([] : List AH), v6.2))
    (CY N p0 v2 v6 (fun (v9 : (List AH) × (List (ByteArray × Int))) =>
     Ey N p0 j2 n2 (v9.1, v9.2, (wI .i64 (v2.2.2 + 1)))) N (v2.1, v2.2.1, 0)))
   (j2 v2.1)
def HF (N : Nat) (p0 : Ae) (p1 : Ag) : Option ((List AH) × Int) :=
 (IC N p1).bind fun v1 =>
 Ey N p0 (fun (v3 : (List AH)) =>
  some (v3, 0)) N (([(AH.mk p1 ((-1)) ((Ai.mk 0 0 0)) (([] : List Int)))] : List AH), NX v1 0 (([] : List (ByteArray × Int))), 0)
def CH (N : Nat) (p0 : List Int) (p1 : List Int) (j2 : Unit → Option Bool) : Nat → Int → Option Bool
 | 0, _ => none
 | n2 + 1, v2 =>
  AY ((decide (v2 < (p0.length : Int))))
   ((A8 p0 v2).bind fun v5 =>
   (A8 p1 v2).bind fun v6 =>
   AY ((v5 != v6))
    (some false)
    (CH N p0 p1 j2 n2 (wI .i64 (v2 + 1))))
   (j2 ())
def EN (N : Nat) (p0 : List Int) (p1 : List Int) : Option Bool :=
 AY (((p0.length : Int) != (p1.length : Int)))
  (some false)
  (CH N p0 p1 (fun (_ : Unit) =>
   some true) N 0)
def BB (N : Nat) (p0 : List Int) (p1 : Int → Option Bool) (j1 : Unit → Option Int) : Nat → Int → Option Int
 | 0, _ => none
 | n1 + 1, v1 =>
  AY ((decide (v1 < (p0.length : Int))))
   ((A8 p0 v1).bind fun v4 =>
   (p1 v4).bind fun v5 =>
   AY v5
    (some v1)
    (BB N p0 p1 j1 n1 (wI .i64 (v1 + 1))))
   (j1 ())
def EX (N : Nat) (p0 : List Int) (p1 : Int → Option Bool) : Option Int :=
 BB N p0 p1 (fun (_ : Unit) =>
  some ((-1))) N 0
def Dl (N : Nat) (p0 : List Int) (p1 : Int → Option Bool) : Option Bool :=
 (EX N p0 p1).bind fun v1 =>
 some ((decide (0 ≤ v1)))
def H8 (_ : Nat) (p0 : Int) : Option Bool :=
 some ((decide (0 ≤ p0)))
def Jl (N : Nat) (p0 : Ae) (p1 : Ag) : Option Bool :=
 Be (fun (v1 : Bool) =>
  some v1)
 fun j1 =>
 (GI N p0 p1).bind fun v2 =>
 AY ((v2 == 0))
  ((EN N p1.fd p0.fo).bind fun v4 =>
  AY v4
   ((Dl N p1.fa ((fun (x : Int) => H8 N x))).bind fun v6 =>
   j1 (!v6))
   (j1 false))
  (j1 false)
def FN (N : Nat) (p0 : AH) (p1 : List Int) (p2 : List Int) (p3 : List Int) (p4 : List Ar) : Option Bool :=
 (Jl N ((Ae.mk p1 p2 p3 p4)) ((Ag.mk p0.fq.fd p0.fq.fa p0.fq.fe))).bind fun v1 =>
 some v1
def A3 (N : Nat) (p0 : List AH) (p1 : AH → Option Bool) (j1 : Unit → Option Int) : Nat → Int → Option Int
 | 0, _ => none
 | n1 + 1, v1 =>
  AY ((decide (v1 < (p0.length : Int))))
   ((A8 p0 v1).bind fun v4 =>
   (p1 ((AH.mk ((Ag.mk v4.fq.fd v4.fq.fa v4.fq.fe)) v4.fg ((Ai.mk v4.ft.ff v4.ft.fi v4.ft.fr)) v4.fa))).bind fun v5 =>
   AY v5
    (some v1)
    (A3 N p0 p1 j1 n1 (wI .i64 (v1 + 1))))
   (j1 ())
def CS (N : Nat) (p0 : List AH) (p1 : AH → Option Bool) : Option Int :=
 A3 N p0 p1 (fun (_ : Unit) =>
  some ((-1))) N 0
def BC (N : Nat) (j1 : ((List Ai)) → Option ((List Ai))) : Nat → ((List Ai) × Int × Int) → Option ((List Ai))
 | 0, _ => none
 | n1 + 1, v1 =>
  AY ((decide (v1.2.1 < v1.2.2)))
   ((A8 v1.1 v1.2.2).bind fun v4 =>
   (A8 v1.1 v1.2.1).bind fun v5 =>
   (A8 v1.1 v1.2.1).bind fun _ =>
   (A8 (v1.1.set ((v1.2.1).toNat) v4) v1.2.2).bind fun _ =>
   BC N j1 n1 ((v1.1.set ((v1.2.1).toNat) v4).set ((v1.2.2).toNat) v5, (wI .i64 (v1.2.1 + 1)), (wI .i64 (v1.2.2 - 1))))
   (j1 v1.1)
def BL (N : Nat) (p0 : List Ai) : Option ((List Ai)) :=
 BC N (fun (v2 : (List Ai)) =>
  some v2) N (p0, 0, (wI .i64 ((p0.length : Int) - 1)))
def G1 (N : Nat) (p0 : List AH) (j1 : ((List Ai)) → Option ((List Ai))) : Nat → (Int × (List Ai)) → Option ((List Ai))
 | 0, _ => none
 | n1 + 1, v1 =>
  (A8 p0 v1.1).bind fun v3 =>
  AY ((decide (0 ≤ v3.fg)))
   ((A8 p0 v1.1).bind fun v5 =>
   (Ef (v1.2.length + (([(Ai.mk v5.ft.ff v5.ft.fi v5.ft.fr)] : List Ai)).length ≤ DM)).bind fun _ =>
   (A8 p0 v1.1).bind fun v7 =>
   G1 N p0 j1 n1 (v7.fg, v1.2 ++ (([(Ai.mk v5.ft.ff v5.ft.fi v5.ft.fr)] : List Ai))))
   (j1 v1.2)
def Kp (N : Nat) (p0 : List AH) (p1 : Int) : Option ((List Ai)) :=
 G1 N p0 (fun (v2 : (List Ai)) =>
  (BL N v2).bind fun v8 =>
  some v8) N (p1, ([] : List Ai))
def GC (N : Nat) (p0 : Ae) (p1 : Ag) : Option ((List Ai) × Int) :=
 (Ho N p0 p1).bind fun v1 =>
 AY ((v1.2 != 0))
  (some (([] : List Ai), v1.2))
  (AY ((!v1.1))
   (some (([] : List Ai), 13))
   ((HF N p0 p1).bind fun v4 =>
   AY ((v4.2 != 0))
    (some (([] : List Ai), v4.2))
    ((CS N v4.1 ((fun (x : AH) => FN N x p0.fb p0.fh p0.fo p0.fc))).bind fun v6 =>
    AY ((decide (v6 < 0)))
     (some (([] : List Ai), 14))
     ((Kp N v4.1 v6).bind fun v8 =>
     some (v8, 0)))))
def Gz (N : Nat) (p0 : Ae) : Option ((List Ai) × Int) :=
 (IL N p0).bind fun v1 =>
 AY ((v1.2 != 0))
  (some (([] : List Ai), v1.2))
  ((GC N p0 v1.1).bind fun v3 =>
  some (v3.1, v3.2))
def EL (N : Nat) (p0 : Ae) (p1 : List Aa) : Option (Bool × Int) :=
 (Hh N p0 p1).bind fun v1 =>
 (Gz N v1).bind fun v2 =>
 AY ((v2.2 == 3))
  (some (false, v2.2))
  (some ((v2.2 == 0), 0))
def Eu (N : Nat) (p0 : Ae) (v7 : (List (List Aa))) (j8 : ((List (List Aa))) → Option ((List (List Aa)) × Int)) : Nat → ((List (List Aa)) × Int) → Option ((List (List Aa)) × Int)
 | 0, _ => none
 | n8 + 1, v8 =>
  AY ((decide (v8.2 < (v7.length : Int))))
   (Be (fun (v11 : (List (List Aa))) =>
    Eu N p0 v7 j8 n8 (v11, (wI .i64 (v8.2 + 1))))
   fun j11 =>
   (A8 v7 v8.2).bind fun v12 =>
   (EL N p0 v12).bind fun v13 =>
   AY ((v13.2 != 0))
    (some (([] : List (List Aa)), v13.2))
    (AY v13.1
     ((Ef (v8.1.length + (([v12] : List (List Aa))).length ≤ DM)).bind fun _ =>
     j11 (v8.1 ++ (([v12] : List (List Aa)))))
     (j11 v8.1)))
   (j8 v8.1)
def E4 (N : Nat) (p0 : Ae) (j4 : Unit → Option ((List (List Aa)) × Int)) : Nat → ((List Aa) × Int) → Option ((List (List Aa)) × Int)
 | 0, _ => none
 | n4 + 1, v4 =>
  AY ((decide (v4.2 ≤ 3)))
   ((Jw N v4.1 v4.2).bind fun v7 =>
   Eu N p0 v7 (fun (v9 : (List (List Aa))) =>
    AY ((decide (0 < (v9.length : Int))))
     (some (v9, 0))
     (E4 N p0 j4 n4 (v4.1, (wI .i64 (v4.2 + 1))))) N (([] : List (List Aa)), 0))
   (j4 ())
def GV (N : Nat) (p0 : Ae) : Option ((List (List Aa)) × Int) :=
 (Fv N p0).bind fun v1 =>
 AY ((v1.2 != 0))
  (some (([] : List (List Aa)), v1.2))
  (AY ((decide (24 < (v1.1.length : Int))))
   (some (([] : List (List Aa)), 3))
   (E4 N p0 (fun (_ : Unit) =>
    some (([] : List (List Aa)), 14)) N (v1.1, 0)))
def Ca (N : Nat) (p0 : List Aa) (p1 : Aa) (j1 : Unit → Option Int) : Nat → Int → Option Int
 | 0, _ => none
 | n1 + 1, v1 =>
  AY ((decide (v1 < (p0.length : Int))))
   ((A8 p0 v1).bind fun v4 =>
   AY (((p1.fw == v4.fw) && ((p1.fv == v4.fv) && ((p1.fu == v4.fu) && true))))
    (some v1)
    (Ca N p0 p1 j1 n1 (wI .i64 (v1 + 1))))
   (j1 ())
def DK (N : Nat) (p0 : List Aa) (p1 : Aa) : Option Int :=
 Ca N p0 p1 (fun (_ : Unit) =>
  some ((-1))) N 0
def Dn (N : Nat) (p0 : List Aa) (p1 : Aa) : Option Bool :=
 (DK N p0 p1).bind fun v1 =>
 some ((decide (0 ≤ v1)))
def GT (N : Nat) (p1 : List Aa) (v3 : (List Aa)) (j4 : Unit → Option Int) : Nat → Int → Option Int
 | 0, _ => none
 | n4 + 1, v4 =>
  AY ((decide (v4 < (p1.length : Int))))
   ((A8 p1 v4).bind fun v7 =>
   (Dn N v3 v7).bind fun v8 =>
   AY ((!v8))
    (some 4)
    (GT N p1 v3 j4 n4 (wI .i64 (v4 + 1))))
   (j4 ())
def Jf (N : Nat) (p0 : Ae) (p1 : List Aa) : Option Int :=
 (BQ N p0).bind fun v1 =>
 AY ((v1 != 0))
  (some v1)
  ((EK N p0).bind fun v3 =>
  GT N p1 v3 (fun (_ : Unit) =>
   some 0) N 0)
def CA (_ : Nat) (p0 : List Aa) : Option ((List Aa)) :=
 (Ef ((([] : List Aa)).length + p0.length ≤ DM)).bind fun _ =>
 some ((([] : List Aa)) ++ p0)
def Iv (_ : Nat) (p0 : Int) : Option Int :=
 Be (fun (v1 : Int × Int) =>
  Be (fun (v3 : Int × Int) =>
   (Wa ((⟨⟨(List.append (List.append [0, 1, 2, 2, 3, 3, 3, 3, 4, 4, 4, 4, 4, 4, 4, 4, 5, 5, 5, 5, 5, 5, 5, 5, 5, 5, 5, 5, 5, 5, 5, 5, 6, 6, 6, 6, 6, 6, 6, 6, 6, 6, 6, 6, 6, 6, 6, 6, 6, 6, 6, 6, 6, 6, 6, 6, 6, 6, 6, 6, 6, 6, 6, 6] [7, 7, 7, 7, 7, 7, 7, 7, 7, 7, 7, 7, 7, 7, 7, 7, 7, 7, 7, 7, 7, 7, 7, 7, 7, 7, 7, 7, 7, 7, 7, 7, 7, 7, 7, 7, 7, 7, 7, 7, 7, 7, 7, 7, 7, 7, 7, 7, 7, 7, 7, 7, 7, 7, 7, 7, 7, 7, 7, 7, 7, 7, 7, 7]) (List.append [8, 8, 8, 8, 8, 8, 8, 8, 8, 8, 8, 8, 8, 8, 8, 8, 8, 8, 8, 8, 8, 8, 8, 8, 8, 8, 8, 8, 8, 8, 8, 8, 8, 8, 8, 8, 8, 8, 8, 8, 8, 8, 8, 8, 8, 8, 8, 8, 8, 8, 8, 8, 8, 8, 8, 8, 8, 8, 8, 8, 8, 8, 8, 8] [8, 8, 8, 8, 8, 8, 8, 8, 8, 8, 8, 8, 8, 8, 8, 8, 8, 8, 8, 8, 8, 8, 8, 8, 8, 8, 8, 8, 8, 8, 8, 8, 8, 8, 8, 8, 8, 8, 8, 8, 8, 8, 8, 8, 8, 8, 8, 8, 8, 8, 8, 8, 8, 8, 8, 8, 8, 8, 8, 8, 8, 8, 8, 8]))⟩⟩ : ByteArray)) ((wI .u8 v3.1))).bind fun v5 =>
   some ((wI .i64 (v3.2 + (wI .i64 v5)))))
  fun j3 =>
  AY ((decide (256 ≤ v1.1)))
   (j3 ((FE .u32 v1.1 8), (wI .i64 (v1.2 + 8))))
   (j3 (v1.1, v1.2)))
 fun j1 =>
 AY ((decide (65536 ≤ p0)))
  (j1 ((FE .u32 p0 16), 16))
  (j1 (p0, 0))
def Io (_ : Nat) (p0 : Int) : Option Int :=
 Be (fun (v1 : Int × Int) =>
  Be (fun (v3 : Int × Int) =>
   Be (fun (v5 : Int × Int) =>
    (Wa ((⟨⟨(List.append (List.append [0, 1, 2, 2, 3, 3, 3, 3, 4, 4, 4, 4, 4, 4, 4, 4, 5, 5, 5, 5, 5, 5, 5, 5, 5, 5, 5, 5, 5, 5, 5, 5, 6, 6, 6, 6, 6, 6, 6, 6, 6, 6, 6, 6, 6, 6, 6, 6, 6, 6, 6, 6, 6, 6, 6, 6, 6, 6, 6, 6, 6, 6, 6, 6] [7, 7, 7, 7, 7, 7, 7, 7, 7, 7, 7, 7, 7, 7, 7, 7, 7, 7, 7, 7, 7, 7, 7, 7, 7, 7, 7, 7, 7, 7, 7, 7, 7, 7, 7, 7, 7, 7, 7, 7, 7, 7, 7, 7, 7, 7, 7, 7, 7, 7, 7, 7, 7, 7, 7, 7, 7, 7, 7, 7, 7, 7, 7, 7]) (List.append [8, 8, 8, 8, 8, 8, 8, 8, 8, 8, 8, 8, 8, 8, 8, 8, 8, 8, 8, 8, 8, 8, 8, 8, 8, 8, 8, 8, 8, 8, 8, 8, 8, 8, 8, 8, 8, 8, 8, 8, 8, 8, 8, 8, 8, 8, 8, 8, 8, 8, 8, 8, 8, 8, 8, 8, 8, 8, 8, 8, 8, 8, 8, 8] [8, 8, 8, 8, 8, 8, 8, 8, 8, 8, 8, 8, 8, 8, 8, 8, 8, 8, 8, 8, 8, 8, 8, 8, 8, 8, 8, 8, 8, 8, 8, 8, 8, 8, 8, 8, 8, 8, 8, 8, 8, 8, 8, 8, 8, 8, 8, 8, 8, 8, 8, 8, 8, 8, 8, 8, 8, 8, 8, 8, 8, 8, 8, 8]))⟩⟩ : ByteArray)) ((wI .u8 v5.1))).bind fun v7 =>
    some ((wI .i64 (v5.2 + (wI .i64 v7)))))
   fun j5 =>
   AY ((decide (256 ≤ v3.1)))
    (j5 ((FE .u64 v3.1 8), (wI .i64 (v3.2 + 8))))
    (j5 (v3.1, v3.2)))
  fun j3 =>
  AY ((decide (65536 ≤ v1.1)))
   (j3 ((FE .u64 v1.1 16), (wI .i64 (v1.2 + 16))))
   (j3 (v1.1, v1.2)))
 fun j1 =>
 AY ((decide (4294967296 ≤ p0)))
  (j1 ((FE .u64 p0 32), 32))
  (j1 (p0, 0))
def HR (N : Nat) (p0 : Int) : Option Int :=
 AY false
  ((Iv N ((wI .u32 p0))).bind fun v2 =>
  some v2)
  ((Io N p0).bind fun v3 =>
  some v3)
def B3 (N : Nat) (p1 : Int) (p3 : (Aa × Aa) → Option Int) (j4 : ((List Aa)) → Option ((List Aa))) : Nat → ((List Aa) × Int) → Option ((List Aa))
 | 0, _ => none
 | n4 + 1, v4 =>
  Be (fun (v6 : Bool) =>
   AY v6
    ((A8 v4.1 ((wI .i64 (v4.2 - 1)))).bind fun v12 =>
    (A8 v4.1 v4.2).bind fun v13 =>
    (A8 v4.1 v4.2).bind fun _ =>
    (A8 (v4.1.set ((v4.2).toNat) v12) ((wI .i64 (v4.2 - 1)))).bind fun _ =>
    B3 N p1 p3 j4 n4 ((v4.1.set ((v4.2).toNat) v12).set (((wI .i64 (v4.2 - 1))).toNat) v13, (wI .i64 (v4.2 - 1))))
    (j4 v4.1))
  fun j6 =>
  AY ((decide (p1 < v4.2)))
   ((A8 v4.1 v4.2).bind fun v8 =>
   (A8 v4.1 ((wI .i64 (v4.2 - 1)))).bind fun v9 =>
   (p3 ((v8, v9))).bind fun v10 =>
   j6 (decide (v10 < 0)))
   (j6 false)
def B0 (N : Nat) (p1 : Int) (p2 : Int) (p3 : (Aa × Aa) → Option Int) (j1 : ((List Aa)) → Option ((List Aa))) : Nat → ((List Aa) × Int) → Option ((List Aa))
 | 0, _ => none
 | n1 + 1, v1 =>
  AY ((decide (v1.2 < p2)))
   (B3 N p1 p3 (fun (v5 : (List Aa)) =>
    B0 N p1 p2 p3 j1 n1 (v5, (wI .i64 (v1.2 + 1)))) N (v1.1, v1.2))
   (j1 v1.1)
def Dt (N : Nat) (p0 : List Aa) (p1 : Int) (p2 : Int) (p3 : (Aa × Aa) → Option Int) : Option ((List Aa)) :=
 B0 N p1 p2 p3 (fun (v2 : (List Aa)) =>
  some v2) N (p0, (wI .i64 (p1 + 1)))
def CC (N : Nat) (p2 : Int) (p3 : Int) (p4 : (Aa × Aa) → Option Int) (j1 : ((List Aa)) → Option ((List Aa))) : Nat → ((List Aa) × Int) → Option ((List Aa))
 | 0, _ => none
 | n1 + 1, v1 =>
  AY ((decide (p2 ≤ (wI .i64 ((wI .i64 (2 * v1.2)) + 1)))))
   (j1 v1.1)
   (Be (fun (v4 : Int) =>
    (A8 v1.1 ((wI .i64 (p3 + v1.2)))).bind fun v11 =>
    (A8 v1.1 ((wI .i64 (p3 + v4)))).bind fun v12 =>
    (p4 ((v11, v12))).bind fun v13 =>
    AY ((!((decide (v13 < 0)))))
     (some v1.1)
     ((A8 v1.1 ((wI .i64 (p3 + v4)))).bind fun v15 =>
     (A8 v1.1 ((wI .i64 (p3 + v1.2)))).bind fun v16 =>
     (A8 v1.1 ((wI .i64 (p3 + v1.2)))).bind fun _ =>
     (A8 (v1.1.set (((wI .i64 (p3 + v1.2))).toNat) v15) ((wI .i64 (p3 + v4)))).bind fun _ =>
     CC N p2 p3 p4 j1 n1 ((v1.1.set (((wI .i64 (p3 + v1.2))).toNat) v15).set (((wI .i64 (p3 + v4))).toNat) v16, v4)))
   fun j4 =>
   Be (fun (v5 : Bool) =>
    AY v5
     (j4 (wI .i64 ((wI .i64 ((wI .i64 (2 * v1.2)) + 1)) + 1)))
     (j4 (wI .i64 ((wI .i64 (2 * v1.2)) + 1))))
   fun j5 =>
   AY ((decide ((wI .i64 ((wI .i64 ((wI .i64 (2 * v1.2)) + 1)) + 1)) < p2)))
    ((A8 v1.1 ((wI .i64 (p3 + (wI .i64 ((wI .i64 (2 * v1.2)) + 1)))))).bind fun v7 =>
    (A8 v1.1 ((wI .i64 ((wI .i64 (p3 + (wI .i64 ((wI .i64 (2 * v1.2)) + 1)))) + 1)))).bind fun v8 =>
    (p4 ((v7, v8))).bind fun v9 =>
    j5 (decide (v9 < 0)))
    (j5 false))
def C3 (N : Nat) (p0 : List Aa) (p1 : Int) (p2 : Int) (p3 : Int) (p4 : (Aa × Aa) → Option Int) : Option ((List Aa)) :=
 CC N p2 p3 p4 (fun (v2 : (List Aa)) =>
  some v2) N (p0, p1)
def CD (N : Nat) (p1 : Int) (p2 : Int) (p3 : (Aa × Aa) → Option Int) (j1 : ((List Aa)) → Option ((List Aa))) : Nat → ((List Aa) × Int) → Option ((List Aa))
 | 0, _ => none
 | n1 + 1, v1 =>
  AY ((decide (0 ≤ v1.2)))
   ((C3 N v1.1 v1.2 ((wI .i64 (p2 - p1))) p1 p3).bind fun v4 =>
   CD N p1 p2 p3 j1 n1 (v4, (wI .i64 (v1.2 - 1))))
   (j1 v1.1)
def CB (N : Nat) (p1 : Int) (p3 : (Aa × Aa) → Option Int) (j5 : ((List Aa)) → Option ((List Aa))) : Nat → ((List Aa) × Int) → Option ((List Aa))
 | 0, _ => none
 | n5 + 1, v5 =>
  AY ((decide (0 ≤ v5.2)))
   ((A8 v5.1 ((wI .i64 (p1 + v5.2)))).bind fun v8 =>
   (A8 v5.1 p1).bind fun v9 =>
   (A8 v5.1 p1).bind fun _ =>
   (A8 (v5.1.set ((p1).toNat) v8) ((wI .i64 (p1 + v5.2)))).bind fun _ =>
   (C3 N ((v5.1.set ((p1).toNat) v8).set (((wI .i64 (p1 + v5.2))).toNat) v9) 0 v5.2 p1 p3).bind fun v12 =>
   CB N p1 p3 j5 n5 (v12, (wI .i64 (v5.2 - 1))))
   (j5 v5.1)
def Eb (N : Nat) (p0 : List Aa) (p1 : Int) (p2 : Int) (p3 : (Aa × Aa) → Option Int) : Option ((List Aa)) :=
 CD N p1 p2 p3 (fun (v2 : (List Aa)) =>
  CB N p1 p3 (fun (v6 : (List Aa)) =>
   some v6) N (v2, (wI .i64 ((wI .i64 (p2 - p1)) - 1)))) N (p0, (wI .i64 (Int.tdiv ((wI .i64 ((wI .i64 (p2 - p1)) - 1))) 2)))
def GM (N : Nat) (p0 : Int) : Option Int :=
 (HR N ((wI .u64 p0))).bind fun v1 =>
 (Ef (0 ≤ v1)).bind fun _ =>
 some ((Dp .u64 1 v1))
def GU (_ : Nat) (p0 : Int) : Option (Int × Int) :=
 some ((Is .u64 ((Is .u64 ((Is .u64 p0 ((Dp .u64 p0 13)))) ((FE .u64 ((Is .u64 p0 ((Dp .u64 p0 13)))) 7)))) ((Dp .u64 ((Is .u64 ((Is .u64 p0 ((Dp .u64 p0 13)))) ((FE .u64 ((Is .u64 p0 ((Dp .u64 p0 13)))) 7)))) 17))), (Is .u64 ((Is .u64 ((Is .u64 p0 ((Dp .u64 p0 13)))) ((FE .u64 ((Is .u64 p0 ((Dp .u64 p0 13)))) 7)))) ((Dp .u64 ((Is .u64 ((Is .u64 p0 ((Dp .u64 p0 13)))) ((FE .u64 ((Is .u64 p0 ((Dp .u64 p0 13)))) 7)))) 17))))
def B2 (N : Nat) (p1 : Int) (p2 : Int) (v2 : Int) (j3 : ((List Aa)) → Option ((List Aa))) : Nat → ((List Aa) × Int × Int) → Option ((List Aa))
 | 0, _ => none
 | n3 + 1, v3 =>
  AY ((decide (v3.2.2 ≤ (wI .i64 ((wI .i64 (p1 + (wI .i64 ((wI .i64 (Int.tdiv ((wI .i64 (p2 - p1))) 4)) * 2)))) + 1)))))
   ((GU N v3.2.1).bind fun v6 =>
   Be (fun (v7 : Int) =>
    (A8 v3.1 ((wI .i64 (p1 + v7)))).bind fun v9 =>
    (A8 v3.1 v3.2.2).bind fun v10 =>
    (A8 v3.1 v3.2.2).bind fun _ =>
    (A8 (v3.1.set ((v3.2.2).toNat) v9) ((wI .i64 (p1 + v7)))).bind fun _ =>
    B2 N p1 p2 v2 j3 n3 ((v3.1.set ((v3.2.2).toNat) v9).set (((wI .i64 (p1 + v7))).toNat) v10, v6.2, (wI .i64 (v3.2.2 + 1))))
   fun j7 =>
   AY ((decide ((wI .i64 (p2 - p1)) ≤ (wI .i64 ((Hr .u64 v6.1 ((wI .u64 (v2 - 1)))))))))
    (j7 (wI .i64 ((wI .i64 ((Hr .u64 v6.1 ((wI .u64 (v2 - 1)))))) - (wI .i64 (p2 - p1)))))
    (j7 (wI .i64 ((Hr .u64 v6.1 ((wI .u64 (v2 - 1))))))))
   (j3 v3.1)
def Dx (N : Nat) (p0 : List Aa) (p1 : Int) (p2 : Int) (_ : (Aa × Aa) → Option Int) : Option ((List Aa)) :=
 AY ((decide (8 ≤ (wI .i64 (p2 - p1)))))
  ((GM N ((wI .i64 (p2 - p1)))).bind fun v2 =>
  B2 N p1 p2 v2 (fun (v4 : (List Aa)) =>
   some v4) N (p0, (wI .u64 ((wI .i64 (p2 - p1)))), (wI .i64 ((wI .i64 (p1 + (wI .i64 ((wI .i64 (Int.tdiv ((wI .i64 (p2 - p1))) 4)) * 2)))) - 1))))
  (some p0)
def Cm (_ : Nat) (p0 : List Aa) (p1 : Int) (p2 : Int) (p3 : Int) (p4 : (Aa × Aa) → Option Int) : Option (Int × Int × Int) :=
 (A8 p0 p2).bind fun v1 =>
 (A8 p0 p1).bind fun v2 =>
 (p4 ((v1, v2))).bind fun v3 =>
 AY ((decide (v3 < 0)))
  (some (p2, p1, (wI .i64 (p3 + 1))))
  (some (p1, p2, p3))
def Dg (N : Nat) (p0 : List Aa) (p1 : Int) (p2 : Int) (p3 : Int) (p4 : Int) (p5 : (Aa × Aa) → Option Int) : Option (Int × Int) :=
 (Cm N p0 p1 p2 p4 p5).bind fun v1 =>
 (Cm N p0 v1.2.1 p3 v1.2.2 p5).bind fun v2 =>
 (Cm N p0 v1.1 v2.1 v2.2.2 p5).bind fun v3 =>
 some (v3.2.1, v3.2.2)
def BA (N : Nat) (p0 : List Aa) (p1 : Int) (p2 : Int) (p3 : (Aa × Aa) → Option Int) : Option (Int × Int) :=
 (Dg N p0 ((wI .i64 (p1 - 1))) p1 ((wI .i64 (p1 + 1))) p2 p3).bind fun v1 =>
 some (v1.1, v1.2)
def DL (N : Nat) (p0 : List Aa) (p1 : Int) (p2 : Int) (p3 : (Aa × Aa) → Option Int) : Option (Int × Int) :=
 Be (fun (v1 : Int × Int) =>
  AY ((v1.1 == 0))
   (some (v1.2, 1))
   (AY ((v1.1 == 12))
    (some (v1.2, 2))
    (some (v1.2, 0))))
 fun j1 =>
 AY ((decide (8 ≤ (wI .i64 (p2 - p1)))))
  (Be (fun (v3 : Int × Int × Int × Int) =>
   (Dg N p0 v3.2.1 v3.2.2.1 v3.2.2.2 v3.1 p3).bind fun v8 =>
   j1 (v8.2, v8.1))
  fun j3 =>
  AY ((decide (50 ≤ (wI .i64 (p2 - p1)))))
   ((BA N p0 ((wI .i64 (p1 + (wI .i64 ((wI .i64 (Int.tdiv ((wI .i64 (p2 - p1))) 4)) * 1))))) 0 p3).bind fun v5 =>
   (BA N p0 ((wI .i64 (p1 + (wI .i64 ((wI .i64 (Int.tdiv ((wI .i64 (p2 - p1))) 4)) * 2))))) v5.2 p3).bind fun v6 =>
   (BA N p0 ((wI .i64 (p1 + (wI .i64 ((wI .i64 (Int.tdiv ((wI .i64 (p2 - p1))) 4)) * 3))))) v6.2 p3).bind fun v7 =>
   j3 (v7.2, v5.1, v6.1, v7.1))
   (j3 (0, (wI .i64 (p1 + (wI .i64 ((wI .i64 (Int.tdiv ((wI .i64 (p2 - p1))) 4)) * 1)))), (wI .i64 (p1 + (wI .i64 ((wI .i64 (Int.tdiv ((wI .i64 (p2 - p1))) 4)) * 2)))), (wI .i64 (p1 + (wI .i64 ((wI .i64 (Int.tdiv ((wI .i64 (p2 - p1))) 4)) * 3)))))))
  (j1 (0, (wI .i64 (p1 + (wI .i64 ((wI .i64 (Int.tdiv ((wI .i64 (p2 - p1))) 4)) * 2))))))
def B7 (N : Nat) (j1 : ((List Aa)) → Option ((List Aa))) : Nat → ((List Aa) × Int × Int) → Option ((List Aa))
 | 0, _ => none
 | n1 + 1, v1 =>
  AY ((decide (v1.2.1 < v1.2.2)))
   ((A8 v1.1 v1.2.2).bind fun v4 =>
   (A8 v1.1 v1.2.1).bind fun v5 =>
   (A8 v1.1 v1.2.1).bind fun _ =>
   (A8 (v1.1.set ((v1.2.1).toNat) v4) v1.2.2).bind fun _ =>
   B7 N j1 n1 ((v1.1.set ((v1.2.1).toNat) v4).set ((v1.2.2).toNat) v5, (wI .i64 (v1.2.1 + 1)), (wI .i64 (v1.2.2 - 1))))
   (j1 v1.1)
def DG (N : Nat) (p0 : List Aa) (p1 : Int) (p2 : Int) (_ : (Aa × Aa) → Option Int) : Option ((List Aa)) :=
 B7 N (fun (v2 : (List Aa)) =>
  some v2) N (p0, p1, (wI .i64 (p2 - 1)))
def Bv (N : Nat) (p2 : Int) (p3 : (Aa × Aa) → Option Int) (v1 : (List Aa) × Int × Int) (j5 : Int → Option (Bool × (List Aa))) : Nat → Int → Option (Bool × (List Aa))
 | 0, _ => none
 | n5 + 1, v5 =>
  Be (fun (v7 : Bool) =>
   AY v7
    (Bv N p2 p3 v1 j5 n5 (wI .i64 (v5 + 1)))
    (j5 v5))
  fun j7 =>
  AY ((decide (v5 < p2)))
   ((A8 v1.1 v5).bind fun v9 =>
   (A8 v1.1 ((wI .i64 (v5 - 1)))).bind fun v10 =>
   (p3 ((v9, v10))).bind fun v11 =>
   j7 (!((decide (v11 < 0)))))
   (j7 false)
def Bq (N : Nat) (p3 : (Aa × Aa) → Option Int) (j21 : ((List Aa)) → Option (Bool × (List Aa))) : Nat → ((List Aa) × Int) → Option (Bool × (List Aa))
 | 0, _ => none
 | n21 + 1, v21 =>
  AY ((decide (1 ≤ v21.2)))
   ((A8 v21.1 v21.2).bind fun v24 =>
   (A8 v21.1 ((wI .i64 (v21.2 - 1)))).bind fun v25 =>
   (p3 ((v24, v25))).bind fun v26 =>
   AY ((!((decide (v26 < 0)))))
    (j21 v21.1)
    ((A8 v21.1 ((wI .i64 (v21.2 - 1)))).bind fun v28 =>
    (A8 v21.1 v21.2).bind fun v29 =>
    (A8 v21.1 v21.2).bind fun _ =>
    (A8 (v21.1.set ((v21.2).toNat) v28) ((wI .i64 (v21.2 - 1)))).bind fun _ =>
    Bq N p3 j21 n21 ((v21.1.set ((v21.2).toNat) v28).set (((wI .i64 (v21.2 - 1))).toNat) v29, (wI .i64 (v21.2 - 1)))))
   (j21 v21.1)
def Bp (N : Nat) (p2 : Int) (p3 : (Aa × Aa) → Option Int) (j33 : ((List Aa)) → Option (Bool × (List Aa))) : Nat → ((List Aa) × Int) → Option (Bool × (List Aa))
 | 0, _ => none
 | n33 + 1, v33 =>
  AY ((decide (v33.2 < p2)))
   ((A8 v33.1 v33.2).bind fun v36 =>
   (A8 v33.1 ((wI .i64 (v33.2 - 1)))).bind fun v37 =>
   (p3 ((v36, v37))).bind fun v38 =>
   AY ((!((decide (v38 < 0)))))
    (j33 v33.1)
    ((A8 v33.1 ((wI .i64 (v33.2 - 1)))).bind fun v40 =>
    (A8 v33.1 v33.2).bind fun v41 =>
    (A8 v33.1 v33.2).bind fun _ =>
    (A8 (v33.1.set ((v33.2).toNat) v40) ((wI .i64 (v33.2 - 1)))).bind fun _ =>
    Bp N p2 p3 j33 n33 ((v33.1.set ((v33.2).toNat) v40).set (((wI .i64 (v33.2 - 1))).toNat) v41, (wI .i64 (v33.2 + 1)))))
   (j33 v33.1)
def Bw (N : Nat) (p1 : Int) (p2 : Int) (p3 : (Aa × Aa) → Option Int) (j1 : ((List Aa)) → Option (Bool × (List Aa))) : Nat → ((List Aa) × Int × Int) → Option (Bool × (List Aa))
 | 0, _ => none
 | n1 + 1, v1 =>
  AY ((decide (v1.2.2 < 5)))
   (Be (fun (v4 : (List Aa) × Int) =>
    Bw N p1 p2 p3 j1 n1 (v4.1, v4.2, (wI .i64 (v1.2.2 + 1))))
   fun j4 =>
   Bv N p2 p3 v1 (fun (v6 : Int) =>
    AY ((v6 == p2))
     (some (true, v1.1))
     (AY ((decide ((wI .i64 (p2 - p1)) < 50)))
      (some (false, v1.1))
      ((A8 v1.1 ((wI .i64 (v6 - 1)))).bind fun v15 =>
      (A8 v1.1 v6).bind fun v16 =>
      (A8 v1.1 v6).bind fun _ =>
      (A8 (v1.1.set ((v6).toNat) v15) ((wI .i64 (v6 - 1)))).bind fun _ =>
      Be (fun (v19 : (List Aa)) =>
       AY ((decide (2 ≤ (wI .i64 (p2 - v6)))))
        (Bp N p2 p3 (fun (v34 : (List Aa)) =>
         j4 (v34, v6)) N (v19, (wI .i64 (v6 + 1))))
        (j4 (v19, v6)))
      fun j19 =>
      AY ((decide (2 ≤ (wI .i64 (v6 - p1)))))
       (Bq N p3 (fun (v22 : (List Aa)) =>
        j19 v22) N ((v1.1.set ((v6).toNat) v15).set (((wI .i64 (v6 - 1))).toNat) v16, (wI .i64 (v6 - 1))))
       (j19 ((v1.1.set ((v6).toNat) v15).set (((wI .i64 (v6 - 1))).toNat) v16))))) N v1.2.1)
   (j1 v1.1)
def CG (N : Nat) (p0 : List Aa) (p1 : Int) (p2 : Int) (p3 : (Aa × Aa) → Option Int) : Option (Bool × (List Aa)) :=
 Bw N p1 p2 p3 (fun (v2 : (List Aa)) =>
  some (false, v2)) N (p0, (wI .i64 (p1 + 1)), 0)
def BT (N : Nat) (p1 : Int) (p4 : (Aa × Aa) → Option Int) (v5 : (List Aa) × Int × Int) (j7 : Int → Option (Int × (List Aa))) : Nat → Int → Option (Int × (List Aa))
 | 0, _ => none
 | n7 + 1, v7 =>
  Be (fun (v9 : Bool) =>
   AY v9
    (BT N p1 p4 v5 j7 n7 (wI .i64 (v7 + 1)))
    (j7 v7))
  fun j9 =>
  AY ((decide (v7 ≤ v5.2.2)))
   ((A8 v5.1 p1).bind fun v11 =>
   (A8 v5.1 v7).bind fun v12 =>
   (p4 ((v11, v12))).bind fun v13 =>
   j9 (!((decide (v13 < 0)))))
   (j9 false)
def BN (N : Nat) (p1 : Int) (p4 : (Aa × Aa) → Option Int) (v5 : (List Aa) × Int × Int) (v8 : Int) (j15 : Int → Option (Int × (List Aa))) : Nat → Int → Option (Int × (List Aa))
 | 0, _ => none
 | n15 + 1, v15 =>
  Be (fun (v17 : Bool) =>
   AY v17
    (BN N p1 p4 v5 v8 j15 n15 (wI .i64 (v15 - 1)))
    (j15 v15))
  fun j17 =>
  AY ((decide (v8 ≤ v15)))
   ((A8 v5.1 p1).bind fun v19 =>
   (A8 v5.1 v15).bind fun v20 =>
   (p4 ((v19, v20))).bind fun v21 =>
   j17 (decide (v21 < 0)))
   (j17 false)
def BS (N : Nat) (p1 : Int) (p4 : (Aa × Aa) → Option Int) (j5 : ((List Aa) × Int) → Option (Int × (List Aa))) : Nat → ((List Aa) × Int × Int) → Option (Int × (List Aa))
 | 0, _ => none
 | n5 + 1, v5 =>
  BT N p1 p4 v5 (fun (v8 : Int) =>
   BN N p1 p4 v5 v8 (fun (v16 : Int) =>
    AY ((decide (v16 < v8)))
     (j5 (v5.1, v8))
     ((A8 v5.1 v16).bind fun v24 =>
     (A8 v5.1 v8).bind fun v25 =>
     (A8 v5.1 v8).bind fun _ =>
     (A8 (v5.1.set ((v8).toNat) v24) v16).bind fun _ =>
     BS N p1 p4 j5 n5 ((v5.1.set ((v8).toNat) v24).set ((v16).toNat) v25, (wI .i64 (v8 + 1)), (wI .i64 (v16 - 1))))) N v5.2.2) N v5.2.1
def Dj (N : Nat) (p0 : List Aa) (p1 : Int) (p2 : Int) (p3 : Int) (p4 : (Aa × Aa) → Option Int) : Option (Int × (List Aa)) :=
 (A8 p0 p3).bind fun v1 =>
 (A8 p0 p1).bind fun v2 =>
 (A8 p0 p1).bind fun _ =>
 (A8 (p0.set ((p1).toNat) v1) p3).bind fun _ =>
 BS N p1 p4 (fun (v6 : (List Aa) × Int) =>
  some (v6.2, v6.1)) N ((p0.set ((p1).toNat) v1).set ((p3).toNat) v2, (wI .i64 (p1 + 1)), (wI .i64 (p2 - 1)))
def Cs (N : Nat) (p0 : List Aa) (p1 : Int) (p2 : Int) (p3 : Int) (p4 : (Aa × Aa) → Option Int) (v1 : Aa) (v2 : Aa) (j5 : Int → Option (Int × Bool × (List Aa))) : Nat → Int → Option (Int × Bool × (List Aa))
 | 0, _ => none
 | n5 + 1, v5 =>
  Be (fun (v7 : Bool) =>
   AY v7
    (Cs N p0 p1 p2 p3 p4 v1 v2 j5 n5 (wI .i64 (v5 + 1)))
    (j5 v5))
  fun j7 =>
  AY ((decide (v5 ≤ (wI .i64 (p2 - 1)))))
   ((A8 ((p0.set ((p1).toNat) v1).set ((p3).toNat) v2) v5).bind fun v9 =>
   (A8 ((p0.set ((p1).toNat) v1).set ((p3).toNat) v2) p1).bind fun v10 =>
   (p4 ((v9, v10))).bind fun v11 =>
   j7 (decide (v11 < 0)))
   (j7 false)
def Ck (N : Nat) (p0 : List Aa) (p1 : Int) (p3 : Int) (p4 : (Aa × Aa) → Option Int) (v1 : Aa) (v2 : Aa) (v6 : Int) (j13 : Int → Option (Int × Bool × (List Aa))) : Nat → Int → Option (Int × Bool × (List Aa))
 | 0, _ => none
 | n13 + 1, v13 =>
  Be (fun (v15 : Bool) =>
   AY v15
    (Ck N p0 p1 p3 p4 v1 v2 v6 j13 n13 (wI .i64 (v13 - 1)))
    (j13 v13))
  fun j15 =>
  AY ((decide (v6 ≤ v13)))
   ((A8 ((p0.set ((p1).toNat) v1).set ((p3).toNat) v2) v13).bind fun v17 =>
   (A8 ((p0.set ((p1).toNat) v1).set ((p3).toNat) v2) p1).bind fun v18 =>
   (p4 ((v17, v18))).bind fun v19 =>
   j15 (!((decide (v19 < 0)))))
   (j15 false)
def Cj (N : Nat) (p1 : Int) (p4 : (Aa × Aa) → Option Int) (v30 : (List Aa) × Int × Int) (j32 : Int → Option (Int × Bool × (List Aa))) : Nat → Int → Option (Int × Bool × (List Aa))
 | 0, _ => none
 | n32 + 1, v32 =>
  Be (fun (v34 : Bool) =>
   AY v34
    (Cj N p1 p4 v30 j32 n32 (wI .i64 (v32 + 1)))
    (j32 v32))
  fun j34 =>
  AY ((decide (v32 ≤ v30.2.2)))
   ((A8 v30.1 v32).bind fun v36 =>
   (A8 v30.1 p1).bind fun v37 =>
   (p4 ((v36, v37))).bind fun v38 =>
   j34 (decide (v38 < 0)))
   (j34 false)
def Cl (N : Nat) (p1 : Int) (p4 : (Aa × Aa) → Option Int) (v30 : (List Aa) × Int × Int) (v33 : Int) (j40 : Int → Option (Int × Bool × (List Aa))) : Nat → Int → Option (Int × Bool × (List Aa))
 | 0, _ => none
 | n40 + 1, v40 =>
  Be (fun (v42 : Bool) =>
   AY v42
    (Cl N p1 p4 v30 v33 j40 n40 (wI .i64 (v40 - 1)))
    (j40 v40))
  fun j42 =>
  AY ((decide (v33 ≤ v40)))
   ((A8 v30.1 v40).bind fun v44 =>
   (A8 v30.1 p1).bind fun v45 =>
   (p4 ((v44, v45))).bind fun v46 =>
   j42 (!((decide (v46 < 0)))))
   (j42 false)
def Ci (N : Nat) (p1 : Int) (p4 : (Aa × Aa) → Option Int) (j30 : ((List Aa) × Int) → Option (Int × Bool × (List Aa))) : Nat → ((List Aa) × Int × Int) → Option (Int × Bool × (List Aa))
 | 0, _ => none
 | n30 + 1, v30 =>
  Cj N p1 p4 v30 (fun (v33 : Int) =>
   Cl N p1 p4 v30 v33 (fun (v41 : Int) =>
    AY ((decide (v41 < v33)))
     (j30 (v30.1, v41))
     ((A8 v30.1 v41).bind fun v49 =>
     (A8 v30.1 v33).bind fun v50 =>
     (A8 v30.1 v33).bind fun _ =>
     (A8 (v30.1.set ((v33).toNat) v49) v41).bind fun _ =>
     Ci N p1 p4 j30 n30 ((v30.1.set ((v33).toNat) v49).set ((v41).toNat) v50, (wI .i64 (v33 + 1)), (wI .i64 (v41 - 1))))) N v30.2.2) N v30.2.1
def D2 (N : Nat) (p0 : List Aa) (p1 : Int) (p2 : Int) (p3 : Int) (p4 : (Aa × Aa) → Option Int) : Option (Int × Bool × (List Aa)) :=
 (A8 p0 p3).bind fun v1 =>
 (A8 p0 p1).bind fun v2 =>
 (A8 p0 p1).bind fun _ =>
 (A8 (p0.set ((p1).toNat) v1) p3).bind fun _ =>
 Cs N p0 p1 p2 p3 p4 v1 v2 (fun (v6 : Int) =>
  Ck N p0 p1 p3 p4 v1 v2 v6 (fun (v14 : Int) =>
   AY ((decide (v14 < v6)))
    ((A8 ((p0.set ((p1).toNat) v1).set ((p3).toNat) v2) p1).bind fun v22 =>
    (A8 ((p0.set ((p1).toNat) v1).set ((p3).toNat) v2) v14).bind fun v23 =>
    (A8 ((p0.set ((p1).toNat) v1).set ((p3).toNat) v2) v14).bind fun _ =>
    (A8 (((p0.set ((p1).toNat) v1).set ((p3).toNat) v2).set ((v14).toNat) v22) p1).bind fun _ =>
    some (v14, true, (((p0.set ((p1).toNat) v1).set ((p3).toNat) v2).set ((v14).toNat) v22).set ((p1).toNat) v23))
    ((A8 ((p0.set ((p1).toNat) v1).set ((p3).toNat) v2) v14).bind fun v26 =>
    (A8 ((p0.set ((p1).toNat) v1).set ((p3).toNat) v2) v6).bind fun v27 =>
    (A8 ((p0.set ((p1).toNat) v1).set ((p3).toNat) v2) v6).bind fun _ =>
    (A8 (((p0.set ((p1).toNat) v1).set ((p3).toNat) v2).set ((v6).toNat) v26) v14).bind fun _ =>
    Ci N p1 p4 (fun (v31 : (List Aa) × Int) =>
     (A8 v31.1 p1).bind fun v53 =>
     (A8 v31.1 v31.2).bind fun v54 =>
     (A8 v31.1 v31.2).bind fun _ =>
     (A8 (v31.1.set ((v31.2).toNat) v53) p1).bind fun _ =>
     some (v31.2, false, (v31.1.set ((v31.2).toNat) v53).set ((p1).toNat) v54)) N ((((p0.set ((p1).toNat) v1).set ((p3).toNat) v2).set ((v6).toNat) v26).set ((v14).toNat) v27, (wI .i64 (v6 + 1)), (wI .i64 (v14 - 1))))) N (wI .i64 (p2 - 1))) N (wI .i64 (p1 + 1))
def Bn (N : Nat) (p4 : (Aa × Aa) → Option Int) (rc : (List Aa) → Int → Int → Int → ((Aa × Aa) → Option Int) → Option ((List Aa))) (j1 : Unit → Option ((List Aa))) : Nat → ((List Aa) × Int × Int × Int × Bool × Bool) → Option ((List Aa))
 | 0, _ => none
 | n1 + 1, v1 =>
  AY ((decide ((wI .i64 (v1.2.2.1 - v1.2.1)) ≤ 12)))
   ((Dt N v1.1 v1.2.1 v1.2.2.1 p4).bind fun v4 =>
   some v4)
   (AY ((v1.2.2.2.1 == 0))
    ((Eb N v1.1 v1.2.1 v1.2.2.1 p4).bind fun v6 =>
    some v6)
    (Be (fun (v7 : (List Aa) × Int) =>
     (DL N v7.1 v1.2.1 v1.2.2.1 p4).bind fun v10 =>
     Be (fun (v11 : (List Aa) × Int × Int) =>
      Be (fun (v14 : (List Aa)) =>
       Be (fun (v21 : Bool) =>
        AY v21
         ((Dj N v14 v1.2.1 v1.2.2.1 v11.2.1 p4).bind fun v27 =>
         Bn N p4 rc j1 n1 (v27.2, v27.1, v1.2.2.1, v7.2, v1.2.2.2.2.1, v1.2.2.2.2.2))
         ((D2 N v14 v1.2.1 v1.2.2.1 v11.2.1 p4).bind fun v28 =>
         AY ((decide ((wI .i64 (v28.1 - v1.2.1)) < (wI .i64 (v1.2.2.1 - v28.1)))))
          ((rc v28.2.2 v1.2.1 v28.1 v7.2 p4).bind fun v30 =>
          Bn N p4 rc j1 n1 (v30, (wI .i64 (v28.1 + 1)), v1.2.2.1, v7.2, (decide ((wI .i64 (Int.tdiv ((wI .i64 (v1.2.2.1 - v1.2.1))) 8)) ≤ (wI .i64 (v28.1 - v1.2.1)))), v28.2.1))
          ((rc v28.2.2 ((wI .i64 (v28.1 + 1))) v1.2.2.1 v7.2 p4).bind fun v31 =>
          Bn N p4 rc j1 n1 (v31, v1.2.1, v28.1, v7.2, (decide ((wI .i64 (Int.tdiv ((wI .i64 (v1.2.2.1 - v1.2.1))) 8)) ≤ (wI .i64 (v1.2.2.1 - v28.1)))), v28.2.1))))
       fun j21 =>
       AY ((decide (0 < v1.2.1)))
        ((A8 v14 ((wI .i64 (v1.2.1 - 1)))).bind fun v23 =>
        (A8 v14 v11.2.1).bind fun v24 =>
        (p4 ((v23, v24))).bind fun v25 =>
        j21 (!((decide (v25 < 0)))))
        (j21 false))
      fun j14 =>
      Be (fun (v15 : Bool) =>
       AY v15
        ((CG N v11.1 v1.2.1 v1.2.2.1 p4).bind fun v19 =>
        AY v19.1
         (some v19.2)
         (j14 v19.2))
        (j14 v11.1))
      fun j15 =>
      AY v1.2.2.2.2.1
       (AY v1.2.2.2.2.2
        (j15 (v11.2.2 == 1))
        (j15 false))
       (j15 false))
     fun j11 =>
     AY ((v10.2 == 2))
      ((DG N v7.1 v1.2.1 v1.2.2.1 p4).bind fun v13 =>
      j11 (v13, (wI .i64 ((wI .i64 (v1.2.2.1 - 1)) - (wI .i64 (v10.1 - v1.2.1)))), 1))
      (j11 (v7.1, v10.1, v10.2)))
    fun j7 =>
    AY ((!v1.2.2.2.2.1))
     ((Dx N v1.1 v1.2.1 v1.2.2.1 p4).bind fun v9 =>
     j7 (v9, (wI .i64 (v1.2.2.2.1 - 1))))
     (j7 (v1.1, v1.2.2.2.1))))
def D1 (N : Nat) (rc : (List Aa) → Int → Int → Int → ((Aa × Aa) → Option Int) → Option ((List Aa))) (p0 : List Aa) (p1 : Int) (p2 : Int) (p3 : Int) (p4 : (Aa × Aa) → Option Int) : Option ((List Aa)) :=
 Bn N p4 rc (fun (_ : Unit) =>
  none) N (p0, p1, p2, p3, true, true)
def CR (N : Nat) : Nat → (List Aa) → Int → Int → Int → ((Aa × Aa) → Option Int) → Option ((List Aa))
 | 0, _, _, _, _, _ => none
 | k + 1, p0, p1, p2, p3, p4 => D1 N (CR N k) p0 p1 p2 p3 p4
def zFS (N : Nat) (p0 : List Aa) (p1 : Int) (p2 : Int) (p3 : Int) (p4 : (Aa × Aa) → Option Int) : Option ((List Aa)) := CR N N p0 p1 p2 p3 p4
def Dm (N : Nat) (p0 : List Aa) (p1 : (Aa × Aa) → Option Int) : Option ((List Aa)) :=
 (HR N ((wI .u64 ((p0.length : Int))))).bind fun v1 =>
 (zFS N p0 0 ((p0.length : Int)) v1 p1).bind fun v2 =>
 some v2
def HZ (_ : Nat) (p0 : Int) : Option Bool :=
 some ((p0 != p0))
def Gn (N : Nat) (p0 : Int) (p1 : Int) : Option Int :=
 (HZ N p0).bind fun v1 =>
 (HZ N p1).bind fun v2 =>
 AY v1
  (AY v2
   (some 0)
   (some ((-1))))
  (AY v2
   (some 1)
   (AY ((decide (p0 < p1)))
    (some ((-1)))
    (AY ((decide (p1 < p0)))
     (some 1)
     (some 0))))
def HT (N : Nat) (p0 : List Int) (j1 : Unit → Option Int) : Nat → Int → Option Int
 | 0, _ => none
 | n1 + 1, v1 =>
  AY ((decide (v1 < (p0.length : Int))))
   ((A8 p0 v1).bind fun v4 =>
   AY ((v4 != 0))
    (some v4)
    (HT N p0 j1 n1 (wI .i64 (v1 + 1))))
   (j1 ())
def KI (N : Nat) (p0 : List Int) : Option Int :=
 HT N p0 (fun (_ : Unit) =>
  some 0) N 0
def Hb (N : Nat) (p0 : Aa) (p1 : Aa) : Option Int :=
 (Gn N p0.fw p1.fw).bind fun v1 =>
 (Gn N p0.fv p1.fv).bind fun v2 =>
 (Gn N p0.fu p1.fu).bind fun v3 =>
 (KI N (([v1, v2, v3] : List Int))).bind fun v4 =>
 some v4
def BU (N : Nat) (p0 : List Aa) (v2 : Int) (j10 : ((List Aa) × Int) → Option (Nat × (List Aa))) : Nat → ((List Aa) × Int × Int) → Option (Nat × (List Aa))
 | 0, _ => none
 | n10 + 1, v10 =>
  AY ((decide (v10.2.2 < ((((p0.length - (v2).toNat)) : Nat) : Int))))
   (Be (fun (v13 : (List Aa) × Int) =>
    BU N p0 v2 j10 n10 (v13.1, v13.2, (wI .i64 (v10.2.2 + 1))))
   fun j13 =>
   (Ef (((v2).toNat) + ((p0.length - (v2).toNat)) ≤ v10.1.length)).bind fun _ =>
   (A8 (((v10.1.drop ((v2).toNat)).take ((p0.length - (v2).toNat)))) v10.2.2).bind fun v14 =>
   (A8 (((v10.1.drop ((v2).toNat)).take ((p0.length - (v2).toNat)))) ((wI .i64 (v10.2.2 - 1)))).bind fun v16 =>
   AY ((!((v14.fw == v16.fw) && ((v14.fv == v16.fv) && ((v14.fu == v16.fu) && true)))))
    ((A8 (((v10.1.drop ((v2).toNat)).take ((p0.length - (v2).toNat)))) v10.2.2).bind fun v18 =>
    (A8 v10.1 v10.2.1).bind fun _ =>
    j13 (v10.1.set ((v10.2.1).toNat) v18, (wI .i64 (v10.2.1 + 1))))
    (j13 (v10.1, v10.2.1)))
   (j10 (v10.1, v10.2.1))
def BY (N : Nat) (p0 : List Aa) (j2 : Unit → Option (Nat × (List Aa))) : Nat → Int → Option (Nat × (List Aa))
 | 0, _ => none
 | n2 + 1, v2 =>
  AY ((decide (v2 < (p0.length : Int))))
   ((A8 p0 v2).bind fun v5 =>
   (A8 p0 ((wI .i64 (v2 - 1)))).bind fun v6 =>
   AY (((v5.fw == v6.fw) && ((v5.fv == v6.fv) && ((v5.fu == v6.fu) && true))))
    ((Ef ((0 : Int) ≤ v2 ∧ (v2).toNat ≤ p0.length ∧ p0.length ≤ p0.length)).bind fun _ =>
    BU N p0 v2 (fun (v11 : (List Aa) × Int) =>
     (Ef ((0 : Int) ≤ v11.2 ∧ (v11.2).toNat ≤ v11.1.length ∧ v11.1.length ≤ v11.1.length)).bind fun _ =>
     (Ef ((0 : Int) ≤ v11.2 ∧ 0 ≤ (v11.2).toNat ∧ (v11.2).toNat ≤ (HC v11.1 ((v11.2).toNat) (List.replicate ((v11.1.length - (v11.2).toNat)) ((Aa.mk 0 0 0)))).length)).bind fun _ =>
     some ((v11.2).toNat, HC v11.1 ((v11.2).toNat) (List.replicate ((v11.1.length - (v11.2).toNat)) ((Aa.mk 0 0 0))))) N (p0, v2, 1))
    (BY N p0 j2 n2 (wI .i64 (v2 + 1))))
   (j2 ())
def Dv (N : Nat) (p0 : List Aa) : Option (Nat × (List Aa)) :=
 AY ((decide ((p0.length : Int) < 2)))
  (some (p0.length, p0))
  (BY N p0 (fun (_ : Unit) =>
   some (p0.length, p0)) N 1)
def DI (_ : Nat) (p0 : List Aa) (p1 : Int) (p2 : Int) : Option (Nat × (List Aa)) :=
 (Ef ((0 : Int) ≤ p1 ∧ (p1).toNat ≤ (p2).toNat ∧ 0 ≤ p2 ∧ (p2).toNat ≤ ((p0.length : Int)).toNat ∧ 0 ≤ (p0.length : Int) ∧ ((p0.length : Int)).toNat ≤ p0.length)).bind fun _ =>
 AY ((p1 == p2))
  (some (p0.length, p0))
  ((Ef ((0 : Int) ≤ p1 ∧ 0 ≤ (p1).toNat ∧ (p1).toNat ≤ p0.length)).bind fun _ =>
  (Ef ((0 : Int) ≤ p2 ∧ (p2).toNat ≤ p0.length ∧ p0.length ≤ p0.length)).bind fun _ =>
  (Ef ((p1).toNat + (((p0.drop ((p2).toNat)).take ((p0.length - (p2).toNat)))).length ≤ p0.length)).bind fun _ =>
  (Ef ((0 : Int) ≤ (((((p1).toNat + (((p0.drop ((p2).toNat)).take ((p0.length - (p2).toNat)))).length)) : Nat) : Int) ∧ (0 : Int) ≤ (p0.length : Int) ∧ ((((((p1).toNat + (((p0.drop ((p2).toNat)).take ((p0.length - (p2).toNat)))).length)) : Nat) : Int)).toNat ≤ ((p0.length : Int)).toNat ∧ ((p0.length : Int)).toNat ≤ (HC p0 (0 + ((p1).toNat)) (((p0.drop ((p2).toNat)).take ((p0.length - (p2).toNat))))).length)).bind fun _ =>
  some (((p1).toNat + (((p0.drop ((p2).toNat)).take ((p0.length - (p2).toNat)))).length), HC (HC p0 (0 + ((p1).toNat)) (((p0.drop ((p2).toNat)).take ((p0.length - (p2).toNat))))) (((((((p1).toNat + (((p0.drop ((p2).toNat)).take ((p0.length - (p2).toNat)))).length)) : Nat) : Int)).toNat) (List.replicate ((((p0.length : Int)).toNat - ((((((p1).toNat + (((p0.drop ((p2).toNat)).take ((p0.length - (p2).toNat)))).length)) : Nat) : Int)).toNat)) ((Aa.mk 0 0 0)))))
def F7 (N : Nat) (p0 : Ae) (v5 : Nat × (List Aa)) (j14 : Bool → Option (Bool × Int)) : Nat → (Bool × Int) → Option (Bool × Int)
 | 0, _ => none
 | n14 + 1, v14 =>
  AY ((decide (v14.2 < ((v5.2.take v5.1).length : Int))))
   (Be (fun (v17 : Bool) =>
    F7 N p0 v5 j14 n14 (v17, (wI .i64 (v14.2 + 1))))
   fun j17 =>
   (CA N (v5.2.take v5.1)).bind fun v18 =>
   (DI N v18 v14.2 ((wI .i64 (v14.2 + 1)))).bind fun v19 =>
   (Ef (v19.1 ≤ v19.2.length)).bind fun _ =>
   (EL N p0 (((v19.2.drop 0).take v19.1))).bind fun v22 =>
   AY ((v22.2 != 0))
    (some (false, v22.2))
    (AY v14.1
     (j17 (!v22.1))
     (j17 false)))
   (j14 v14.1)
def Ir (N : Nat) (p0 : Ae) (p1 : List Aa) : Option (Bool × Int) :=
 (Jf N p0 p1).bind fun v1 =>
 AY ((v1 != 0))
  (some (false, v1))
  ((CA N p1).bind fun v3 =>
  (Dm N v3 ((fun (x : Aa × Aa) => Hb N x.1 x.2))).bind fun v4 =>
  (Dv N v4).bind fun v5 =>
  (Ef (v5.1 ≤ v5.2.length)).bind fun _ =>
  Be (fun (v8 : Bool) =>
   AY v8
    (some (false, 3))
    ((EL N p0 (v5.2.take v5.1)).bind fun v12 =>
    AY ((v12.2 != 0))
     (some (false, v12.2))
     (F7 N p0 v5 (fun (v15 : Bool) =>
      some (v15, 0)) N (v12.1, 0))))
  fun j8 =>
  (EK N p0).bind fun v9 =>
  AY ((decide (24 < (v9.length : Int))))
   (j8 true)
   (j8 (decide (3 < ((v5.2.take v5.1).length : Int)))))
def Gi (N : Nat) (p0 : Ae) : Option ((List Aa) × Int) :=
 (GV N p0).bind fun v1 =>
 AY ((v1.2 != 0))
  (some (([] : List Aa), v1.2))
  ((A8 v1.1 0).bind fun v3 =>
  some (v3, 0))
def FA (N : Nat) : Option Bool :=
 (El N).bind fun v1 =>
 (GV N v1).bind fun v2 =>
 (El N).bind fun v3 =>
 (Fv N v3).bind fun v4 =>
 (El N).bind fun v5 =>
 (Ir N v5 v4.1).bind fun v6 =>
 (El N).bind fun v7 =>
 (Gi N v7).bind fun v8 =>
 Be (fun (v9 : Bool) =>
  some v9)
 fun j9 =>
 AY ((v2.2 == 0))
  (AY ((v4.2 == 0))
   (AY ((v6.2 == 0))
    (AY ((v8.2 == 0))
     (AY (((v2.1.length : Int) == 2))
      (AY (((v4.1.length : Int) == 2))
       ((A8 v4.1 0).bind fun v16 =>
       AY (((v16.fw == 0) && ((v16.fv == 0) && ((v16.fu == 1) && true))))
        (AY ((!v6.1))
         (AY (((v8.1.length : Int) == 1))
          ((A8 v8.1 0).bind fun v20 =>
          j9 ((v20.fw == 0) && ((v20.fv == 0) && ((v20.fu == 1) && true))))
          (j9 false))
         (j9 false))
        (j9 false))
       (j9 false))
      (j9 false))
     (j9 false))
    (j9 false))
   (j9 false))
  (j9 false)
def D7 (N : Nat) (p0 : BW) : Option Bool :=
 (GG N p0).bind fun v1 =>
 Be (fun (v2 : Bool) =>
  AY v2
   ((FA N).bind fun v6 =>
   some v6)
   ((Gi N v1.1).bind fun v7 =>
   (Gz N v1.1).bind fun v8 =>
   Be (fun (v9 : Bool) =>
    some v9)
   fun j9 =>
   AY ((v7.2 == 0))
    (j9 (((v7.1.length : Int) == 0) == (v8.2 == 0)))
    (j9 (false == (v8.2 == 0)))))
 fun j2 =>
 (FA N).bind fun v3 =>
 AY ((!v3))
  (j2 true)
  (j2 (!v1.2))
def Qv {α : Type} (w : α → Prop) (xs : List α) : Prop := ∀ x, x ∈ xs → w x
def MV (n : Int) : Prop := (Lit.int .u8 n).wf = true
def aa (n : Int) : Prop := (Lit.int .u16 n).wf = true
def Jb (x : In) : Prop := MV x.ff ∧ MV x.fg ∧ MV x.fk ∧ (fun _ => True) x.fp ∧ aa x.fB ∧ aa x.fC ∧ True
def GE (x : BW) : Prop := (Qv MV) x.fb ∧ (Qv MV) x.fh ∧ (Qv MV) x.fo ∧ (Qv Jb) x.fA ∧ True
open Go.RowKit
open Go.Proofs
abbrev Oh (x : In) : List C := [.pure (.val (.int .u8 x.ff)), .pure (.val (.int .u8 x.fg)), .pure (.val (.int .u8 x.fk)), .pure (.val (.bool x.fp)), .pure (.val (.int .u16 x.fB)), .pure (.val (.int .u16 x.fC))]
abbrev Dr (x : BW) : List C := [sC (x.fb.map EI), sC (x.fh.map EI), sC (x.fo.map EI), sC (x.fA.map HS)]
abbrev Bt (x : Ar) : List C := [iC x.ff, iC x.fg, iC x.fk, .pure (.val (.bool x.fp)), sC (x.fj.map (FP eB)), sC (x.fm.map (FP eB))]
abbrev Al (x : Ae) : List C := [sC (x.fb.map Aw), sC (x.fh.map Aw), sC (x.fo.map Aw), sC (x.fc.map AO)]
abbrev Fw (x : Aa) : List C := [iC x.fw, iC x.fv, iC x.fu]
abbrev AR (x : Ag) : List C := [sC (x.fd.map Aw), sC (x.fa.map Aw), sC (x.fe.map EI)]
abbrev Ed (x : Ai) : List C := [iC x.ff, iC x.fi, iC x.fr]
abbrev Wn (x : AH) : List C := [sC (x.fq.fd.map Aw), sC (x.fq.fa.map Aw), sC (x.fq.fe.map EI), iC x.fg, iC x.ft.ff, iC x.ft.fi, iC x.ft.fr, sC (x.fa.map Aw)]
theorem Ac : Tryz.prog.follows .mixedOrders = true := by kernel_rfl
theorem H3 : F5 Tryz.prog 101 true = true := by kernel_rfl
theorem bi : F5 Tryz.prog 103 true = true := by kernel_rfl
theorem PA : F5 Tryz.prog 165 false = true := by kernel_rfl
theorem XM : F5 Tryz.prog 22 false = true := by kernel_rfl
theorem ap : F5 Tryz.prog 23 false = true := by kernel_rfl
theorem cg : F5 Tryz.prog 25 true = true := by kernel_rfl
theorem Bi : F5 Tryz.prog 26 false = true := by kernel_rfl
theorem Gy : F5 Tryz.prog 27 false = true := by kernel_rfl
theorem D0 : F5 Tryz.prog 29 true = true := by kernel_rfl
theorem CP : F5 Tryz.prog 3 false = true := by kernel_rfl
theorem ai : F5 Tryz.prog 33 false = true := by kernel_rfl
theorem Uf : F5 Tryz.prog 4 false = true := by kernel_rfl
theorem Du : F5 Tryz.prog 45 true = true := by kernel_rfl
theorem cP : F5 Tryz.prog 5 false = true := by kernel_rfl
theorem II : F5 Tryz.prog 62 false = true := by kernel_rfl
theorem CF : F5 Tryz.prog 64 true = true := by kernel_rfl
theorem HA : F5 Tryz.prog 74 false = true := by kernel_rfl
theorem HQ : F5 Tryz.prog 76 true = true := by kernel_rfl
theorem L9 : F5 Tryz.prog 77 false = true := by kernel_rfl
theorem bR : F5 Tryz.prog 86 false = true := by kernel_rfl
theorem dU : F5 Tryz.prog 88 true = true := by kernel_rfl
theorem LS : F5 Tryz.prog 94 false = true := by kernel_rfl
theorem ej : Rz Tryz.prog 4 = true := by kernel_rfl
theorem cO : SG Tryz.prog 22 = true := by kernel_rfl
theorem Qz : GP Tryz.prog 101 24 = true := by kernel_rfl
theorem ae : GP Tryz.prog 103 128 = true := by kernel_rfl
theorem aH : GP Tryz.prog 154 104 = true := by kernel_rfl
theorem L7 : GP Tryz.prog 3 8 = true := by kernel_rfl
theorem Zu : GP Tryz.prog 33 24 = true := by kernel_rfl
theorem Wx : GP Tryz.prog 4 1 = true := by kernel_rfl
theorem OQ : GP Tryz.prog 45 24 = true := by kernel_rfl
theorem aI : GP Tryz.prog 5 1 = true := by kernel_rfl
theorem ZJ : GP Tryz.prog 64 72 = true := by kernel_rfl
theorem XV : GP Tryz.prog 76 80 = true := by kernel_rfl
theorem VN : GP Tryz.prog 77 24 = true := by kernel_rfl
theorem Uo : GP Tryz.prog 94 1 = true := by kernel_rfl
theorem Gk : Dd Tryz.prog 101 0 0 = true := by kernel_rfl
theorem Fl : Dd Tryz.prog 101 1 1 = true := by kernel_rfl
theorem Hk : Dd Tryz.prog 101 2 2 = true := by kernel_rfl
theorem Qd : Dd Tryz.prog 103 0 0 = true := by kernel_rfl
theorem TZ : Dd Tryz.prog 103 1 3 = true := by kernel_rfl
theorem X7 : Dd Tryz.prog 103 2 4 = true := by kernel_rfl
theorem Ur : Dd Tryz.prog 103 3 7 = true := by kernel_rfl
theorem Qx : Dd Tryz.prog 154 0 0 = true := by kernel_rfl
theorem Sf : Dd Tryz.prog 25 0 0 = true := by kernel_rfl
theorem Zd : Dd Tryz.prog 25 1 1 = true := by kernel_rfl
theorem Y2 : Dd Tryz.prog 25 2 2 = true := by kernel_rfl
theorem SE : Dd Tryz.prog 25 3 3 = true := by kernel_rfl
theorem BD : Dd Tryz.prog 29 0 0 = true := by kernel_rfl
theorem Hy : Dd Tryz.prog 29 1 1 = true := by kernel_rfl
theorem Ji : Dd Tryz.prog 29 2 2 = true := by kernel_rfl
theorem BG : Dd Tryz.prog 29 3 3 = true := by kernel_rfl
theorem RU : Dd Tryz.prog 45 0 0 = true := by kernel_rfl
theorem R9 : Dd Tryz.prog 45 1 1 = true := by kernel_rfl
theorem Sl : Dd Tryz.prog 45 2 2 = true := by kernel_rfl
theorem DY : Dd Tryz.prog 64 0 0 = true := by kernel_rfl
theorem B8 : Dd Tryz.prog 64 1 1 = true := by kernel_rfl
theorem DF : Dd Tryz.prog 64 2 2 = true := by kernel_rfl
theorem Hz : Dd Tryz.prog 76 0 0 = true := by kernel_rfl
theorem Em : Dd Tryz.prog 76 1 1 = true := by kernel_rfl
theorem JL : Dd Tryz.prog 76 2 2 = true := by kernel_rfl
theorem KA : Dd Tryz.prog 76 3 3 = true := by kernel_rfl
theorem Fj : Dd Tryz.prog 76 4 4 = true := by kernel_rfl
theorem Fh : Dd Tryz.prog 76 5 5 = true := by kernel_rfl
theorem Yr : Dd Tryz.prog 88 0 0 = true := by kernel_rfl
theorem Zi : Dd Tryz.prog 88 1 1 = true := by kernel_rfl
theorem YC : Dd Tryz.prog 88 2 2 = true := by kernel_rfl
theorem YV : Dd Tryz.prog 88 3 3 = true := by kernel_rfl
theorem YR : Dd Tryz.prog 88 4 4 = true := by kernel_rfl
theorem Y4 : Dd Tryz.prog 88 5 5 = true := by kernel_rfl
theorem dK : AK Tryz.prog 10 = true := by kernel_rfl
theorem bF : AK Tryz.prog 100 = true := by kernel_rfl
theorem cL : AK Tryz.prog 101 = true := by kernel_rfl
theorem cR : AK Tryz.prog 102 = true := by kernel_rfl
theorem bH : AK Tryz.prog 103 = true := by kernel_rfl
theorem cI : AK Tryz.prog 104 = true := by kernel_rfl
theorem cJ : AK Tryz.prog 105 = true := by kernel_rfl
theorem ci : AK Tryz.prog 106 = true := by kernel_rfl
theorem Zx : AK Tryz.prog 107 = true := by kernel_rfl
theorem cN : AK Tryz.prog 109 = true := by kernel_rfl
theorem bo : AK Tryz.prog 11 = true := by kernel_rfl
theorem cn : AK Tryz.prog 110 = true := by kernel_rfl
theorem Zs : AK Tryz.prog 111 = true := by kernel_rfl
theorem bW : AK Tryz.prog 112 = true := by kernel_rfl
theorem bO : AK Tryz.prog 113 = true := by kernel_rfl
theorem ZA : AK Tryz.prog 114 = true := by kernel_rfl
theorem bn : AK Tryz.prog 116 = true := by kernel_rfl
theorem bb : AK Tryz.prog 117 = true := by kernel_rfl
theorem cZ : AK Tryz.prog 118 = true := by kernel_rfl
theorem cr : AK Tryz.prog 119 = true := by kernel_rfl
theorem cv : AK Tryz.prog 12 = true := by kernel_rfl
theorem bm : AK Tryz.prog 120 = true := by kernel_rfl
theorem bg : AK Tryz.prog 121 = true := by kernel_rfl
theorem bk : AK Tryz.prog 122 = true := by kernel_rfl
theorem bZ : AK Tryz.prog 123 = true := by kernel_rfl
theorem cm : AK Tryz.prog 124 = true := by kernel_rfl
theorem bP : AK Tryz.prog 125 = true := by kernel_rfl
theorem bT : AK Tryz.prog 126 = true := by kernel_rfl
theorem cd : AK Tryz.prog 127 = true := by kernel_rfl
theorem ZF : AK Tryz.prog 128 = true := by kernel_rfl
theorem bq : AK Tryz.prog 129 = true := by kernel_rfl
theorem cq : AK Tryz.prog 13 = true := by kernel_rfl
theorem XA : AK Tryz.prog 130 = true := by kernel_rfl
theorem bc : AK Tryz.prog 131 = true := by kernel_rfl
theorem ZQ : AK Tryz.prog 132 = true := by kernel_rfl
theorem cY : AK Tryz.prog 133 = true := by kernel_rfl
theorem cy : AK Tryz.prog 134 = true := by kernel_rfl
theorem XH : AK Tryz.prog 135 = true := by kernel_rfl
theorem Zy : AK Tryz.prog 136 = true := by kernel_rfl
theorem Zr : AK Tryz.prog 138 = true := by kernel_rfl
theorem ZV : AK Tryz.prog 139 = true := by kernel_rfl
theorem dS : AK Tryz.prog 14 = true := by kernel_rfl
theorem bz : AK Tryz.prog 140 = true := by kernel_rfl
theorem cA : AK Tryz.prog 141 = true := by kernel_rfl
theorem Ta : AK Tryz.prog 142 = true := by kernel_rfl
theorem VV : AK Tryz.prog 143 = true := by kernel_rfl
theorem bp : AK Tryz.prog 144 = true := by kernel_rfl
theorem cF : AK Tryz.prog 145 = true := by kernel_rfl
theorem ZI : AK Tryz.prog 146 = true := by kernel_rfl
theorem cK : AK Tryz.prog 147 = true := by kernel_rfl
theorem bh : AK Tryz.prog 148 = true := by kernel_rfl
theorem cp : AK Tryz.prog 149 = true := by kernel_rfl
theorem bG : AK Tryz.prog 15 = true := by kernel_rfl
theorem bt : AK Tryz.prog 150 = true := by kernel_rfl
theorem cu : AK Tryz.prog 151 = true := by kernel_rfl
theorem bA : AK Tryz.prog 152 = true := by kernel_rfl
theorem XG : AK Tryz.prog 153 = true := by kernel_rfl
theorem ck : AK Tryz.prog 154 = true := by kernel_rfl
theorem ce : AK Tryz.prog 155 = true := by kernel_rfl
theorem Zp : AK Tryz.prog 156 = true := by kernel_rfl
theorem ca : AK Tryz.prog 157 = true := by kernel_rfl
theorem bX : AK Tryz.prog 158 = true := by kernel_rfl
theorem Xh : AK Tryz.prog 159 = true := by kernel_rfl
theorem ZK : AK Tryz.prog 160 = true := by kernel_rfl
theorem bC : AK Tryz.prog 161 = true := by kernel_rfl
theorem bj : AK Tryz.prog 21 = true := by kernel_rfl
theorem cw : AK Tryz.prog 24 = true := by kernel_rfl
theorem ec : AK Tryz.prog 25 = true := by kernel_rfl
theorem bE : AK Tryz.prog 31 = true := by kernel_rfl
theorem dF : AK Tryz.prog 32 = true := by kernel_rfl
theorem du : AK Tryz.prog 33 = true := by kernel_rfl
theorem Yq : AK Tryz.prog 34 = true := by kernel_rfl
theorem d6 : AK Tryz.prog 35 = true := by kernel_rfl
theorem dw : AK Tryz.prog 36 = true := by kernel_rfl
theorem dX : AK Tryz.prog 37 = true := by kernel_rfl
theorem dW : AK Tryz.prog 38 = true := by kernel_rfl
theorem d9 : AK Tryz.prog 39 = true := by kernel_rfl
theorem d1 : AK Tryz.prog 40 = true := by kernel_rfl
theorem au : AK Tryz.prog 41 = true := by kernel_rfl
theorem ad : AK Tryz.prog 42 = true := by kernel_rfl
theorem dJ : AK Tryz.prog 43 = true := by kernel_rfl
theorem dN : AK Tryz.prog 44 = true := by kernel_rfl
theorem d7 : AK Tryz.prog 46 = true := by kernel_rfl
theorem ef : AK Tryz.prog 47 = true := by kernel_rfl
theorem V6 : AK Tryz.prog 48 = true := by kernel_rfl
theorem bV : AK Tryz.prog 51 = true := by kernel_rfl
theorem eb : AK Tryz.prog 55 = true := by kernel_rfl
theorem cj : AK Tryz.prog 56 = true := by kernel_rfl
theorem Sp : AK Tryz.prog 57 = true := by kernel_rfl
theorem bQ : AK Tryz.prog 58 = true := by kernel_rfl
theorem dC : AK Tryz.prog 59 = true := by kernel_rfl
theorem Tk : AK Tryz.prog 60 = true := by kernel_rfl
theorem dt : AK Tryz.prog 61 = true := by kernel_rfl
theorem aQ : AK Tryz.prog 62 = true := by kernel_rfl
theorem bf : AK Tryz.prog 63 = true := by kernel_rfl
theorem eg : AK Tryz.prog 64 = true := by kernel_rfl
theorem dz : AK Tryz.prog 65 = true := by kernel_rfl
theorem d5 : AK Tryz.prog 66 = true := by kernel_rfl
theorem dy : AK Tryz.prog 67 = true := by kernel_rfl
theorem dY : AK Tryz.prog 68 = true := by kernel_rfl
theorem dH : AK Tryz.prog 69 = true := by kernel_rfl
theorem aS : AK Tryz.prog 70 = true := by kernel_rfl
theorem cB : AK Tryz.prog 71 = true := by kernel_rfl
theorem dB : AK Tryz.prog 72 = true := by kernel_rfl
theorem Z5 : AK Tryz.prog 73 = true := by kernel_rfl
theorem dZ : AK Tryz.prog 75 = true := by kernel_rfl
theorem YO : AK Tryz.prog 76 = true := by kernel_rfl
theorem dx : AK Tryz.prog 77 = true := by kernel_rfl
theorem dq : AK Tryz.prog 78 = true := by kernel_rfl
theorem dG : AK Tryz.prog 79 = true := by kernel_rfl
theorem ct : AK Tryz.prog 83 = true := by kernel_rfl
theorem bd : AK Tryz.prog 84 = true := by kernel_rfl
theorem dA : AK Tryz.prog 85 = true := by kernel_rfl
theorem dR : AK Tryz.prog 86 = true := by kernel_rfl
theorem dn : AK Tryz.prog 87 = true := by kernel_rfl
theorem bN : AK Tryz.prog 88 = true := by kernel_rfl
theorem dL : AK Tryz.prog 89 = true := by kernel_rfl
theorem ed : AK Tryz.prog 90 = true := by kernel_rfl
theorem Zg : AK Tryz.prog 91 = true := by kernel_rfl
theorem dM : AK Tryz.prog 92 = true := by kernel_rfl
theorem ee : AK Tryz.prog 93 = true := by kernel_rfl
theorem dI : AK Tryz.prog 94 = true := by kernel_rfl
theorem dm : AK Tryz.prog 95 = true := by kernel_rfl
theorem dh : AK Tryz.prog 96 = true := by kernel_rfl
theorem dO : AK Tryz.prog 97 = true := by kernel_rfl
theorem dQ : AK Tryz.prog 98 = true := by kernel_rfl
theorem dj : AK Tryz.prog 99 = true := by kernel_rfl
theorem Rm : PV Tryz.prog 109 .u64 = true := by kernel_rfl
theorem T8 : PV Tryz.prog 140 .u32 = true := by kernel_rfl
theorem ZG : PV Tryz.prog 142 .u64 = true := by kernel_rfl
theorem bM : PV Tryz.prog 165 .u64 = true := by kernel_rfl
theorem Yb : PV Tryz.prog 3 .i64 = true := by kernel_rfl
theorem dg : PV Tryz.prog 5 .u8 = true := by kernel_rfl
theorem aJ : Tryz.prog.underlying 9 = some .string := by kernel_rfl
theorem SP : Tryz.prog.underlying 125 = some (.map 9 3) := by kernel_rfl
theorem Vz : Jh Tryz.prog 101 = some [(0, 1), (1, 1), (2, 1)] := by kernel_rfl
theorem ZR : Jh Tryz.prog 103 = some [(0, 3), (3, 1), (4, 3), (7, 1)] := by kernel_rfl
theorem ZY : Jh Tryz.prog 154 = some [(0, 3), (3, 1), (4, 3)] := by kernel_rfl
theorem V7 : Jh Tryz.prog 29 = some [(0, 1), (1, 1), (2, 1), (3, 1)] := by kernel_rfl
theorem QJ : Jh Tryz.prog 45 = some [(0, 1), (1, 1), (2, 1)] := by kernel_rfl
theorem JK : Jh Tryz.prog 64 = some [(0, 1), (1, 1), (2, 1)] := by kernel_rfl
theorem cS : Jh Tryz.prog 76 = some [(0, 1), (1, 1), (2, 1), (3, 1), (4, 1), (5, 1)] := by kernel_rfl
theorem Rr : Xo Tryz.prog 45 = some [0, 0, 0] := by kernel_rfl
theorem KQ : sliceB Tryz.prog 119 154 = true := by kernel_rfl
theorem KS : sliceB Tryz.prog 148 64 = true := by kernel_rfl
theorem Ly : sliceB Tryz.prog 22 5 = true := by kernel_rfl
theorem Xz : sliceB Tryz.prog 23 88 = true := by kernel_rfl
theorem AG : sliceB Tryz.prog 26 3 = true := by kernel_rfl
theorem C6 : sliceB Tryz.prog 27 76 = true := by kernel_rfl
theorem AT : sliceB Tryz.prog 33 45 = true := by kernel_rfl
theorem F2 : sliceB Tryz.prog 37 101 = true := by kernel_rfl
theorem Kq : sliceB Tryz.prog 54 33 = true := by kernel_rfl
theorem EO : sliceB Tryz.prog 62 94 = true := by kernel_rfl
theorem D4 : sliceB Tryz.prog 74 77 = true := by kernel_rfl
theorem EZ : sliceB Tryz.prog 77 4 = true := by kernel_rfl
theorem JD : sliceB Tryz.prog 96 103 = true := by kernel_rfl
theorem Um : (Tryz.prog.underlying 109).isSome = true := by kernel_rfl
theorem TY : (Tryz.prog.underlying 140).isSome = true := by kernel_rfl
theorem X5 : (Tryz.prog.underlying 142).isSome = true := by kernel_rfl
theorem aF : (Tryz.prog.underlying 3).isSome = true := by kernel_rfl
theorem ZU : (Tryz.prog.underlying 5).isSome = true := by kernel_rfl
theorem dT : (Tryz.prog.underlying 94).isSome = true := by kernel_rfl
theorem Y5 : Rd Tryz.prog 9 = true := by kernel_rfl
theorem DQ : H0 Tryz.prog 101 3 = true := by kernel_rfl
theorem LE : H0 Tryz.prog 103 8 = true := by kernel_rfl
theorem Ru : H0 Tryz.prog 154 7 = true := by kernel_rfl
theorem VK : H0 Tryz.prog 165 1 = true := by kernel_rfl
theorem bL : H0 Tryz.prog 25 4 = true := by kernel_rfl
theorem Wj : H0 Tryz.prog 26 1 = true := by kernel_rfl
theorem aB : H0 Tryz.prog 27 1 = true := by kernel_rfl
theorem CX : H0 Tryz.prog 29 4 = true := by kernel_rfl
theorem En : H0 Tryz.prog 3 1 = true := by kernel_rfl
theorem Tm : H0 Tryz.prog 33 1 = true := by kernel_rfl
theorem MO : H0 Tryz.prog 4 1 = true := by kernel_rfl
theorem AQ : H0 Tryz.prog 45 3 = true := by kernel_rfl
theorem Z7 : H0 Tryz.prog 5 1 = true := by kernel_rfl
theorem di : H0 Tryz.prog 62 1 = true := by kernel_rfl
theorem Bc : H0 Tryz.prog 64 3 = true := by kernel_rfl
theorem T9 : H0 Tryz.prog 74 1 = true := by kernel_rfl
theorem Dq : H0 Tryz.prog 76 6 = true := by kernel_rfl
theorem IH : H0 Tryz.prog 77 1 = true := by kernel_rfl
theorem az : H0 Tryz.prog 88 6 = true := by kernel_rfl
theorem HB : H0 Tryz.prog 94 1 = true := by kernel_rfl
theorem I8 : Fn Tryz.prog 101 = some (.agg #[.int .i64 0, .int .i64 0, .int .i64 0]) := by kernel_rfl
theorem Uq : Fn Tryz.prog 103 = some (.agg #[.slice none 0 0, .slice none 0 0, .slice none 0 0, .int .i64 0, .int .i64 0, .int .i64 0, .int .i64 0, .slice none 0 0]) := by kernel_rfl
theorem S3 : Fn Tryz.prog 154 = some (.agg #[.slice none 0 0, .slice none 0 0, .slice none 0 0, .int .i64 0, .int .i64 0, .int .i64 0, .int .i64 0]) := by kernel_rfl
theorem db : Fn Tryz.prog 165 = some (.int .u64 0) := by kernel_rfl
theorem LM : Fn Tryz.prog 29 = some (.agg #[.slice none 0 0, .slice none 0 0, .slice none 0 0, .slice none 0 0]) := by kernel_rfl
theorem Lb : Fn Tryz.prog 3 = some (.int .i64 0) := by kernel_rfl
theorem Xc : Fn Tryz.prog 33 = some (.slice none 0 0) := by kernel_rfl
theorem VF : Fn Tryz.prog 4 = some (.bool false) := by kernel_rfl
theorem HV : Fn Tryz.prog 45 = some (.agg #[.int .i64 0, .int .i64 0, .int .i64 0]) := by kernel_rfl
theorem bI : Fn Tryz.prog 5 = some (.int .u8 0) := by kernel_rfl
theorem Fx : Fn Tryz.prog 64 = some (.agg #[.slice none 0 0, .slice none 0 0, .slice none 0 0]) := by kernel_rfl
theorem JO : Fn Tryz.prog 76 = some (.agg #[.int .i64 0, .int .i64 0, .int .i64 0, .bool false, .slice none 0 0, .slice none 0 0]) := by kernel_rfl
theorem R6 : Fn Tryz.prog 77 = some (.slice none 0 0) := by kernel_rfl
theorem dD : Fn Tryz.prog 88 = some (.agg #[.int .u8 0, .int .u8 0, .int .u8 0, .bool false, .int .u16 0, .int .u16 0]) := by kernel_rfl
theorem Sk : Fn Tryz.prog 94 = some (.int .u8 0) := by kernel_rfl
set_option maxRecDepth 10000
theorem Kb (N : Nat) (p0 : List Int) (p1 : Int) (r : Int) (h : Fa N p0 p1 = some r) : Ay Tryz.prog 56 [pD (.sl (p0.map EI)), iD p1] [] (iD r) := by
 unfold Fa at h
 refine An (n := 14) (rs := [.tmp 4]) Tryz.func56 rfl rfl rfl (A2 rfl) (A2 rfl) rfl fun w0 S0 => ?_
 refine As Ac rfl (qa rfl (Ad (Ap (As Ac rfl (qm rfl (qm rfl (AZ Ly rfl (A0 rfl (Ad ?_)))))))))
 refine Bd h rfl (fun h => ?_) fun h => ?_
 ·refine As Ac rfl (qm rfl (qm rfl ?_))
  obtain ⟨v2, a2, b2, h⟩ := Ah h
  refine qi Ly Z7 a2 (Af b2) rfl (qk cP rfl (I3 ZU Yb rfl (qa rfl (Ad ?_))))
  obtain rfl := sj h
  refine Ak (sm [] [(4, iD ((wI .i64 v2)))] [] rfl rfl) (Ax ?_)
  exact ⟨⟨[_], ⟨.tmp _ _ rfl, tv⟩, rfl⟩, tv⟩
 ·refine Ao (As Ac rfl (qa rfl (Ad ?_)))
  obtain rfl := sj h
  refine Ak (sm [] [(4, iD 0)] [] rfl rfl) (Ax ?_)
  exact ⟨⟨[_], ⟨.tmp _ _ rfl, tv⟩, rfl⟩, tv⟩
theorem CW (N : Nat) (p0 : Ar) (r : Bool) (h : Bg N p0 = some r) : Ay Tryz.prog 57 [.e (.agg (Bt p0))] [] (bD r) := by
 unfold Bg at h
 refine An (n := 11) (rs := [.tmp 2]) Tryz.func57 rfl rfl rfl (A2 rfl) (A2 rfl) rfl fun w0 S0 => ?_
 refine As Ac rfl (qb rfl (qa rfl (Ad ?_)))
 refine AU h (fun v1 => mk [(2, bD v1)] []) (fun j1 h => ?_) (fun v1 h => ?_)
 ·refine Aj Ac rfl (qf Hz rfl (ql CP rfl (B5 rfl (qm rfl ?_))))
  refine E1 6 h rfl (fun h => ?_) fun h => ?_
  ·refine qn rfl (qn rfl (qn rfl (qp rfl (qa rfl (Ad ?_)))))
   exact sn [] h
  ·refine qf Hz rfl (ql CP rfl (B5 rfl (qp rfl (qa rfl (Ad ?_)))))
   exact sn [] h
 ·obtain rfl := sj h
  refine Ak (sm [] [(2, bD v1)] [] rfl rfl) (Ax ?_)
  exact ⟨⟨[_], ⟨.tmp _ _ rfl, tv⟩, rfl⟩, tv⟩
theorem Kg (N : Nat) (p0 : Int) (p1 : Int) (p2 : Int) (p3 : Bool) (r : (List (List Bool))) (h : E9 N p0 p1 p2 p3 = some r) : Ay Tryz.prog 58 [iD p0, iD p1, pD (.val (.int .u16 p2)), bD p3] [(1, r.map (FP eB))] (oD (.own 0)) := by
 unfold E9 at h
 refine An (n := 47) (rs := [.tmp 8]) Tryz.func58 rfl rfl rfl (A2 rfl) (A2 rfl) rfl fun w0 S0 => ?_
 refine As Ac rfl (qa rfl (Ad (As Ac rfl (qa rfl (Ad (Ap (As Ac rfl (qa rfl (Ad ?_)))))))))
 refine AB (L := C1 N p0 p1 p2 p3) h (fun v1 => mk [(0, iD p0), (1, iD p1), (2, pD (.val (.int .u16 p2))), (3, bD p3), (9, oD (.own 2001)), (10, iD v1.2)] [(2001, .vec 1 (v1.1.map (FP eB)))]) (fun v2 => mk [(9, oD (.own 2002))] [(2002, .vec 1 (v2.map (FP eB)))]) (fun _ _ => rfl) ((Bl 9 2010 1 rfl rfl rfl).trans (sm [(2001, 2010)] _ _ rfl rfl)) (fun j1 n1 v1 h => ?_) (fun v2 s h hs => ?_)
 ·unfold C1 at h
  refine Ap (As Ac rfl (qm rfl (qm rfl (A0 rfl (Ad ?_)))))
  refine Bd h rfl (fun h => ?_) fun h => ?_
  ·refine Ao (Ap (AL (As Ac rfl (qa rfl (Ad (Ap (As Ac rfl (qa rfl (Ad ?_)))))))))
   refine AB (L := C0 N p1 p2 p3 v1) h (fun v4 => mk [(0, iD p0), (1, iD p1), (2, pD (.val (.int .u16 p2))), (3, bD p3), (9, oD (.own 2003)), (10, iD v1.2), (11, oD (.own 2004)), (12, iD v4.2)] [(2003, .vec 1 (v1.1.map (FP eB))), (2004, .vec 1 (v4.1.map eB))]) (fun v5 => mk [(0, iD p0), (1, iD p1), (2, pD (.val (.int .u16 p2))), (3, bD p3), (9, oD (.own 2005)), (10, iD v1.2), (11, oD (.own 2006))] [(2005, .vec 1 (v1.1.map (FP eB))), (2006, .vec 1 (v5.map eB))]) (fun _ _ => rfl) ((Bl 11 2009 1 rfl rfl rfl).trans (sm [(2003, 2001), (2004, 2009)] _ _ rfl rfl)) (fun j4 n4 v4 h => ?_) (fun v5 s h hs => ?_)
   ·unfold C0 at h
    refine Ap (As Ac rfl (qm rfl (qm rfl (A0 rfl (Ad ?_)))))
    refine Bd h rfl (fun h => ?_) fun h => ?_
    ·refine Ao ?_
     refine AU h (fun v7 => mk [(0, iD p0), (1, iD p1), (2, pD (.val (.int .u16 p2))), (3, bD p3), (9, oD (.own 2007)), (10, iD v1.2), (11, oD (.own 2008)), (12, iD v4.2)] [(2007, .vec 1 (v1.1.map (FP eB))), (2008, .vec 1 (v7.map eB))]) (fun j7 h => ?_) (fun v7 h => ?_)
     ·refine AL (Aj Ac rfl (qm rfl (qm rfl (qm rfl ?_))))
      refine E1 25 h rfl (fun h => ?_) fun h => ?_
      ·refine qm rfl (qm rfl (B5 rfl (qp rfl (qm rfl ?_))))
       refine E1 30 h rfl (fun h => ?_) fun h => ?_
       ·refine qn rfl (qn rfl (qn rfl (qn rfl (qn rfl (qn rfl (qn rfl (qn rfl (qp rfl (E2 EZ MO VF rfl ?_)))))))))
        obtain ⟨c10, h⟩ := AD h
        refine ED (f := eB) EZ EZ MO Wx VF c10 rfl (qa rfl (Ad ?_))
        exact sn [(2007, 2003), (2008, 41)] h
       ·refine qm rfl (qm rfl (J3 rfl (qm rfl (AW rfl ?_))))
        obtain ⟨c11, h⟩ := AD h
        refine IK rfl c11 (NA rfl (by decide) (B5 rfl (qp rfl (E2 EZ MO VF rfl ?_))))
        obtain ⟨c12, h⟩ := AD h
        refine ED (f := eB) EZ EZ MO Wx VF c12 rfl (qa rfl (Ad ?_))
        exact sn [(2007, 2003), (2008, 41)] h
      ·refine qn rfl (qn rfl (qn rfl (qp rfl (qm rfl (qm rfl (qm rfl (J3 rfl (qm rfl (AW rfl ?_)))))))))
       obtain ⟨c13, h⟩ := AD h
       refine IK rfl c13 (NA rfl (by decide) (B5 rfl (qp rfl (E2 EZ MO VF rfl ?_))))
       obtain ⟨c14, h⟩ := AD h
       refine ED (f := eB) EZ EZ MO Wx VF c14 rfl (qa rfl (Ad ?_))
       exact sn [(2007, 2003), (2008, 41)] h
     ·refine Aj Ac rfl (qm rfl (AW rfl (qa rfl (Ad ?_))))
      exact sn [(2003, 2007), (2004, 2008)] h
    ·refine AV ?_
     exact sn [(2005, 2003), (2006, 2004)] h
   ·refine Ak hs (Aj Ac rfl (qm rfl (qm rfl (E0 (BX 2006 _ _ rfl rfl) (E2 D4 IH R6 rfl ?_)))))
    obtain ⟨c15, h⟩ := AD h
    refine ED (f := (FP eB)) D4 D4 IH VN R6 c15 rfl (qa rfl (Ad (Aj Ac rfl (qm rfl (AW rfl (qa rfl (Ad ?_)))))))
    exact sn [(2001, 45)] h
  ·refine AV ?_
   exact sn [(2002, 2001)] h
 ·refine Ak hs (As Ac rfl (qm rfl (qa rfl (Ad ?_))))
  obtain rfl := sj h
  refine Ak (sm [(1000, 2002)] [(8, oD (.own 1000))] [(1000, .vec 1 (v2.map (FP eB)))] rfl rfl) (Ax ?_)
  exact ⟨⟨[_], ⟨.tmp _ _ rfl, tv⟩, rfl⟩, ⟨rfl, tv⟩⟩
theorem Oz (N : Nat) (p0 : BW) (r : Ae × Bool) (h : GH N p0 = some r) : Ay Tryz.prog 32 [.e (.agg (Dr p0))] [(1, r.1.fb.map Aw), (1, r.1.fh.map Aw), (1, r.1.fo.map Aw), (6, r.1.fc.map AO)] (.tup [.agg [.own 0, .own 1, .own 2, .own 3], .one (.pure (.val (.bool r.2)))]) := by
 unfold GH at h
 refine An (n := 152) (rs := [.cell 2 29, .tmp 3]) Tryz.func32 rfl rfl rfl (A2 rfl) (A2 rfl) rfl fun w0 S0 => ?_
 refine As Ac rfl (qb rfl (qz LM rfl (qa rfl (Ad (Ap ?_)))))
 refine AU h (fun v1 => mk [(1, oD (.ptr 1 0)), (2, oD (.ptr 2 0)), (19, bD v1)] [(1, .box (Dr p0)), (2, .box [.pure (.nil0), .pure (.nil0), .pure (.nil0), .pure (.nil0)])]) (fun j1 h => ?_) (fun v1 h => ?_)
 ·refine Aj Ac rfl (qf Sf rfl (ql XM rfl (AZ Ly rfl (Gt rfl (qm rfl ?_)))))
  refine E1 14 h rfl (fun h => ?_) fun h => ?_
  ·refine qn rfl (qn rfl (qn rfl (qn rfl (qp rfl (Ad ?_)))))
   exact sn [] h
  ·refine qf SE rfl (ql ap rfl (AZ Xz rfl (Gt rfl (qp rfl (Ad ?_)))))
   exact sn [] h
 ·refine Bd h rfl (fun h => ?_) fun h => ?_
  ·refine As Ac rfl (Bx LM V7 rfl (qs CX rfl (qa rfl (Ad ?_))))
   obtain rfl := sj h
   refine Ak ((AA 2 0 2001 1 _ rfl rfl rfl rfl).trans ((AA 2 1 2002 1 _ rfl rfl rfl rfl).trans ((AA 2 2 2003 1 _ rfl rfl rfl rfl).trans ((AA 2 3 2004 6 _ rfl rfl rfl rfl).trans (sm [(1000, 2001), (1001, 2002), (1002, 2003), (1003, 2004)] [(2, oD (.ptr 2 0)), (3, bD false)] [(2, .box [.own 1000, .own 1001, .own 1002, .own 1003]), (1000, .vec 1 ((([] : List Int)).map Aw)), (1001, .vec 1 ((([] : List Int)).map Aw)), (1002, .vec 1 ((([] : List Int)).map Aw)), (1003, .vec 6 ((([] : List Ar)).map AO))] rfl rfl))))) (Ax ?_)
   exact ⟨⟨[_, _], ⟨.cellN _ _ _ _ _ _ _ rfl rfl D0 CX rfl rfl (Kj rfl), ⟨.tmp _ _ rfl, tv⟩⟩, rfl⟩, ⟨rfl, rfl, rfl, rfl, tv⟩⟩
  ·refine Ao (As Ac rfl (qz LM rfl (Ad (Ap (As Ac rfl (qa rfl (Ad ?_)))))))
   refine AB (L := Dz N p0) h (fun v4 => mk [(1, oD (.ptr 1 0)), (2, oD (.ptr 2 0)), (4, oD (.ptr 4 0)), (5, iD v4.2.2.2)] [(1, .box (Dr p0)), (2, .box [.pure (.nil0), .pure (.nil0), .pure (.nil0), .pure (.nil0)]), (4, .box [.own 2005, .own 2006, .own 2007, .pure (.nil0)]), (2005, .vec 1 (v4.1.map Aw)), (2006, .vec 1 (v4.2.1.map Aw)), (2007, .vec 1 (v4.2.2.1.map Aw))]) (fun v5 => mk [(1, oD (.ptr 1 0)), (2, oD (.ptr 2 0)), (4, oD (.ptr 4 0))] [(1, .box (Dr p0)), (2, .box [.pure (.nil0), .pure (.nil0), .pure (.nil0), .pure (.nil0)]), (4, .box [.own 2008, .own 2009, .own 2010, .pure (.nil0)]), (2008, .vec 1 (v5.1.map Aw)), (2009, .vec 1 (v5.2.1.map Aw)), (2010, .vec 1 (v5.2.2.map Aw))]) (fun _ _ => rfl) ((AA 4 0 2011 1 _ rfl rfl rfl rfl).trans ((AA 4 1 2012 1 _ rfl rfl rfl rfl).trans ((AA 4 2 2013 1 _ rfl rfl rfl rfl).trans (sm [(2005, 2011), (2006, 2012), (2007, 2013)] _ _ rfl rfl)))) (fun j4 n4 v4 h => ?_) (fun v5 s h hs => ?_)
   ·unfold Dz at h
    refine Ap (As Ac rfl (qm rfl (qf Sf rfl (ql XM rfl (AZ Ly rfl (A0 rfl (Ad ?_)))))))
    refine Bd h rfl (fun h => ?_) fun h => ?_
    ·refine Ao (Ap (AL (As Ac rfl (qf Sf rfl (ql XM rfl (qm rfl ?_))))))
     obtain ⟨v7, a7, b7, h⟩ := Ah h
     refine qi Ly Z7 a7 (Af b7) rfl (qk cP rfl (NA rfl (by decide) (I3 ZU Yb rfl (AW rfl (qa rfl (Ad (As Ac rfl (qf BD rfl (ql Bi rfl (qm rfl (E2 AG En Lb rfl ?_)))))))))))
     obtain ⟨c8, h⟩ := AD h
     refine ED (f := Aw) AG AG En L7 Lb c8 rfl (qf BD rfl (qs Wj rfl (Ad (As Ac rfl (qf Hy rfl (ql Bi rfl (qf Zd rfl (ql XM rfl (qm rfl ?_)))))))))
     obtain ⟨v9, a9, h⟩ := bind_some h
     refine AF [] (Kb N p0.fh v4.2.2.2 v9 a9) cj rfl (qm rfl ?_)
     obtain ⟨c10, h⟩ := AD h
     refine NA rfl c10 (E2 AG En Lb rfl ?_)
     obtain ⟨c11, h⟩ := AD h
     refine ED (f := Aw) AG AG En L7 Lb c11 rfl (qf Hy rfl (qs Wj rfl (AJ (by kernel_rfl) (Aj Ac rfl (qf Ji rfl (ql Bi rfl (qf Y2 rfl (ql XM rfl (qm rfl ?_)))))))))
     obtain ⟨v12, a12, h⟩ := bind_some h
     refine AF [] (Kb N p0.fo v4.2.2.2 v12 a12) cj rfl (qm rfl ?_)
     obtain ⟨c13, h⟩ := AD h
     refine NA rfl c13 (E2 AG En Lb rfl ?_)
     obtain ⟨c14, h⟩ := AD h
     refine ED (f := Aw) AG AG En L7 Lb c14 rfl (qf Ji rfl (qs Wj rfl (AJ (by kernel_rfl) (Aj Ac rfl (qm rfl (AW rfl (qa rfl (Ad ?_))))))))
     exact sn [(2005, 40), (2006, 51), (2007, 62)] h
    ·refine AV ?_
     exact sn [(2008, 2005), (2009, 2006), (2010, 2007)] h
   ·refine Ak hs (Ap (As Ac rfl (qa rfl (Ad ?_))))
    refine AB (L := BR N p0 v5) h (fun v15 => mk [(1, oD (.ptr 1 0)), (2, oD (.ptr 2 0)), (4, oD (.ptr 4 0)), (7, iD v15.2)] [(1, .box (Dr p0)), (2, .box [.pure (.nil0), .pure (.nil0), .pure (.nil0), .pure (.nil0)]), (4, .box [.own 2014, .own 2015, .own 2016, .own 2017]), (2014, .vec 1 (v5.1.map Aw)), (2015, .vec 1 (v5.2.1.map Aw)), (2016, .vec 1 (v5.2.2.map Aw)), (2017, .vec 6 (v15.1.map AO))]) (fun v16 => mk [(2, oD (.ptr 2 0)), (4, oD (.ptr 4 0))] [(2, .box [.pure (.nil0), .pure (.nil0), .pure (.nil0), .pure (.nil0)]), (4, .box [.own 2018, .own 2019, .own 2020, .own 2021]), (2018, .vec 1 (v5.1.map Aw)), (2019, .vec 1 (v5.2.1.map Aw)), (2020, .vec 1 (v5.2.2.map Aw)), (2021, .vec 6 (v16.map AO))]) (fun _ _ => rfl) ((AA 4 3 2039 6 _ rfl rfl rfl rfl).trans (sm [(2014, 2008), (2015, 2009), (2016, 2010), (2017, 2039)] _ _ rfl rfl)) (fun j15 n15 v15 h => ?_) (fun v16 s h hs => ?_)
    ·unfold BR at h
     refine Ap ?_
     refine AU h (fun v17 => mk [(1, oD (.ptr 1 0)), (2, oD (.ptr 2 0)), (4, oD (.ptr 4 0)), (7, iD v15.2), (74, bD v17)] [(1, .box (Dr p0)), (2, .box [.pure (.nil0), .pure (.nil0), .pure (.nil0), .pure (.nil0)]), (4, .box [.own 2022, .own 2023, .own 2024, .own 2025]), (2022, .vec 1 (v5.1.map Aw)), (2023, .vec 1 (v5.2.1.map Aw)), (2024, .vec 1 (v5.2.2.map Aw)), (2025, .vec 6 (v15.1.map AO))]) (fun j17 h => ?_) (fun v17 h => ?_)
     ·refine Aj Ac rfl (qm rfl (qf SE rfl (ql ap rfl (AZ Xz rfl (A0 rfl (qm rfl ?_))))))
      refine E1 69 h rfl (fun h => ?_) fun h => ?_
      ·refine qf BD rfl (ql Bi rfl (D9 AG rfl (Gt rfl (qp rfl (Ad ?_)))))
       exact sn [(2022, 2014), (2023, 2015), (2024, 2016), (2025, 2017)] h
      ·refine qn rfl (qn rfl (qn rfl (qn rfl (qp rfl (Ad ?_)))))
       exact sn [(2022, 2014), (2023, 2015), (2024, 2016), (2025, 2017)] h
     ·refine Bd h rfl (fun h => ?_) fun h => ?_
      ·refine Ao (Ap (AL (As Ac rfl (qf SE rfl (ql ap rfl (qm rfl ?_))))))
       obtain ⟨v20, a20, b20, h⟩ := Ah h
       refine qi Xz az a20 (Af b20) rfl (qK dU az rfl (qz dD rfl (qs az rfl (Ad (As Ac rfl (qf Yr rfl (ql cP rfl (NA rfl (by decide) (I3 ZU Yb rfl (AW rfl (qf Zi rfl (ql cP rfl (I3 ZU Yb rfl (qf BD rfl (ql Bi rfl (D9 AG rfl ?_))))))))))))))))
       obtain ⟨c21, h⟩ := AD h
       refine NA rfl c21 (qf YC rfl (ql cP rfl (I3 ZU Yb rfl (qf BD rfl (ql Bi rfl (D9 AG rfl ?_))))))
       obtain ⟨c22, h⟩ := AD h
       refine NA rfl c22 (Bx JO cS rfl (qz JO rfl (qs Dq rfl (AJ (by kernel_rfl) ?_))))
       refine AU h (fun v23 => mk [(1, oD (.ptr 1 0)), (2, oD (.ptr 2 0)), (4, oD (.ptr 4 0)), (7, iD v15.2), (8, oD (.ptr 8 0)), (9, oD (.ptr 9 0))] [(1, .box (Dr p0)), (2, .box [.pure (.nil0), .pure (.nil0), .pure (.nil0), .pure (.nil0)]), (4, .box [.own 2026, .own 2027, .own 2028, .own 2029]), (8, .box (Oh v20)), (9, .box [iC ((wI .i64 (1 + (wI .i64 ((Int.tmod v20.ff 4)))))), iC ((Int.tmod ((wI .i64 v20.fg)) ((v5.1.length : Int)))), iC ((Int.tmod ((wI .i64 v20.fk)) ((v5.1.length : Int)))), .pure (.val (.bool v23)), .pure (.nil0), .pure (.nil0)]), (2026, .vec 1 (v5.1.map Aw)), (2027, .vec 1 (v5.2.1.map Aw)), (2028, .vec 1 (v5.2.2.map Aw)), (2029, .vec 6 (v15.1.map AO))]) (fun j23 h => ?_) (fun v23 h => ?_)
       ·refine Aj Ac rfl (qf YV rfl (ql Uf rfl (qm rfl ?_)))
        refine E1 104 h rfl (fun h => ?_) fun h => ?_
        ·refine qL HQ Dq rfl ?_
         obtain ⟨v25, a25, h⟩ := bind_some h
         refine AF [] (CW N ((Ar.mk ((wI .i64 (1 + (wI .i64 ((Int.tmod v20.ff 4)))))) ((Int.tmod ((wI .i64 v20.fg)) ((v5.1.length : Int)))) ((Int.tmod ((wI .i64 v20.fk)) ((v5.1.length : Int)))) false (([] : List (List Bool))) (([] : List (List Bool))))) v25 a25) Sp rfl (CQ rfl (qp rfl (qf KA rfl (qs MO rfl (Ad ?_)))))
         exact sn [(2026, 2022), (2027, 2023), (2028, 2024), (2029, 2025)] h
        ·refine qn rfl (qn rfl (qn rfl (qp rfl (qf KA rfl (qs MO rfl (Ad ?_))))))
         exact sn [(2026, 2022), (2027, 2023), (2028, 2024), (2029, 2025)] h
       ·refine As Ac rfl (qf BD rfl (ql Bi rfl (qf Em rfl (ql CP rfl ?_))))
        obtain ⟨v26, a26, b26, h⟩ := Ah h
        refine qI AG En a26 (Af b26) rfl (qj CP (Af b26) rfl (qf BD rfl (ql Bi rfl (qf JL rfl (ql CP rfl ?_)))))
        obtain ⟨v27, a27, b27, h⟩ := Ah h
        refine qI AG En a27 (Af b27) rfl (qj CP (Af b27) rfl (qf YR rfl (ql bR rfl ?_)))
        obtain ⟨v28, a28, h⟩ := bind_some h
        refine AF [2030] (Kg N v26 v27 v20.fB false v28 a28) bQ rfl (qf Fj rfl (qs T9 rfl (AJ (by kernel_rfl) ?_)))
        refine AU h (fun v29 => mk [(1, oD (.ptr 1 0)), (2, oD (.ptr 2 0)), (4, oD (.ptr 4 0)), (7, iD v15.2), (9, oD (.ptr 9 0))] [(1, .box (Dr p0)), (2, .box [.pure (.nil0), .pure (.nil0), .pure (.nil0), .pure (.nil0)]), (4, .box [.own 2031, .own 2032, .own 2033, .own 2034]), (9, .box [iC ((wI .i64 (1 + (wI .i64 ((Int.tmod v20.ff 4)))))), iC ((Int.tmod ((wI .i64 v20.fg)) ((v5.1.length : Int)))), iC ((Int.tmod ((wI .i64 v20.fk)) ((v5.1.length : Int)))), .pure (.val (.bool v23)), .own 2035, .own 2036]), (2031, .vec 1 (v5.1.map Aw)), (2032, .vec 1 (v5.2.1.map Aw)), (2033, .vec 1 (v5.2.2.map Aw)), (2034, .vec 6 (v15.1.map AO)), (2035, .vec 1 (v28.map (FP eB))), (2036, .vec 1 (v29.map (FP eB)))]) (fun j29 h => ?_) (fun v29 h => ?_)
        ·refine As Ac rfl (qf Hz rfl (ql CP rfl (B5 rfl (Ad ?_))))
         refine Bd h rfl (fun h => ?_) fun h => ?_
         ·refine Aj Ac rfl (qf BD rfl (ql Bi rfl (qf Em rfl (ql CP rfl ?_))))
          obtain ⟨v31, a31, b31, h⟩ := Ah h
          refine qI AG En a31 (Af b31) rfl (qj CP (Af b31) rfl (qf BD rfl (ql Bi rfl (qf Em rfl (ql CP rfl ?_)))))
          obtain ⟨v32, a32, b32, h⟩ := Ah h
          refine qI AG En a32 (Af b32) rfl (qj CP (Af b32) rfl (qf Y4 rfl (ql bR rfl ?_)))
          obtain ⟨v33, a33, h⟩ := bind_some h
          refine AF [2037] (Kg N v31 v32 v20.fC true v33 a33) bQ rfl (qf Fh rfl (qs T9 rfl (AJ (by kernel_rfl) ?_)))
          exact sn [(2031, 2026), (2032, 2027), (2033, 2028), (2034, 2029), (2035, 2030), (2036, 2037)] h
         ·refine Ao ?_
          exact TL _ h ((AA 9 5 2038 1 _ rfl rfl rfl rfl).trans (sm [(2031, 2026), (2032, 2027), (2033, 2028), (2034, 2029), (2035, 2030), (2036, 2038)] _ _ rfl rfl))
        ·refine Aj Ac rfl (qf BG rfl (ql Gy rfl (qL HQ Dq rfl (E0 (BX 2035 _ _ rfl rfl) (E0 (BX 2036 _ _ rfl rfl) (E2 C6 Dq JO rfl ?_))))))
         obtain ⟨c34, h⟩ := AD h
         refine ED (f := AO) C6 C6 Dq XV JO c34 rfl (qf BG rfl (qs aB rfl (Ad (Aj Ac rfl (qm rfl (AW rfl (qa rfl (Ad ?_))))))))
         exact sn [(2014, 2031), (2015, 2032), (2016, 2033), (2017, 149)] h
      ·refine AV ?_
       exact sn [(2018, 2022), (2019, 2023), (2020, 2024), (2021, 2025)] h
    ·refine Ak hs (As Ac rfl (qL D0 CX rfl (qs CX rfl (qa rfl (Ad ?_)))))
     obtain rfl := sj h
     refine Ak (sm [(1000, 2018), (1001, 2019), (1002, 2020), (1003, 2021)] [(2, oD (.ptr 2 0)), (3, bD true)] [(2, .box [.own 1000, .own 1001, .own 1002, .own 1003]), (1000, .vec 1 (v5.1.map Aw)), (1001, .vec 1 (v5.2.1.map Aw)), (1002, .vec 1 (v5.2.2.map Aw)), (1003, .vec 6 (v16.map AO))] rfl rfl) (Ax ?_)
     exact ⟨⟨[_, _], ⟨.cellN _ _ _ _ _ _ _ rfl rfl D0 CX rfl rfl (Kj rfl), ⟨.tmp _ _ rfl, tv⟩⟩, rfl⟩, ⟨rfl, rfl, rfl, rfl, tv⟩⟩
theorem LJ (N : Nat) (p0 : Ae) (r : (List Aa)) (h : E3 N p0 = some r) : Ay Tryz.prog 44 [.e (.agg (Al p0))] [(3, r.map Ab)] (oD (.own 0)) := by
 unfold E3 at h
 refine An (n := 60) (rs := [.tmp 2]) Tryz.func44 rfl rfl rfl (A2 rfl) (A2 rfl) rfl fun w0 S0 => ?_
 refine As Ac rfl (qb rfl (qa rfl (Ad (As Ac rfl (qa rfl (Ad (Ap (As Ac rfl (qa rfl (Ad ?_))))))))))
 refine AB (L := BO N p0) h (fun v1 => mk [(1, oD (.ptr 1 0)), (3, oD (.own 2001)), (4, iD v1.2)] [(1, .box (Al p0)), (2001, .vec 3 (v1.1.map Ab))]) (fun v2 => mk [(3, oD (.own 2002))] [(2002, .vec 3 (v2.map Ab))]) (fun _ _ => rfl) ((Bl 3 2008 3 rfl rfl rfl).trans (sm [(2001, 2008)] _ _ rfl rfl)) (fun j1 n1 v1 h => ?_) (fun v2 s h hs => ?_)
 ·unfold BO at h
  refine Ap (As Ac rfl (qm rfl (qf BG rfl (ql Gy rfl (AZ C6 rfl (A0 rfl (Ad ?_)))))))
  refine Bd h rfl (fun h => ?_) fun h => ?_
  ·refine Ao (Ap (AL (As Ac rfl (qa rfl (Ad ?_)))))
   refine AB (L := Cf N p0 v1) h (fun v4 => mk [(1, oD (.ptr 1 0)), (3, oD (.own 2003)), (4, iD v1.2), (5, iD v4.2)] [(1, .box (Al p0)), (2003, .vec 3 (v4.1.map Ab))]) (fun v5 => mk [(1, oD (.ptr 1 0)), (3, oD (.own 2004)), (4, iD v1.2)] [(1, .box (Al p0)), (2004, .vec 3 (v5.map Ab))]) (fun _ _ => rfl) (sm [(2003, 2001)] _ _ rfl rfl) (fun j4 n4 v4 h => ?_) (fun v5 s h hs => ?_)
   ·unfold Cf at h
    refine Ap (As Ac rfl (qm rfl (qf BG rfl (ql Gy rfl (qm rfl ?_)))))
    obtain ⟨v6, a6, b6, h⟩ := Ah h
    refine qi C6 Dq a6 (Af b6) rfl (qg Fj rfl (qk HA rfl (AZ D4 rfl (A0 rfl (Ad ?_)))))
    refine Bd h rfl (fun h => ?_) fun h => ?_
    ·refine Ao (Ap (AL (As Ac rfl (qa rfl (Ad ?_)))))
     refine AB (L := CT N p0 v1 v4) h (fun v8 => mk [(1, oD (.ptr 1 0)), (3, oD (.own 2005)), (4, iD v1.2), (5, iD v4.2), (6, iD v8.2)] [(1, .box (Al p0)), (2005, .vec 3 (v8.1.map Ab))]) (fun v9 => mk [(1, oD (.ptr 1 0)), (3, oD (.own 2006)), (4, iD v1.2), (5, iD v4.2)] [(1, .box (Al p0)), (2006, .vec 3 (v9.map Ab))]) (fun _ _ => rfl) (sm [(2005, 2003)] _ _ rfl rfl) (fun j8 n8 v8 h => ?_) (fun v9 s h hs => ?_)
     ·unfold CT at h
      refine Ap (As Ac rfl (qm rfl (qf BG rfl (ql Gy rfl (qm rfl ?_)))))
      obtain ⟨v10, a10, b10, h⟩ := Ah h
      refine qi C6 Dq a10 (Af b10) rfl (qg Fj rfl (qk HA rfl (qm rfl ?_)))
      obtain ⟨v11, a11, b11, h⟩ := Ah h
      refine qi D4 IH a11 (Af b11) rfl (qk L9 rfl (AZ EZ rfl (A0 rfl (Ad ?_))))
      refine Bd h rfl (fun h => ?_) fun h => ?_
      ·refine Ao ?_
       refine AU h (fun v13 => mk [(1, oD (.ptr 1 0)), (3, oD (.own 2007)), (4, iD v1.2), (5, iD v4.2), (6, iD v8.2)] [(1, .box (Al p0)), (2007, .vec 3 (v13.map Ab))]) (fun j13 h => ?_) (fun v13 h => ?_)
       ·refine AL (As Ac rfl (qf BG rfl (ql Gy rfl (qm rfl ?_))))
        obtain ⟨v14, a14, b14, h⟩ := Ah h
        refine qi C6 Dq a14 (Af b14) rfl (qg Fj rfl (qk HA rfl (qm rfl ?_)))
        obtain ⟨v15, a15, b15, h⟩ := Ah h
        refine qi D4 IH a15 (Af b15) rfl (qk L9 rfl (qm rfl ?_))
        obtain ⟨v16, a16, b16, h⟩ := Ah h
        refine qi EZ MO a16 (Af b16) rfl (qk Uf rfl (CQ rfl (Ad ?_)))
        refine Bd h rfl (fun h => ?_) fun h => ?_
        ·refine Aj Ac rfl (qm rfl (qm rfl (qm rfl (qm rfl (Bx HV QJ rfl (E2 AT AQ HV rfl ?_))))))
         obtain ⟨c18, h⟩ := AD h
         refine ED (f := Ab) AT AT AQ OQ HV c18 rfl (qa rfl (Ad ?_))
         exact sn [(2007, 58)] h
        ·refine Ao ?_
         exact sn [(2007, 2005)] h
       ·refine Aj Ac rfl (qm rfl (AW rfl (qa rfl (Ad ?_))))
        exact sn [(2005, 2007)] h
      ·refine AV ?_
       exact sn [(2006, 2005)] h
     ·refine Ak hs (Aj Ac rfl (qm rfl (AW rfl (qa rfl (Ad ?_)))))
      exact sn [(2003, 2006)] h
    ·refine AV ?_
     exact sn [(2004, 2003)] h
   ·refine Ak hs (Aj Ac rfl (qm rfl (AW rfl (qa rfl (Ad ?_)))))
    exact sn [(2001, 2004)] h
  ·refine AV ?_
   exact sn [(2002, 2001)] h
 ·refine Ak hs (As Ac rfl (qm rfl (qa rfl (Ad ?_))))
  obtain rfl := sj h
  refine Ak (sm [(1000, 2002)] [(2, oD (.own 1000))] [(1000, .vec 3 (v2.map Ab))] rfl rfl) (Ax ?_)
  exact ⟨⟨[_], ⟨.tmp _ _ rfl, tv⟩, rfl⟩, ⟨rfl, tv⟩⟩
theorem OH (N : Nat) (p0 : List Aa) (p1 : Aa) (r : Bool) (h : GD N p0 p1 = some r) : Ay Tryz.prog 43 [pD (.sl (p0.map Ab)), .e (.agg (Fw p1))] [] (bD r) := by
 unfold GD at h
 refine An (n := 18) (rs := [.tmp 4]) Tryz.func43 rfl rfl rfl (A2 rfl) (A2 rfl) rfl fun w0 S0 => ?_
 refine As Ac rfl (qb rfl (qa rfl (Ad (Ap (As Ac rfl (qa rfl (Ad ?_)))))))
 refine AB (L := EP N p0 p1) h (fun v1 => mk [(0, pD (.sl (p0.map Ab))), (3, oD (.ptr 3 0)), (5, iD v1)] [(3, .box (Fw p1))]) (fun v2 => mk [] []) (fun _ _ => rfl) (sm [] _ _ rfl rfl) (fun j1 n1 v1 h => ?_) (fun v2 s h hs => ?_)
 ·unfold EP at h
  refine Ap (As Ac rfl (qm rfl (qm rfl (AZ AT rfl (A0 rfl (Ad ?_))))))
  refine Bd h rfl (fun h => ?_) fun h => ?_
  ·refine Ao (Ap (AL (As Ac rfl (qm rfl (qm rfl ?_)))))
   obtain ⟨v4, a4, b4, h⟩ := Ah h
   refine qi AT AQ a4 (Af b4) rfl (qK Du AQ rfl (qL Du AQ rfl ?_))
   refine SX [.int .i64 v4.fw, .int .i64 v4.fv, .int .i64 v4.fu] [.int .i64 p1.fw, .int .i64 p1.fv, .int .i64 p1.fu] (.p rfl) rfl rfl Rr rfl ?_
   refine AJ (by kernel_rfl) ?_
   refine Bd h rfl (fun h => ?_) fun h => ?_
   ·refine As Ac rfl (qa rfl (Ad ?_))
    obtain rfl := sj h
    refine Ak (sm [] [(4, bD true)] [] rfl rfl) (Ax ?_)
    exact ⟨⟨[_], ⟨.tmp _ _ rfl, tv⟩, rfl⟩, tv⟩
   ·refine Ao (Aj Ac rfl (qm rfl (AW rfl (qa rfl (Ad ?_)))))
    exact sn [] h
  ·refine AV ?_
   exact sn [] h
 ·refine Ak hs (As Ac rfl (qa rfl (Ad ?_)))
  obtain rfl := sj h
  refine Ak (sm [] [(4, bD false)] [] rfl rfl) (Ax ?_)
  exact ⟨⟨[_], ⟨.tmp _ _ rfl, tv⟩, rfl⟩, tv⟩
theorem MZ (N : Nat) (p0 : Ae) (p1 : List Aa) (r : Ae) (h : F1 N p0 p1 = some r) : Ay Tryz.prog 46 [.e (.agg (Al p0)), pD (.sl (p1.map Ab))] [(1, r.fb.map Aw), (1, r.fh.map Aw), (1, r.fo.map Aw)] (.e (.agg [.own 0, .own 1, .own 2, sC (r.fc.map AO)])) := by
 unfold F1 at h
 refine An (n := 122) (rs := [.cell 4 29]) Tryz.func46 rfl rfl rfl (A2 rfl) (A2 rfl) rfl fun w0 S0 => ?_
 refine As Ac rfl (qb rfl (qz LM rfl (Ad (As Ac rfl (E2 AG En Lb rfl (qf BD rfl (ql Bi rfl ?_)))))))
 obtain ⟨c1, h⟩ := AD h
 refine HM (f := Aw) AG AG En L7 Lb (fun _ => rfl) c1 rfl (E2 AG En Lb rfl (qf Hy rfl (ql Bi rfl ?_)))
 obtain ⟨c2, h⟩ := AD h
 refine HM (f := Aw) AG AG En L7 Lb (fun _ => rfl) c2 rfl (E2 AG En Lb rfl (qf Ji rfl (ql Bi rfl ?_)))
 obtain ⟨c3, h⟩ := AD h
 refine HM (f := Aw) AG AG En L7 Lb (fun _ => rfl) c3 rfl (Bx LM V7 rfl (qz LM rfl (qs CX rfl (AJ (by kernel_rfl) (Ap (As Ac rfl (qa rfl (Ad ?_))))))))
 refine AB (L := Cq N p0 p1) h (fun v4 => mk [(1, pD (.sl (p1.map Ab))), (2, oD (.ptr 2 0)), (4, oD (.ptr 4 0)), (5, oD (.ptr 5 0)), (6, iD v4.2)] [(2, .box (Al p0)), (4, .box [.pure (.nil0), .pure (.nil0), .pure (.nil0), .pure (.nil0)]), (5, .box [.own 2001, .own 2002, .own 2003, .own 2004]), (2001, .vec 1 (((([] : List Int)) ++ p0.fb).map Aw)), (2002, .vec 1 (((([] : List Int)) ++ p0.fh).map Aw)), (2003, .vec 1 (((([] : List Int)) ++ p0.fo).map Aw)), (2004, .dvec 6 [.s, .s, .s, .s, .x 1 [.x 1 []], .x 1 [.x 1 []]] (v4.1.map AO))]) (fun v5 => mk [(4, oD (.ptr 4 0)), (5, oD (.ptr 5 0))] [(4, .box [.pure (.nil0), .pure (.nil0), .pure (.nil0), .pure (.nil0)]), (5, .box [.own 2005, .own 2006, .own 2007, .own 2008]), (2005, .vec 1 (((([] : List Int)) ++ p0.fb).map Aw)), (2006, .vec 1 (((([] : List Int)) ++ p0.fh).map Aw)), (2007, .vec 1 (((([] : List Int)) ++ p0.fo).map Aw)), (2008, .dvec 6 [.s, .s, .s, .s, .x 1 [.x 1 []], .x 1 [.x 1 []]] (v5.map AO))]) (fun _ _ => rfl) ((AA 5 3 2051 6 _ rfl rfl rfl rfl).trans ((ID 2051 6 [.s, .s, .s, .s, .x 1 [.x 1 []], .x 1 [.x 1 []]] [] [] rfl rfl).trans (sm [(2001, 15), (2002, 19), (2003, 23), (2004, 2051)] _ _ rfl rfl))) (fun j4 n4 v4 h => ?_) (fun v5 s h hs => ?_)
 ·unfold Cq at h
  refine Ap (As Ac rfl (qm rfl (qf BG rfl (ql Gy rfl (AZ C6 rfl (A0 rfl (Ad ?_)))))))
  refine Bd h rfl (fun h => ?_) fun h => ?_
  ·refine Ao (Ap (AL (As Ac rfl (qf BG rfl (ql Gy rfl (qm rfl ?_))))))
   obtain ⟨v7, a7, b7, h⟩ := Ah h
   refine qi C6 Dq a7 (Af b7) rfl (qK HQ Dq rfl (qz JO rfl (qs Dq rfl (Ad (As Ac rfl (qf Fj rfl (qs T9 rfl (qf Fh rfl (qs T9 rfl (Ad (Ap (As Ac rfl (qa rfl (Ad ?_))))))))))))))
   refine AB (L := DJ N p0 p1 v4) h (fun v8 => mk [(1, pD (.sl (p1.map Ab))), (2, oD (.ptr 2 0)), (4, oD (.ptr 4 0)), (5, oD (.ptr 5 0)), (6, iD v4.2), (7, oD (.ptr 7 0)), (8, iD v8.2)] [(2, .box (Al p0)), (4, .box [.pure (.nil0), .pure (.nil0), .pure (.nil0), .pure (.nil0)]), (5, .box [.own 2009, .own 2010, .own 2011, .own 2012]), (7, .box [iC v7.ff, iC v7.fg, iC v7.fk, .pure (.val (.bool v7.fp)), .own 2013, .pure (.nil0)]), (2009, .vec 1 (((([] : List Int)) ++ p0.fb).map Aw)), (2010, .vec 1 (((([] : List Int)) ++ p0.fh).map Aw)), (2011, .vec 1 (((([] : List Int)) ++ p0.fo).map Aw)), (2012, .dvec 6 [.s, .s, .s, .s, .x 1 [.x 1 []], .x 1 [.x 1 []]] (v4.1.map AO)), (2013, .dvec 1 [.x 1 []] (v8.1.map (FP eB)))]) (fun v9 => mk [(1, pD (.sl (p1.map Ab))), (2, oD (.ptr 2 0)), (4, oD (.ptr 4 0)), (5, oD (.ptr 5 0)), (6, iD v4.2), (7, oD (.ptr 7 0))] [(2, .box (Al p0)), (4, .box [.pure (.nil0), .pure (.nil0), .pure (.nil0), .pure (.nil0)]), (5, .box [.own 2014, .own 2015, .own 2016, .own 2017]), (7, .box [iC v7.ff, iC v7.fg, iC v7.fk, .pure (.val (.bool v7.fp)), .own 2018, .pure (.nil0)]), (2014, .vec 1 (((([] : List Int)) ++ p0.fb).map Aw)), (2015, .vec 1 (((([] : List Int)) ++ p0.fh).map Aw)), (2016, .vec 1 (((([] : List Int)) ++ p0.fo).map Aw)), (2017, .dvec 6 [.s, .s, .s, .s, .x 1 [.x 1 []], .x 1 [.x 1 []]] (v4.1.map AO)), (2018, .dvec 1 [.x 1 []] (v9.map (FP eB)))]) (fun _ _ => rfl) ((AA 7 4 2037 1 _ rfl rfl rfl rfl).trans ((ID 2037 1 [.x 1 []] [] [] rfl rfl).trans (sm [(2009, 2001), (2010, 2002), (2011, 2003), (2012, 2004), (2013, 2037)] _ _ rfl rfl))) (fun j8 n8 v8 h => ?_) (fun v9 s h hs => ?_)
   ·unfold DJ at h
    refine Ap (As Ac rfl (qm rfl (qf BG rfl (ql Gy rfl (qm rfl ?_)))))
    obtain ⟨v10, a10, b10, h⟩ := Ah h
    refine qi C6 Dq a10 (Af b10) rfl (qg Fj rfl (qk HA rfl (AZ D4 rfl (A0 rfl (Ad ?_)))))
    refine Bd h rfl (fun h => ?_) fun h => ?_
    ·refine Ao (Ap (AL (As Ac rfl (E2 EZ MO VF rfl (qf BG rfl (ql Gy rfl (qm rfl ?_)))))))
     obtain ⟨v12, a12, b12, h⟩ := Ah h
     refine qi C6 Dq a12 (Af b12) rfl (qg Fj rfl (qk HA rfl (qm rfl ?_)))
     obtain ⟨v13, a13, b13, h⟩ := Ah h
     refine qi D4 IH a13 (Af b13) rfl (qk L9 rfl ?_)
     obtain ⟨c14, h⟩ := AD h
     refine HM (f := eB) EZ EZ MO Wx VF (fun _ => rfl) c14 rfl (qa rfl (Ad (Ap (As Ac rfl (qa rfl (Ad ?_))))))
     refine AB (L := CM N p1 v4 v8) h (fun v15 => mk [(1, pD (.sl (p1.map Ab))), (2, oD (.ptr 2 0)), (4, oD (.ptr 4 0)), (5, oD (.ptr 5 0)), (6, iD v4.2), (7, oD (.ptr 7 0)), (8, iD v8.2), (9, oD (.own 2024)), (10, iD v15.2)] [(2, .box (Al p0)), (4, .box [.pure (.nil0), .pure (.nil0), .pure (.nil0), .pure (.nil0)]), (5, .box [.own 2019, .own 2020, .own 2021, .own 2022]), (7, .box [iC v7.ff, iC v7.fg, iC v7.fk, .pure (.val (.bool v7.fp)), .own 2023, .pure (.nil0)]), (2019, .vec 1 (((([] : List Int)) ++ p0.fb).map Aw)), (2020, .vec 1 (((([] : List Int)) ++ p0.fh).map Aw)), (2021, .vec 1 (((([] : List Int)) ++ p0.fo).map Aw)), (2022, .dvec 6 [.s, .s, .s, .s, .x 1 [.x 1 []], .x 1 [.x 1 []]] (v4.1.map AO)), (2023, .dvec 1 [.x 1 []] (v8.1.map (FP eB))), (2024, .vec 1 (v15.1.map eB))]) (fun v16 => mk [(1, pD (.sl (p1.map Ab))), (2, oD (.ptr 2 0)), (4, oD (.ptr 4 0)), (5, oD (.ptr 5 0)), (6, iD v4.2), (7, oD (.ptr 7 0)), (8, iD v8.2), (9, oD (.own 2030))] [(2, .box (Al p0)), (4, .box [.pure (.nil0), .pure (.nil0), .pure (.nil0), .pure (.nil0)]), (5, .box [.own 2025, .own 2026, .own 2027, .own 2028]), (7, .box [iC v7.ff, iC v7.fg, iC v7.fk, .pure (.val (.bool v7.fp)), .own 2029, .pure (.nil0)]), (2025, .vec 1 (((([] : List Int)) ++ p0.fb).map Aw)), (2026, .vec 1 (((([] : List Int)) ++ p0.fh).map Aw)), (2027, .vec 1 (((([] : List Int)) ++ p0.fo).map Aw)), (2028, .dvec 6 [.s, .s, .s, .s, .x 1 [.x 1 []], .x 1 [.x 1 []]] (v4.1.map AO)), (2029, .dvec 1 [.x 1 []] (v8.1.map (FP eB))), (2030, .vec 1 (v16.map eB))]) (fun _ _ => rfl) (sm [(2019, 2009), (2020, 2010), (2021, 2011), (2022, 2012), (2023, 2013), (2024, 60)] _ _ rfl rfl) (fun j15 n15 v15 h => ?_) (fun v16 s h hs => ?_)
     ·unfold CM at h
      refine Ap (As Ac rfl (qm rfl (qm rfl (D9 EZ rfl (A0 rfl (Ad ?_))))))
      refine Bd h rfl (fun h => ?_) fun h => ?_
      ·refine Ao ?_
       refine AU h (fun v18 => mk [(1, pD (.sl (p1.map Ab))), (2, oD (.ptr 2 0)), (4, oD (.ptr 4 0)), (5, oD (.ptr 5 0)), (6, iD v4.2), (7, oD (.ptr 7 0)), (8, iD v8.2), (9, oD (.own 2036)), (10, iD v15.2)] [(2, .box (Al p0)), (4, .box [.pure (.nil0), .pure (.nil0), .pure (.nil0), .pure (.nil0)]), (5, .box [.own 2031, .own 2032, .own 2033, .own 2034]), (7, .box [iC v7.ff, iC v7.fg, iC v7.fk, .pure (.val (.bool v7.fp)), .own 2035, .pure (.nil0)]), (2031, .vec 1 (((([] : List Int)) ++ p0.fb).map Aw)), (2032, .vec 1 (((([] : List Int)) ++ p0.fh).map Aw)), (2033, .vec 1 (((([] : List Int)) ++ p0.fo).map Aw)), (2034, .dvec 6 [.s, .s, .s, .s, .x 1 [.x 1 []], .x 1 [.x 1 []]] (v4.1.map AO)), (2035, .dvec 1 [.x 1 []] (v8.1.map (FP eB))), (2036, .vec 1 (v18.map eB))]) (fun j18 h => ?_) (fun v18 h => ?_)
       ·refine AL (Aj Ac rfl (qm rfl (qm rfl (qm rfl (qm rfl ?_)))))
        obtain ⟨v19, a19, b19, h⟩ := Ah h
        refine qI EZ MO a19 (Af b19) rfl (qj Uf (Af b19) rfl (qm rfl ?_))
        refine E1 73 h rfl (fun h => ?_) fun h => ?_
        ·refine qn rfl (qn rfl (qn rfl (qn rfl (qn rfl (qn rfl (qp rfl ?_))))))
         obtain ⟨v21, a21, b21, h⟩ := Ah h
         refine qI EZ MO a21 (Af b21) rfl ?_
         refine A9 rfl rfl rfl rfl (Af b21) rfl MO rfl (A2 rfl) (A6 eB v15.1 _ true) ?_
         refine Ad ?_
         exact sn [(2031, 2019), (2032, 2020), (2033, 2021), (2034, 2022), (2035, 2023), (2036, 2024)] h
        ·refine qm rfl (qm rfl (qm rfl (qm rfl (Bx HV QJ rfl ?_))))
         obtain ⟨v22, a22, h⟩ := bind_some h
         refine AF [] (OH N p1 ((Aa.mk v4.2 v8.2 v15.2)) v22 a22) dJ rfl (qp rfl ?_)
         obtain ⟨v23, a23, b23, h⟩ := Ah h
         refine qI EZ MO a23 (Af b23) rfl ?_
         refine A9 rfl rfl rfl rfl (Af b23) rfl MO rfl (A2 rfl) (A6 eB v15.1 _ v22) ?_
         refine Ad ?_
         exact sn [(2031, 2019), (2032, 2020), (2033, 2021), (2034, 2022), (2035, 2023), (2036, 2024)] h
       ·refine Aj Ac rfl (qm rfl (AW rfl (qa rfl (Ad ?_))))
        exact sn [(2019, 2031), (2020, 2032), (2021, 2033), (2022, 2034), (2023, 2035), (2024, 2036)] h
      ·refine AV ?_
       exact sn [(2025, 2019), (2026, 2020), (2027, 2021), (2028, 2022), (2029, 2023), (2030, 2024)] h
     ·refine Ak hs (Aj Ac rfl (qf Fj rfl (ql HA rfl (qm rfl ?_))))
      refine Jj (x := .one (.own 2030)) (cs := [.own 2030]) (ts := [.sl (v16.map eB)]) [.x 1 []] [(2030, .vec 1 (v16.map eB))] (.p rfl) rfl rfl rfl rfl rfl ⟨rfl, tv⟩ ⟨rfl, tv⟩ rfl rfl rfl D4 IH R6 (A2 rfl) ?_
      obtain ⟨c24, h⟩ := AD h
      refine K1 (.p rfl) rfl rfl rfl rfl rfl (by decide) D4 D4 IH VN (A2 rfl) R6 rfl (Nr (f := (FP eB)) (g := (FP eB)) (xs := v8.1) (ys := (([v16] : List (List Bool)))) c24) (Nt (FP eB) v8.1 (([v16] : List (List Bool)))) rfl rfl ?_
      refine qf Fj rfl (qs T9 rfl (Ad (Aj Ac rfl (qm rfl (AW rfl (qa rfl (Ad ?_)))))))
      exact sn [(2009, 2025), (2010, 2026), (2011, 2027), (2012, 2028), (2013, 86)] h
    ·refine AV ?_
     exact sn [(2014, 2009), (2015, 2010), (2016, 2011), (2017, 2012), (2018, 2013)] h
   ·refine Ak hs (Ap (As Ac rfl (qa rfl (Ad ?_))))
    refine AB (L := CN N p0 v4) h (fun v25 => mk [(1, pD (.sl (p1.map Ab))), (2, oD (.ptr 2 0)), (4, oD (.ptr 4 0)), (5, oD (.ptr 5 0)), (6, iD v4.2), (7, oD (.ptr 7 0)), (11, iD v25.2)] [(2, .box (Al p0)), (4, .box [.pure (.nil0), .pure (.nil0), .pure (.nil0), .pure (.nil0)]), (5, .box [.own 2038, .own 2039, .own 2040, .own 2041]), (7, .box [iC v7.ff, iC v7.fg, iC v7.fk, .pure (.val (.bool v7.fp)), .own 2042, .own 2043]), (2038, .vec 1 (((([] : List Int)) ++ p0.fb).map Aw)), (2039, .vec 1 (((([] : List Int)) ++ p0.fh).map Aw)), (2040, .vec 1 (((([] : List Int)) ++ p0.fo).map Aw)), (2041, .dvec 6 [.s, .s, .s, .s, .x 1 [.x 1 []], .x 1 [.x 1 []]] (v4.1.map AO)), (2042, .dvec 1 [.x 1 []] (v9.map (FP eB))), (2043, .dvec 1 [.x 1 []] (v25.1.map (FP eB)))]) (fun v26 => mk [(1, pD (.sl (p1.map Ab))), (2, oD (.ptr 2 0)), (4, oD (.ptr 4 0)), (5, oD (.ptr 5 0)), (6, iD v4.2), (7, oD (.ptr 7 0))] [(2, .box (Al p0)), (4, .box [.pure (.nil0), .pure (.nil0), .pure (.nil0), .pure (.nil0)]), (5, .box [.own 2044, .own 2045, .own 2046, .own 2047]), (7, .box [iC v7.ff, iC v7.fg, iC v7.fk, .pure (.val (.bool v7.fp)), .own 2048, .own 2049]), (2044, .vec 1 (((([] : List Int)) ++ p0.fb).map Aw)), (2045, .vec 1 (((([] : List Int)) ++ p0.fh).map Aw)), (2046, .vec 1 (((([] : List Int)) ++ p0.fo).map Aw)), (2047, .dvec 6 [.s, .s, .s, .s, .x 1 [.x 1 []], .x 1 [.x 1 []]] (v4.1.map AO)), (2048, .dvec 1 [.x 1 []] (v9.map (FP eB))), (2049, .dvec 1 [.x 1 []] (v26.map (FP eB)))]) (fun _ _ => rfl) ((AA 7 5 2050 1 _ rfl rfl rfl rfl).trans ((ID 2050 1 [.x 1 []] [] [] rfl rfl).trans (sm [(2038, 2014), (2039, 2015), (2040, 2016), (2041, 2017), (2042, 2018), (2043, 2050)] _ _ rfl rfl))) (fun j25 n25 v25 h => ?_) (fun v26 s h hs => ?_)
    ·unfold CN at h
     refine Ap (As Ac rfl (qm rfl (qf BG rfl (ql Gy rfl (qm rfl ?_)))))
     obtain ⟨v27, a27, b27, h⟩ := Ah h
     refine qi C6 Dq a27 (Af b27) rfl (qg Fh rfl (qk HA rfl (AZ D4 rfl (A0 rfl (Ad ?_)))))
     refine Bd h rfl (fun h => ?_) fun h => ?_
     ·refine Ao (Ap (AL (Aj Ac rfl (qf Fh rfl (ql HA rfl (E2 EZ MO VF rfl (qf BG rfl (ql Gy rfl (qm rfl ?_)))))))))
      obtain ⟨v29, a29, b29, h⟩ := Ah h
      refine qi C6 Dq a29 (Af b29) rfl (qg Fh rfl (qk HA rfl (qm rfl ?_)))
      obtain ⟨v30, a30, b30, h⟩ := Ah h
      refine qi D4 IH a30 (Af b30) rfl (qk L9 rfl ?_)
      obtain ⟨c31, h⟩ := AD h
      refine HM (f := eB) EZ EZ MO Wx VF (fun _ => rfl) c31 rfl ?_
      refine Jj (x := .one (.own 111)) (cs := [.own 111]) (ts := [.sl (((([] : List Bool)) ++ v30).map eB)]) [.x 1 []] [(111, .vec 1 (((([] : List Bool)) ++ v30).map eB))] (.p rfl) rfl rfl rfl rfl rfl ⟨rfl, tv⟩ ⟨rfl, tv⟩ rfl rfl rfl D4 IH R6 (A2 rfl) ?_
      obtain ⟨c32, h⟩ := AD h
      refine K1 (.p rfl) rfl rfl rfl rfl rfl (by decide) D4 D4 IH VN (A2 rfl) R6 rfl (Nr (f := (FP eB)) (g := (FP eB)) (xs := v25.1) (ys := (([(([] : List Bool)) ++ v30] : List (List Bool)))) c32) (Nt (FP eB) v25.1 (([(([] : List Bool)) ++ v30] : List (List Bool)))) rfl rfl ?_
      refine qf Fh rfl (qs T9 rfl (AJ (by kernel_rfl) (Aj Ac rfl (qm rfl (AW rfl (qa rfl (Ad ?_)))))))
      exact sn [(2043, 113)] h
     ·refine AV ?_
      exact sn [(2044, 2038), (2045, 2039), (2046, 2040), (2047, 2041), (2048, 2042), (2049, 2043)] h
    ·refine Ak hs (Aj Ac rfl (qf BG rfl (ql Gy rfl (qL HQ Dq rfl ?_))))
     refine Jj (x := .agg [iC v7.ff, iC v7.fg, iC v7.fk, .pure (.val (.bool v7.fp)), .own 2048, .own 2049]) (cs := [iC v7.ff, iC v7.fg, iC v7.fk, .pure (.val (.bool v7.fp)), .own 2048, .own 2049]) (ts := [.val (.int .i64 v7.ff), .val (.int .i64 v7.fg), .val (.int .i64 v7.fk), .val (.bool v7.fp), .sl (v9.map (FP eB)), .sl (v26.map (FP eB))]) [.s, .s, .s, .s, .x 1 [.x 1 []], .x 1 [.x 1 []]] [(2048, .dvec 1 [.x 1 []] (v9.map (FP eB))), (2049, .dvec 1 [.x 1 []] (v26.map (FP eB)))] (.p rfl) rfl rfl rfl rfl rfl ⟨rfl, rfl, tv⟩ ⟨rfl, rfl, rfl, rfl, rfl, rfl, tv⟩ rfl rfl rfl C6 Dq JO (A2 rfl) ?_
     obtain ⟨c33, h⟩ := AD h
     refine K1 (.p rfl) rfl rfl rfl rfl rfl (by decide) C6 C6 Dq XV (A2 rfl) JO rfl (Nr (f := AO) (g := AO) (xs := v4.1) (ys := (([(Ar.mk v7.ff v7.fg v7.fk v7.fp v9 v26)] : List Ar))) c33) (Nt AO v4.1 (([(Ar.mk v7.ff v7.fg v7.fk v7.fp v9 v26)] : List Ar))) rfl rfl ?_
     refine qf BG rfl (qs aB rfl (Ad (Aj Ac rfl (qm rfl (AW rfl (qa rfl (Ad ?_)))))))
     exact sn [(2001, 2044), (2002, 2045), (2003, 2046), (2004, 119)] h
  ·refine AV ?_
   exact sn [(2005, 2001), (2006, 2002), (2007, 2003), (2008, 2004)] h
 ·refine Ak hs (As Ac rfl (qL D0 CX rfl (qs CX rfl (Ad ?_))))
  obtain rfl := sj h
  refine Ak ((OI 2008 _ _ _ rfl rfl).trans (sm [(1000, 2005), (1001, 2006), (1002, 2007)] [(4, oD (.ptr 4 0))] [(4, .box [.own 1000, .own 1001, .own 1002, sC (v5.map AO)]), (1000, .vec 1 (((([] : List Int)) ++ p0.fb).map Aw)), (1001, .vec 1 (((([] : List Int)) ++ p0.fh).map Aw)), (1002, .vec 1 (((([] : List Int)) ++ p0.fo).map Aw))] rfl rfl)) (Ax ?_)
  exact ⟨⟨[_], ⟨.cellN _ _ _ _ _ _ _ rfl rfl D0 CX rfl rfl (Kj rfl), tv⟩, rfl⟩, ⟨rfl, rfl, rfl, tv⟩⟩
theorem Jm (N : Nat) (p0 : List (List Bool)) (p1 : Int) (p2 : Int) (r : Bool) (h : EA N p0 p1 p2 = some r) : Ay Tryz.prog 83 [pD (.sl (p0.map (FP eB))), iD p1, iD p2] [] (bD r) := by
 unfold EA at h
 refine An (n := 24) (rs := [.tmp 6]) Tryz.func83 rfl rfl rfl (A2 rfl) (A2 rfl) rfl fun w0 S0 => ?_
 refine As Ac rfl (qa rfl (Ad (Ap (As Ac rfl (qm rfl (AZ D4 rfl (qm rfl (CU rfl (Ad ?_)))))))))
 refine Bd h rfl (fun h => ?_) fun h => ?_
 ·refine As Ac rfl (qa rfl (Ad ?_))
  obtain rfl := sj h
  refine Ak (sm [] [(6, bD false)] [] rfl rfl) (Ax ?_)
  exact ⟨⟨[_], ⟨.tmp _ _ rfl, tv⟩, rfl⟩, tv⟩
 ·refine Ao (Ap (As Ac rfl (qa rfl (Ad ?_))))
  refine AB (L := C8 N p0 p1 p2) h (fun v2 => mk [(0, pD (.sl (p0.map (FP eB)))), (1, iD p1), (2, iD p2), (7, iD v2)] []) (fun v3 => mk [] []) (fun _ _ => rfl) (sm [] _ _ rfl rfl) (fun j2 n2 v2 h => ?_) (fun v3 s h hs => ?_)
  ·unfold C8 at h
   refine Ap (As Ac rfl (qm rfl (qm rfl (A0 rfl (Ad ?_)))))
   refine Bd h rfl (fun h => ?_) fun h => ?_
   ·refine Ao (Ap (AL (As Ac rfl (qm rfl (qm rfl ?_)))))
    obtain ⟨v5, a5, b5, h⟩ := Ah h
    refine qi D4 IH a5 (Af b5) rfl (qk L9 rfl (AZ EZ rfl (qm rfl (CU rfl (Ad ?_)))))
    refine Bd h rfl (fun h => ?_) fun h => ?_
    ·refine As Ac rfl (qa rfl (Ad ?_))
     obtain rfl := sj h
     refine Ak (sm [] [(6, bD false)] [] rfl rfl) (Ax ?_)
     exact ⟨⟨[_], ⟨.tmp _ _ rfl, tv⟩, rfl⟩, tv⟩
    ·refine Ao (Aj Ac rfl (qm rfl (AW rfl (qa rfl (Ad ?_)))))
     exact sn [] h
   ·refine AV ?_
    exact sn [] h
  ·refine Ak hs (As Ac rfl (qa rfl (Ad ?_)))
   obtain rfl := sj h
   refine Ak (sm [] [(6, bD true)] [] rfl rfl) (Ax ?_)
   exact ⟨⟨[_], ⟨.tmp _ _ rfl, tv⟩, rfl⟩, tv⟩
theorem Mw (N : Nat) (p0 : Ae) (p1 : Ar) (r : Int) (h : FK N p0 p1 = some r) : Ay Tryz.prog 55 [.e (.agg (Al p0)), .e (.agg (Bt p1))] [] (iD r) := by
 unfold FK at h
 refine An (n := 101) (rs := [.tmp 4]) Tryz.func55 rfl rfl rfl (A2 rfl) (A2 rfl) rfl fun w0 S0 => ?_
 refine As Ac rfl (qb rfl (qb rfl (qa rfl (Ad (Ap ?_)))))
 refine AU h (fun v1 => mk [(2, oD (.ptr 2 0)), (3, oD (.ptr 3 0)), (22, bD v1)] [(2, .box (Al p0)), (3, .box (Bt p1))]) (fun j1 h => ?_) (fun v1 h => ?_)
 ·refine Aj Ac rfl (qf Hz rfl (ql CP rfl (A0 rfl (qm rfl ?_))))
  refine E1 10 h rfl (fun h => ?_) fun h => ?_
  ·refine qn rfl (qn rfl (qn rfl (qp rfl (qm rfl (qn rfl (qn rfl (qn rfl (qu rfl (qu rfl (qn rfl (qp rfl (Ad ?_))))))))))))
   exact sn [] h
  ·refine qf Hz rfl (ql CP rfl (Gt rfl (qp rfl (qm rfl ?_))))
   refine E1 15 h rfl (fun h => ?_) fun h => ?_
   ·refine qn rfl (qn rfl (qn rfl (qu rfl (qu rfl (qn rfl (qp rfl (Ad ?_)))))))
    exact sn [] h
   ·refine qf KA rfl (ql Uf rfl (qm rfl ?_))
    refine E1 18 h rfl (fun h => ?_) fun h => ?_
    ·refine qL HQ Dq rfl ?_
     obtain ⟨v5, a5, h⟩ := bind_some h
     refine AF [] (CW N p1 v5 a5) Sp rfl (qp rfl (qp rfl (Ad ?_)))
     exact sn [] h
    ·refine qn rfl (qn rfl (qp rfl (qp rfl (Ad ?_))))
     exact sn [] h
 ·refine Bd h rfl (fun h => ?_) fun h => ?_
  ·refine As Ac rfl (qa rfl (Ad ?_))
   obtain rfl := sj h
   refine Ak (sm [] [(4, iD 1)] [] rfl rfl) (Ax ?_)
   exact ⟨⟨[_], ⟨.tmp _ _ rfl, tv⟩, rfl⟩, tv⟩
  ·refine Ao (As Ac rfl (qf BD rfl (ql Bi rfl (AZ AG rfl (qa rfl (Ad (Ap ?_)))))))
   refine AU h (fun v7 => mk [(2, oD (.ptr 2 0)), (3, oD (.ptr 3 0)), (45, bD v7)] [(2, .box (Al p0)), (3, .box (Bt p1))]) (fun j7 h => ?_) (fun v7 h => ?_)
   ·refine Aj Ac rfl (qf Em rfl (ql CP rfl (A0 rfl (qm rfl ?_))))
    refine E1 29 h rfl (fun h => ?_) fun h => ?_
    ·refine qn rfl (qn rfl (qn rfl (qn rfl (qp rfl (qm rfl (qn rfl (qn rfl (qn rfl (qp rfl (qm rfl (qn rfl (qn rfl (qn rfl (qn rfl (qp rfl (Ad ?_))))))))))))))))
     exact sn [] h
    ·refine qf Em rfl (ql CP rfl (qm rfl (Ee rfl (qp rfl (qm rfl ?_)))))
     refine E1 35 h rfl (fun h => ?_) fun h => ?_
     ·refine qn rfl (qn rfl (qn rfl (qp rfl (qm rfl (qn rfl (qn rfl (qn rfl (qn rfl (qp rfl (Ad ?_))))))))))
      exact sn [] h
     ·refine qf JL rfl (ql CP rfl (A0 rfl (qp rfl (qm rfl ?_))))
      refine E1 40 h rfl (fun h => ?_) fun h => ?_
      ·refine qn rfl (qn rfl (qn rfl (qn rfl (qp rfl (Ad ?_)))))
       exact sn [] h
      ·refine qf JL rfl (ql CP rfl (qm rfl (Ee rfl (qp rfl (Ad ?_)))))
       exact sn [] h
   ·refine Bd h rfl (fun h => ?_) fun h => ?_
    ·refine As Ac rfl (qa rfl (Ad ?_))
     obtain rfl := sj h
     refine Ak (sm [] [(4, iD 4)] [] rfl rfl) (Ax ?_)
     exact ⟨⟨[_], ⟨.tmp _ _ rfl, tv⟩, rfl⟩, tv⟩
    ·refine Ao (Ap (As Ac rfl (qf Fj rfl (ql HA rfl (qf BD rfl (ql Bi rfl (qf Em rfl (ql CP rfl ?_))))))))
     obtain ⟨v12, a12, b12, h⟩ := Ah h
     refine qi AG En a12 (Af b12) rfl (qk CP rfl (qf BD rfl (ql Bi rfl (qf JL rfl (ql CP rfl ?_)))))
     obtain ⟨v13, a13, b13, h⟩ := Ah h
     refine qi AG En a13 (Af b13) rfl (qk CP rfl ?_)
     obtain ⟨v14, a14, h⟩ := bind_some h
     refine AF [] (Jm N p1.fj v12 v13 v14 a14) ct rfl (CQ rfl (AJ (by kernel_rfl) ?_))
     refine Bd h rfl (fun h => ?_) fun h => ?_
     ·refine As Ac rfl (qa rfl (Ad ?_))
      obtain rfl := sj h
      refine Ak (sm [] [(4, iD 6)] [] rfl rfl) (Ax ?_)
      exact ⟨⟨[_], ⟨.tmp _ _ rfl, tv⟩, rfl⟩, tv⟩
     ·refine Ao (Ap (As Ac rfl (qf Hz rfl (ql CP rfl (CU rfl (Ad ?_))))))
      refine Bd h rfl (fun h => ?_) fun h => ?_
      ·refine Ap (As Ac rfl (qf Fh rfl (ql HA rfl (AZ D4 rfl (CU rfl (Ad ?_))))))
       refine Bd h rfl (fun h => ?_) fun h => ?_
       ·refine As Ac rfl (qa rfl (Ad ?_))
        obtain rfl := sj h
        refine Ak (sm [] [(4, iD 6)] [] rfl rfl) (Ax ?_)
        exact ⟨⟨[_], ⟨.tmp _ _ rfl, tv⟩, rfl⟩, tv⟩
       ·refine Ao (As Ac rfl (qa rfl (Ad ?_)))
        obtain rfl := sj h
        refine Ak (sm [] [(4, iD 0)] [] rfl rfl) (Ax ?_)
        exact ⟨⟨[_], ⟨.tmp _ _ rfl, tv⟩, rfl⟩, tv⟩
      ·refine Ao (Ap (As Ac rfl (qf Fh rfl (ql HA rfl (qf BD rfl (ql Bi rfl (qf Em rfl (ql CP rfl ?_))))))))
       obtain ⟨v18, a18, b18, h⟩ := Ah h
       refine qi AG En a18 (Af b18) rfl (qk CP rfl (qf BD rfl (ql Bi rfl (qf Em rfl (ql CP rfl ?_)))))
       obtain ⟨v19, a19, b19, h⟩ := Ah h
       refine qi AG En a19 (Af b19) rfl (qk CP rfl ?_)
       obtain ⟨v20, a20, h⟩ := bind_some h
       refine AF [] (Jm N p1.fm v18 v19 v20 a20) ct rfl (CQ rfl (AJ (by kernel_rfl) ?_))
       refine Bd h rfl (fun h => ?_) fun h => ?_
       ·refine As Ac rfl (qa rfl (Ad ?_))
        obtain rfl := sj h
        refine Ak (sm [] [(4, iD 6)] [] rfl rfl) (Ax ?_)
        exact ⟨⟨[_], ⟨.tmp _ _ rfl, tv⟩, rfl⟩, tv⟩
       ·refine Ao (Ap (As Ac rfl (qa rfl (Ad ?_))))
        refine AB (L := Cx N p1) h (fun v22 => mk [(3, oD (.ptr 3 0)), (6, iD v22)] [(3, .box (Bt p1))]) (fun v23 => mk [] []) (fun _ _ => rfl) (sm [] _ _ rfl rfl) (fun j22 n22 v22 h => ?_) (fun v23 s h hs => ?_)
        ·unfold Cx at h
         refine Ap (As Ac rfl (qm rfl (qf Fh rfl (ql HA rfl (AZ D4 rfl (A0 rfl (Ad ?_)))))))
         refine Bd h rfl (fun h => ?_) fun h => ?_
         ·refine Ao (Ap (AL (As Ac rfl (qf Fh rfl (ql HA rfl (qm rfl ?_))))))
          obtain ⟨v25, a25, b25, h⟩ := Ah h
          refine qi D4 IH a25 (Af b25) rfl (qk L9 rfl (qm rfl ?_))
          obtain ⟨v26, a26, b26, h⟩ := Ah h
          refine qi EZ MO a26 (Af b26) rfl (qk Uf rfl (CQ rfl (Ad ?_)))
          refine Bd h rfl (fun h => ?_) fun h => ?_
          ·refine As Ac rfl (qa rfl (Ad ?_))
           obtain rfl := sj h
           refine Ak (sm [] [(4, iD 1)] [] rfl rfl) (Ax ?_)
           exact ⟨⟨[_], ⟨.tmp _ _ rfl, tv⟩, rfl⟩, tv⟩
          ·refine Ao (Aj Ac rfl (qm rfl (AW rfl (qa rfl (Ad ?_)))))
           exact sn [] h
         ·refine AV ?_
          exact sn [] h
        ·refine Ak hs (As Ac rfl (qa rfl (Ad ?_)))
         obtain rfl := sj h
         refine Ak (sm [] [(4, iD 0)] [] rfl rfl) (Ax ?_)
         exact ⟨⟨[_], ⟨.tmp _ _ rfl, tv⟩, rfl⟩, tv⟩
theorem HP (N : Nat) (p0 : Ae) (r : Int) (h : Dc N p0 = some r) : Ay Tryz.prog 31 [.e (.agg (Al p0))] [] (iD r) := by
 unfold Dc at h
 refine An (n := 102) (rs := [.tmp 2]) Tryz.func31 rfl rfl rfl (A2 rfl) (A2 rfl) rfl fun w0 S0 => ?_
 refine As Ac rfl (qb rfl (qa rfl (Ad (Ap ?_))))
 refine AU h (fun v1 => mk [(1, oD (.ptr 1 0)), (16, bD v1)] [(1, .box (Al p0))]) (fun j1 h => ?_) (fun v1 h => ?_)
 ·refine Aj Ac rfl (qf BD rfl (ql Bi rfl (AZ AG rfl (Gt rfl (qm rfl ?_)))))
  refine E1 11 h rfl (fun h => ?_) fun h => ?_
  ·refine qn rfl (qn rfl (qn rfl (qn rfl (qp rfl (Ad ?_)))))
   exact sn [] h
  ·refine qf BG rfl (ql Gy rfl (AZ C6 rfl (Gt rfl (qp rfl (Ad ?_)))))
   exact sn [] h
 ·refine Bd h rfl (fun h => ?_) fun h => ?_
  ·refine As Ac rfl (qa rfl (Ad ?_))
   obtain rfl := sj h
   refine Ak (sm [] [(2, iD 3)] [] rfl rfl) (Ax ?_)
   exact ⟨⟨[_], ⟨.tmp _ _ rfl, tv⟩, rfl⟩, tv⟩
  ·refine Ao (Ap ?_)
   refine AU h (fun v4 => mk [(1, oD (.ptr 1 0)), (32, bD v4)] [(1, .box (Al p0))]) (fun j4 h => ?_) (fun v4 h => ?_)
   ·refine Aj Ac rfl (qf Hy rfl (ql Bi rfl (AZ AG rfl (qf BD rfl (ql Bi rfl (AZ AG rfl (CU rfl (qm rfl ?_))))))))
    refine E1 24 h rfl (fun h => ?_) fun h => ?_
    ·refine qn rfl (qn rfl (qn rfl (qn rfl (qn rfl (qn rfl (qn rfl (qp rfl (Ad ?_))))))))
     exact sn [] h
    ·refine qf Ji rfl (ql Bi rfl (AZ AG rfl (qf BD rfl (ql Bi rfl (AZ AG rfl (CU rfl (qp rfl (Ad ?_))))))))
     exact sn [] h
   ·refine Bd h rfl (fun h => ?_) fun h => ?_
    ·refine As Ac rfl (qa rfl (Ad ?_))
     obtain rfl := sj h
     refine Ak (sm [] [(2, iD 6)] [] rfl rfl) (Ax ?_)
     exact ⟨⟨[_], ⟨.tmp _ _ rfl, tv⟩, rfl⟩, tv⟩
    ·refine Ao (Ap (As Ac rfl (qa rfl (Ad ?_))))
     refine AB (L := Bz N p0) h (fun v7 => mk [(1, oD (.ptr 1 0)), (3, iD v7)] [(1, .box (Al p0))]) (fun v8 => mk [(1, oD (.ptr 1 0))] [(1, .box (Al p0))]) (fun _ _ => rfl) (sm [] _ _ rfl rfl) (fun j7 n7 v7 h => ?_) (fun v8 s h hs => ?_)
     ·unfold Bz at h
      refine Ap (As Ac rfl (qm rfl (qf BD rfl (ql Bi rfl (AZ AG rfl (A0 rfl (Ad ?_)))))))
      refine Bd h rfl (fun h => ?_) fun h => ?_
      ·refine Ao (Ap (AL (As Ac rfl (qf BD rfl (ql Bi rfl (qm rfl ?_))))))
       obtain ⟨v10, a10, b10, h⟩ := Ah h
       refine qi AG En a10 (Af b10) rfl (qk CP rfl (qa rfl (Ad ?_)))
       refine AU h (fun v11 => mk [(1, oD (.ptr 1 0)), (3, iD v7), (84, bD v11)] [(1, .box (Al p0))]) (fun j11 h => ?_) (fun v11 h => ?_)
       ·refine Aj Ac rfl (qm rfl (A0 rfl (qm rfl ?_)))
        refine E1 47 h rfl (fun h => ?_) fun h => ?_
        ·refine qn rfl (qn rfl (qp rfl (qm rfl (qn rfl (qn rfl (qn rfl (qn rfl (qn rfl (qn rfl (qp rfl (qm rfl (qn rfl (qn rfl (qn rfl (qn rfl (qn rfl (qn rfl (qn rfl (qp rfl (qm rfl (qn rfl (qn rfl (qn rfl (qn rfl (qn rfl (qn rfl (qp rfl (qm rfl (qn rfl (qn rfl (qn rfl (qn rfl (qn rfl (qn rfl (qn rfl (qp rfl (Ad ?_)))))))))))))))))))))))))))))))))))))
         exact sn [] h
        ·refine qm rfl (Gt rfl (qp rfl (qm rfl ?_)))
         refine E1 51 h rfl (fun h => ?_) fun h => ?_
         ·refine qn rfl (qn rfl (qn rfl (qn rfl (qn rfl (qn rfl (qp rfl (qm rfl (qn rfl (qn rfl (qn rfl (qn rfl (qn rfl (qn rfl (qn rfl (qp rfl (qm rfl (qn rfl (qn rfl (qn rfl (qn rfl (qn rfl (qn rfl (qp rfl (qm rfl (qn rfl (qn rfl (qn rfl (qn rfl (qn rfl (qn rfl (qn rfl (qp rfl (Ad ?_)))))))))))))))))))))))))))))))))
          exact sn [] h
         ·refine qf Hy rfl (ql Bi rfl (qm rfl ?_))
          obtain ⟨v14, a14, b14, h⟩ := Ah h
          refine qi AG En a14 (Af b14) rfl (qk CP rfl (A0 rfl (qp rfl (qm rfl ?_))))
          refine E1 59 h rfl (fun h => ?_) fun h => ?_
          ·refine qn rfl (qn rfl (qn rfl (qn rfl (qn rfl (qn rfl (qn rfl (qp rfl (qm rfl (qn rfl (qn rfl (qn rfl (qn rfl (qn rfl (qn rfl (qp rfl (qm rfl (qn rfl (qn rfl (qn rfl (qn rfl (qn rfl (qn rfl (qn rfl (qp rfl (Ad ?_)))))))))))))))))))))))))
           exact sn [] h
          ·refine qf Hy rfl (ql Bi rfl (qm rfl ?_))
           obtain ⟨v16, a16, b16, h⟩ := Ah h
           refine qi AG En a16 (Af b16) rfl (qk CP rfl (qm rfl (Ee rfl (qp rfl (qm rfl ?_)))))
           refine E1 68 h rfl (fun h => ?_) fun h => ?_
           ·refine qn rfl (qn rfl (qn rfl (qn rfl (qn rfl (qn rfl (qp rfl (qm rfl (qn rfl (qn rfl (qn rfl (qn rfl (qn rfl (qn rfl (qn rfl (qp rfl (Ad ?_))))))))))))))))
            exact sn [] h
           ·refine qf Ji rfl (ql Bi rfl (qm rfl ?_))
            obtain ⟨v18, a18, b18, h⟩ := Ah h
            refine qi AG En a18 (Af b18) rfl (qk CP rfl (A0 rfl (qp rfl (qm rfl ?_))))
            refine E1 76 h rfl (fun h => ?_) fun h => ?_
            ·refine qn rfl (qn rfl (qn rfl (qn rfl (qn rfl (qn rfl (qn rfl (qp rfl (Ad ?_))))))))
             exact sn [] h
            ·refine qf Ji rfl (ql Bi rfl (qm rfl ?_))
             obtain ⟨v20, a20, b20, h⟩ := Ah h
             refine qi AG En a20 (Af b20) rfl (qk CP rfl (qm rfl (Ee rfl (qp rfl (Ad ?_)))))
             exact sn [] h
       ·refine Bd h rfl (fun h => ?_) fun h => ?_
        ·refine As Ac rfl (qa rfl (Ad ?_))
         obtain rfl := sj h
         refine Ak (sm [] [(2, iD 7)] [] rfl rfl) (Ax ?_)
         exact ⟨⟨[_], ⟨.tmp _ _ rfl, tv⟩, rfl⟩, tv⟩
        ·refine Ao (Aj Ac rfl (qm rfl (AW rfl (qa rfl (Ad ?_)))))
         exact sn [] h
      ·refine AV ?_
       exact sn [] h
     ·refine Ak hs (Ap (As Ac rfl (qa rfl (Ad ?_))))
      refine AB (L := Bo N p0) h (fun v22 => mk [(1, oD (.ptr 1 0)), (5, iD v22)] [(1, .box (Al p0))]) (fun v23 => mk [] []) (fun _ _ => rfl) (sm [] _ _ rfl rfl) (fun j22 n22 v22 h => ?_) (fun v23 s h hs => ?_)
      ·unfold Bo at h
       refine Ap (As Ac rfl (qm rfl (qf BG rfl (ql Gy rfl (AZ C6 rfl (A0 rfl (Ad ?_)))))))
       refine Bd h rfl (fun h => ?_) fun h => ?_
       ·refine Ao (Ap (AL (As Ac rfl (qL D0 CX rfl (qf BG rfl (ql Gy rfl (qm rfl ?_)))))))
        obtain ⟨v25, a25, b25, h⟩ := Ah h
        refine qi C6 Dq a25 (Af b25) rfl (qK HQ Dq rfl ?_)
        obtain ⟨v26, a26, h⟩ := bind_some h
        refine AF [] (Mw N p0 v25 v26 a26) eb rfl (qa rfl (AJ (by kernel_rfl) (As Ac rfl (qm rfl (CU rfl (Ad ?_))))))
        refine Bd h rfl (fun h => ?_) fun h => ?_
        ·refine As Ac rfl (qm rfl (qa rfl (Ad ?_)))
         obtain rfl := sj h
         refine Ak (sm [] [(2, iD v26)] [] rfl rfl) (Ax ?_)
         exact ⟨⟨[_], ⟨.tmp _ _ rfl, tv⟩, rfl⟩, tv⟩
        ·refine Ao (Aj Ac rfl (qm rfl (AW rfl (qa rfl (Ad ?_)))))
         exact sn [] h
       ·refine AV ?_
        exact sn [] h
      ·refine Ak hs (As Ac rfl (qa rfl (Ad ?_)))
       obtain rfl := sj h
       refine Ak (sm [] [(2, iD 0)] [] rfl rfl) (Ax ?_)
       exact ⟨⟨[_], ⟨.tmp _ _ rfl, tv⟩, rfl⟩, tv⟩
theorem Mz (N : Nat) (p0 : Ae) (r : Ag × Int) (h : FF N p0 = some r) : Ay Tryz.prog 78 [.e (.agg (Al p0))] [(1, r.1.fd.map Aw), (1, r.1.fa.map Aw), (1, r.1.fe.map EI)] (.tup [.agg [.own 0, .own 1, .own 2], .one (iC r.2)]) := by
 unfold FF at h
 refine An (n := 68) (rs := [.cell 2 64, .tmp 3]) Tryz.func78 rfl rfl rfl (A2 rfl) (A2 rfl) rfl fun w0 S0 => ?_
 refine As Ac rfl (qb rfl (qz Fx rfl (qa rfl (Ad (Ap (As Ac rfl (qL D0 CX rfl ?_)))))))
 obtain ⟨v1, a1, h⟩ := bind_some h
 refine AF [] (HP N p0 v1 a1) bE rfl (qa rfl (Ad (As Ac rfl (qm rfl (CU rfl (Ad ?_))))))
 refine Bd h rfl (fun h => ?_) fun h => ?_
 ·refine As Ac rfl (Bx Fx JK rfl (qm rfl (qs Bc rfl (qa rfl (Ad ?_)))))
  obtain rfl := sj h
  refine Ak ((AA 2 0 2001 1 _ rfl rfl rfl rfl).trans ((AA 2 1 2002 1 _ rfl rfl rfl rfl).trans ((AA 2 2 2003 1 _ rfl rfl rfl rfl).trans (sm [(1000, 2001), (1001, 2002), (1002, 2003)] [(2, oD (.ptr 2 0)), (3, iD v1)] [(2, .box [.own 1000, .own 1001, .own 1002]), (1000, .vec 1 ((([] : List Int)).map Aw)), (1001, .vec 1 ((([] : List Int)).map Aw)), (1002, .vec 1 ((([] : List Int)).map EI))] rfl rfl)))) (Ax ?_)
  exact ⟨⟨[_, _], ⟨.cellN _ _ _ _ _ _ _ rfl rfl CF Bc rfl rfl (Kj rfl), ⟨.tmp _ _ rfl, tv⟩⟩, rfl⟩, ⟨rfl, rfl, rfl, tv⟩⟩
 ·refine Ao (As Ac rfl (qz Fx rfl (Ad (Ap (As Ac rfl (qa rfl (Ad ?_)))))))
  refine AB (L := CL N p0) h (fun v3 => mk [(1, oD (.ptr 1 0)), (2, oD (.ptr 2 0)), (5, oD (.ptr 5 0)), (6, iD v3.2.2)] [(1, .box (Al p0)), (2, .box [.pure (.nil0), .pure (.nil0), .pure (.nil0)]), (5, .box [.own 2004, .own 2005, .pure (.nil0)]), (2004, .vec 1 (v3.1.map Aw)), (2005, .vec 1 (v3.2.1.map Aw))]) (fun v4 => mk [(1, oD (.ptr 1 0)), (2, oD (.ptr 2 0)), (5, oD (.ptr 5 0))] [(1, .box (Al p0)), (2, .box [.pure (.nil0), .pure (.nil0), .pure (.nil0)]), (5, .box [.own 2006, .own 2007, .pure (.nil0)]), (2006, .vec 1 (v4.1.map Aw)), (2007, .vec 1 (v4.2.map Aw))]) (fun _ _ => rfl) ((AA 5 0 2008 1 _ rfl rfl rfl rfl).trans ((AA 5 1 2009 1 _ rfl rfl rfl rfl).trans (sm [(2004, 2008), (2005, 2009)] _ _ rfl rfl))) (fun j3 n3 v3 h => ?_) (fun v4 s h hs => ?_)
  ·unfold CL at h
   refine Ap (As Ac rfl (qm rfl (qf BD rfl (ql Bi rfl (AZ AG rfl (A0 rfl (Ad ?_)))))))
   refine Bd h rfl (fun h => ?_) fun h => ?_
   ·refine Ao (Ap (AL (As Ac rfl (qf DY rfl (ql Bi rfl (qf Hy rfl (ql Bi rfl (qm rfl ?_))))))))
    obtain ⟨v6, a6, b6, h⟩ := Ah h
    refine qi AG En a6 (Af b6) rfl (qk CP rfl (E2 AG En Lb rfl ?_))
    obtain ⟨c7, h⟩ := AD h
    refine ED (f := Aw) AG AG En L7 Lb c7 rfl (qf DY rfl (qs Wj rfl (AJ (by kernel_rfl) (Aj Ac rfl (qf B8 rfl (ql Bi rfl (E2 AG En Lb rfl ?_)))))))
    obtain ⟨c8, h⟩ := AD h
    refine ED (f := Aw) AG AG En L7 Lb c8 rfl (qf B8 rfl (qs Wj rfl (Ad (Aj Ac rfl (qm rfl (AW rfl (qa rfl (Ad ?_))))))))
    exact sn [(2004, 30), (2005, 35)] h
   ·refine AV ?_
    exact sn [(2006, 2004), (2007, 2005)] h
  ·refine Ak hs (Ap (As Ac rfl (qa rfl (Ad ?_))))
   refine AB (L := By N p0) h (fun v9 => mk [(1, oD (.ptr 1 0)), (2, oD (.ptr 2 0)), (5, oD (.ptr 5 0)), (7, iD v9.2)] [(1, .box (Al p0)), (2, .box [.pure (.nil0), .pure (.nil0), .pure (.nil0)]), (5, .box [.own 2010, .own 2011, .own 2012]), (2010, .vec 1 (v4.1.map Aw)), (2011, .vec 1 (v4.2.map Aw)), (2012, .vec 1 (v9.1.map EI))]) (fun v10 => mk [(2, oD (.ptr 2 0)), (5, oD (.ptr 5 0))] [(2, .box [.pure (.nil0), .pure (.nil0), .pure (.nil0)]), (5, .box [.own 2013, .own 2014, .own 2015]), (2013, .vec 1 (v4.1.map Aw)), (2014, .vec 1 (v4.2.map Aw)), (2015, .vec 1 (v10.map EI))]) (fun _ _ => rfl) ((AA 5 2 2019 1 _ rfl rfl rfl rfl).trans (sm [(2010, 2006), (2011, 2007), (2012, 2019)] _ _ rfl rfl)) (fun j9 n9 v9 h => ?_) (fun v10 s h hs => ?_)
   ·unfold By at h
    refine Ap (As Ac rfl (qm rfl (qf BG rfl (ql Gy rfl (AZ C6 rfl (A0 rfl (Ad ?_)))))))
    refine Bd h rfl (fun h => ?_) fun h => ?_
    ·refine Ao (Ap (AL (As Ac rfl (qa rfl (Ad ?_)))))
     refine AU h (fun v12 => mk [(1, oD (.ptr 1 0)), (2, oD (.ptr 2 0)), (5, oD (.ptr 5 0)), (7, iD v9.2), (8, pD (.val (.int .u8 v12)))] [(1, .box (Al p0)), (2, .box [.pure (.nil0), .pure (.nil0), .pure (.nil0)]), (5, .box [.own 2016, .own 2017, .own 2018]), (2016, .vec 1 (v4.1.map Aw)), (2017, .vec 1 (v4.2.map Aw)), (2018, .vec 1 (v9.1.map EI))]) (fun j12 h => ?_) (fun v12 h => ?_)
     ·refine As Ac rfl (qf BG rfl (ql Gy rfl (qm rfl ?_)))
      obtain ⟨v13, a13, b13, h⟩ := Ah h
      refine qi C6 Dq a13 (Af b13) rfl (qK HQ Dq rfl ?_)
      obtain ⟨v14, a14, h⟩ := bind_some h
      refine AF [] (CW N v13 v14 a14) Sp rfl (Ad ?_)
      refine Bd h rfl (fun h => ?_) fun h => ?_
      ·refine Aj Ac rfl (qf Hy rfl (ql Bi rfl (qf BG rfl (ql Gy rfl (qm rfl ?_)))))
       obtain ⟨v16, a16, b16, h⟩ := Ah h
       refine qi C6 Dq a16 (Af b16) rfl (qg Em rfl (qk CP rfl ?_))
       obtain ⟨v17, a17, b17, h⟩ := Ah h
       refine qi AG En a17 (Af b17) rfl (qk CP rfl ?_)
       obtain ⟨c18, h⟩ := AD h
       refine Jr rfl c18 (qa rfl (AJ (by kernel_rfl) ?_))
       exact sn [(2016, 2010), (2017, 2011), (2018, 2012)] h
      ·refine Ao ?_
       exact sn [(2016, 2010), (2017, 2011), (2018, 2012)] h
     ·refine Aj Ac rfl (qf DF rfl (ql II rfl (qm rfl (E2 EO HB Sk rfl ?_))))
      obtain ⟨c19, h⟩ := AD h
      refine ED (f := EI) EO EO HB Uo Sk c19 rfl (qf DF rfl (qs di rfl (Ad (Aj Ac rfl (qm rfl (AW rfl (qa rfl (Ad ?_))))))))
      exact sn [(2010, 2016), (2011, 2017), (2012, 65)] h
    ·refine AV ?_
     exact sn [(2013, 2010), (2014, 2011), (2015, 2012)] h
   ·refine Ak hs (As Ac rfl (qL CF Bc rfl (qs Bc rfl (qa rfl (Ad ?_)))))
    obtain rfl := sj h
    refine Ak (sm [(1000, 2013), (1001, 2014), (1002, 2015)] [(2, oD (.ptr 2 0)), (3, iD 0)] [(2, .box [.own 1000, .own 1001, .own 1002]), (1000, .vec 1 (v4.1.map Aw)), (1001, .vec 1 (v4.2.map Aw)), (1002, .vec 1 (v10.map EI))] rfl rfl) (Ax ?_)
    exact ⟨⟨[_, _], ⟨.cellN _ _ _ _ _ _ _ rfl rfl CF Bc rfl rfl (Kj rfl), ⟨.tmp _ _ rfl, tv⟩⟩, rfl⟩, ⟨rfl, rfl, rfl, tv⟩⟩
theorem Mi (N : Nat) (p0 : Ag) (r : Ag) (h : Fr N p0 = some r) : Ay Tryz.prog 144 [.e (.agg (AR p0))] [(1, r.fd.map Aw), (1, r.fa.map Aw), (1, r.fe.map EI)] (.e (.agg [.own 0, .own 1, .own 2])) := by
 unfold Fr at h
 refine An (n := 16) (rs := [.cell 2 64]) Tryz.func144 rfl rfl rfl (A2 rfl) (A2 rfl) rfl fun w0 S0 => ?_
 refine As Ac rfl (qb rfl (qz Fx rfl (Ad (As Ac rfl (E2 AG En Lb rfl (qf DY rfl (ql Bi rfl ?_)))))))
 obtain ⟨c1, h⟩ := AD h
 refine HM (f := Aw) AG AG En L7 Lb (fun _ => rfl) c1 rfl (E2 AG En Lb rfl (qf B8 rfl (ql Bi rfl ?_)))
 obtain ⟨c2, h⟩ := AD h
 refine HM (f := Aw) AG AG En L7 Lb (fun _ => rfl) c2 rfl (E2 EO HB Sk rfl (qf DF rfl (ql II rfl ?_)))
 obtain ⟨c3, h⟩ := AD h
 refine HM (f := EI) EO EO HB Uo Sk (fun _ => rfl) c3 rfl (Bx Fx JK rfl (qs Bc rfl (AJ (by kernel_rfl) ?_)))
 obtain rfl := sj h
 refine Ak (sm [(1000, 6), (1001, 10), (1002, 14)] [(2, oD (.ptr 2 0))] [(2, .box [.own 1000, .own 1001, .own 1002]), (1000, .vec 1 (((([] : List Int)) ++ p0.fd).map Aw)), (1001, .vec 1 (((([] : List Int)) ++ p0.fa).map Aw)), (1002, .vec 1 (((([] : List Int)) ++ p0.fe).map EI))] rfl rfl) (Ax ?_)
 exact ⟨⟨[_], ⟨.cellN _ _ _ _ _ _ _ rfl rfl CF Bc rfl rfl (Kj rfl), tv⟩, rfl⟩, ⟨rfl, rfl, rfl, tv⟩⟩
theorem N6 (N : Nat) (p0 : Ag) (r : (List Ag)) (h : Fs N p0 = some r) : Ay Tryz.prog 117 [.e (.agg (AR p0))] [(3, r.map FT)] (oD (.own 0)) := by
 unfold Fs at h
 refine An (n := 62) (rs := [.tmp 2]) Tryz.func117 rfl rfl rfl (A2 rfl) (A2 rfl) rfl fun w0 S0 => ?_
 refine As Ac rfl (qb rfl (qa rfl (Ad (As Ac rfl (qa rfl (Ad (Ap (As Ac rfl (qa rfl (Ad ?_))))))))))
 refine AB (L := Df N p0) h (fun v1 => mk [(1, oD (.ptr 1 0)), (3, iD v1.1), (4, iD v1.2)] [(1, .box (AR p0))]) (fun v2 => mk [(1, oD (.ptr 1 0)), (3, iD v2)] [(1, .box (AR p0))]) (fun _ _ => rfl) (sm [] _ _ rfl rfl) (fun j1 n1 v1 h => ?_) (fun v2 s h hs => ?_)
 ·unfold Df at h
  refine Ap (As Ac rfl (qm rfl (qf B8 rfl (ql Bi rfl (AZ AG rfl (A0 rfl (Ad ?_)))))))
  refine Bd h rfl (fun h => ?_) fun h => ?_
  ·refine Ao ?_
   refine AU h (fun v4 => mk [(1, oD (.ptr 1 0)), (3, iD v4), (4, iD v1.2)] [(1, .box (AR p0))]) (fun j4 h => ?_) (fun v4 h => ?_)
   ·refine AL (As Ac rfl (qf B8 rfl (ql Bi rfl (qm rfl ?_))))
    obtain ⟨v5, a5, b5, h⟩ := Ah h
    refine qi AG En a5 (Af b5) rfl (qk CP rfl (Ee rfl (Ad ?_)))
    refine Bd h rfl (fun h => ?_) fun h => ?_
    ·refine Aj Ac rfl (qm rfl (AW rfl (qa rfl (Ad ?_))))
     exact sn [] h
    ·refine Ao ?_
     exact sn [] h
   ·refine Aj Ac rfl (qm rfl (AW rfl (qa rfl (Ad ?_))))
    exact sn [] h
  ·refine AV ?_
   exact sn [] h
 ·refine Ak hs (As Ac rfl (qa rfl (Ad (Ap (As Ac rfl (qa rfl (Ad ?_)))))))
  refine AB (L := BP N p0 v2) h (fun v7 => mk [(1, oD (.ptr 1 0)), (3, iD v2), (5, oD (.own 2001)), (6, iD v7.2)] [(1, .box (AR p0)), (2001, .vec 3 (v7.1.map FT))]) (fun v8 => mk [(5, oD (.own 2002))] [(2002, .vec 3 (v8.map FT))]) (fun _ _ => rfl) ((Bl 5 2022 3 rfl rfl rfl).trans (sm [(2001, 2022)] _ _ rfl rfl)) (fun j7 n7 v7 h => ?_) (fun v8 s h hs => ?_)
  ·unfold BP at h
   refine Ap (As Ac rfl (qm rfl (qm rfl ?_)))
   obtain ⟨c9, h⟩ := AD h
   refine Jr rfl c9 (A0 rfl (Ad ?_))
   refine Bd h rfl (fun h => ?_) fun h => ?_
   ·refine Ao (Ap (AL (As Ac rfl (qL CF Bc rfl ?_))))
    obtain ⟨v11, a11, h⟩ := bind_some h
    refine AF [2003, 2004, 2005] (Mi N p0 v11 a11) bp rfl (qz Fx rfl (qs Bc rfl (Ad (As Ac rfl (qa rfl (Ad (Ap (As Ac rfl (qa rfl (Ad ?_))))))))))
    refine AB (L := Cp N p0 v7) h (fun v12 => mk [(1, oD (.ptr 1 0)), (3, iD v2), (5, oD (.own 2009)), (6, iD v7.2), (7, oD (.ptr 7 0)), (8, iD v12.2.1), (9, iD v12.2.2)] [(1, .box (AR p0)), (7, .box [.own 2006, .own 2007, .own 2008]), (2006, .vec 1 (v11.fd.map Aw)), (2007, .vec 1 (v12.1.map Aw)), (2008, .vec 1 (v11.fe.map EI)), (2009, .vec 3 (v7.1.map FT))]) (fun v13 => mk [(1, oD (.ptr 1 0)), (3, iD v2), (5, oD (.own 2013)), (6, iD v7.2), (7, oD (.ptr 7 0))] [(1, .box (AR p0)), (7, .box [.own 2010, .own 2011, .own 2012]), (2010, .vec 1 (v11.fd.map Aw)), (2011, .vec 1 (v13.map Aw)), (2012, .vec 1 (v11.fe.map EI)), (2013, .vec 3 (v7.1.map FT))]) (fun _ _ => rfl) (sm [(2006, 2003), (2007, 2004), (2008, 2005), (2009, 2001)] _ _ rfl rfl) (fun j12 n12 v12 h => ?_) (fun v13 s h hs => ?_)
    ·unfold Cp at h
     refine Ap (As Ac rfl (qm rfl (qf B8 rfl (ql Bi rfl (AZ AG rfl (A0 rfl (Ad ?_)))))))
     refine Bd h rfl (fun h => ?_) fun h => ?_
     ·refine Ao ?_
      refine AU h (fun v15 => mk [(1, oD (.ptr 1 0)), (3, iD v2), (5, oD (.own 2017)), (6, iD v7.2), (7, oD (.ptr 7 0)), (8, iD v15.2), (9, iD v12.2.2)] [(1, .box (AR p0)), (7, .box [.own 2014, .own 2015, .own 2016]), (2014, .vec 1 (v11.fd.map Aw)), (2015, .vec 1 (v15.1.map Aw)), (2016, .vec 1 (v11.fe.map EI)), (2017, .vec 3 (v7.1.map FT))]) (fun j15 h => ?_) (fun v15 h => ?_)
      ·refine AL (Ap (As Ac rfl (qf B8 rfl (ql Bi rfl (qm rfl ?_)))))
       obtain ⟨v16, a16, b16, h⟩ := Ah h
       refine qi AG En a16 (Af b16) rfl (qk CP rfl (A0 rfl (Ad ?_)))
       refine Bd h rfl (fun h => ?_) fun h => ?_
       ·refine AV ?_
        exact sn [(2014, 2006), (2015, 2007), (2016, 2008), (2017, 2009)] h
       ·refine Ao ?_
        refine AU h (fun v18 => mk [(1, oD (.ptr 1 0)), (3, iD v2), (5, oD (.own 2021)), (6, iD v7.2), (7, oD (.ptr 7 0)), (8, iD v12.2.1), (9, iD v12.2.2)] [(1, .box (AR p0)), (7, .box [.own 2018, .own 2019, .own 2020]), (2018, .vec 1 (v11.fd.map Aw)), (2019, .vec 1 (v18.map Aw)), (2020, .vec 1 (v11.fe.map EI)), (2021, .vec 3 (v7.1.map FT))]) (fun j18 h => ?_) (fun v18 h => ?_)
        ·refine As Ac rfl (qm rfl (qm rfl ?_))
         obtain ⟨c19, h⟩ := AD h
         refine IK rfl c19 (NA rfl (by decide) (B5 rfl (Ad ?_)))
         refine Bd h rfl (fun h => ?_) fun h => ?_
         ·refine Aj Ac rfl (qf B8 rfl (ql Bi rfl (qm rfl ?_)))
          obtain ⟨v21, a21, b21, h⟩ := Ah h
          refine qI AG En a21 (Af b21) rfl ?_
          refine A9 rfl rfl rfl rfl (Af b21) rfl En rfl (A2 rfl) (A6 Aw v12.1 _ ((-1))) ?_
          refine Ad ?_
          exact sn [(2018, 2006), (2019, 2007), (2020, 2008), (2021, 2009)] h
         ·refine Ao ?_
          exact sn [(2018, 2006), (2019, 2007), (2020, 2008), (2021, 2009)] h
        ·refine Aj Ac rfl (qm rfl (AW rfl (qa rfl (Ad ?_))))
         exact sn [(2014, 2018), (2015, 2019), (2016, 2020), (2017, 2021)] h
      ·refine Aj Ac rfl (qm rfl (AW rfl (qa rfl (Ad ?_))))
       exact sn [(2006, 2014), (2007, 2015), (2008, 2016), (2009, 2017)] h
     ·refine AV ?_
      exact sn [(2010, 2006), (2011, 2007), (2012, 2008), (2013, 2009)] h
    ·refine Ak hs (Aj Ac rfl (qm rfl (qL CF Bc rfl (E0 (BX 2010 _ _ rfl rfl) (E0 (BX 2011 _ _ rfl rfl) (E0 (BX 2012 _ _ rfl rfl) (E2 KS Bc Fx rfl ?_)))))))
     obtain ⟨c22, h⟩ := AD h
     refine ED (f := FT) KS KS Bc ZJ Fx c22 rfl (qa rfl (Ad (Aj Ac rfl (qm rfl (AW rfl (qa rfl (Ad ?_)))))))
     exact sn [(2001, 60)] h
   ·refine AV ?_
    exact sn [(2002, 2001)] h
  ·refine Ak hs (As Ac rfl (qm rfl (qa rfl (Ad ?_))))
   obtain rfl := sj h
   refine Ak (sm [(1000, 2002)] [(2, oD (.own 1000))] [(1000, .vec 3 (v8.map FT))] rfl rfl) (Ax ?_)
   exact ⟨⟨[_], ⟨.tmp _ _ rfl, tv⟩, rfl⟩, ⟨rfl, tv⟩⟩
theorem Fp (N : Nat) (p0 : Ag) (p1 : Int) (r : Int) (h : Cr N p0 p1 = some r) : Ay Tryz.prog 142 [.e (.agg (AR p0)), iD p1] [] (pD (.val (.int .u8 r))) := by
 unfold Cr at h
 refine An (n := 27) (rs := [.tmp 4]) Tryz.func142 rfl rfl rfl (A2 rfl) (A2 rfl) rfl fun w0 S0 => ?_
 refine As Ac rfl (qb rfl (qa rfl (Ad (As Ac rfl (qf DY rfl (ql Bi rfl (qm rfl ?_)))))))
 obtain ⟨v1, a1, b1, h⟩ := Ah h
 refine qi AG En a1 (Af b1) rfl (qk CP rfl ?_)
 obtain ⟨c2, h⟩ := AD h
 refine Jr rfl c2 (qa rfl (Ad ?_))
 refine AU h (fun v3 => mk [(5, pD (.val (.int .u8 v3)))] []) (fun j3 h => ?_) (fun v3 h => ?_)
 ·refine As Ac rfl (qf B8 rfl (ql Bi rfl (qm rfl ?_)))
  obtain ⟨v4, a4, b4, h⟩ := Ah h
  refine qi AG En a4 (Af b4) rfl (qk CP rfl (Ee rfl (Ad ?_)))
  refine Bd h rfl (fun h => ?_) fun h => ?_
  ·refine Aj Ac rfl (qm rfl (qf B8 rfl (ql Bi rfl (qm rfl ?_))))
   obtain ⟨v6, a6, b6, h⟩ := Ah h
   refine qi AG En a6 (Af b6) rfl (qk CP rfl ?_)
   obtain ⟨c7, h⟩ := AD h
   refine Jr rfl c7 (XL rfl (qa rfl (Ad ?_)))
   exact sn [] h
  ·refine Ao ?_
   exact sn [] h
 ·refine As Ac rfl (qm rfl (qa rfl (Ad ?_)))
  obtain rfl := sj h
  refine Ak (sm [] [(4, pD (.val (.int .u8 v3)))] [] rfl rfl) (Ax ?_)
  exact ⟨⟨[_], ⟨.tmp _ _ rfl, tv⟩, rfl⟩, tv⟩
theorem Hu (N : Nat) (p0 : Int) (p1 : Int) (r : Bool) (h : C9 N p0 p1 = some r) : Ay Tryz.prog 143 [pD (.val (.int .u8 p0)), iD p1] [] (bD r) := by
 unfold C9 at h
 refine An (n := 10) (rs := [.tmp 4]) Tryz.func143 rfl rfl rfl (A2 rfl) (A2 rfl) rfl fun w0 S0 => ?_
 refine As Ac rfl (qa rfl (Ad (As Ac rfl (qm rfl (qm rfl ?_)))))
 obtain ⟨c1, h⟩ := AD h
 refine IK rfl c1 (Nz rfl (B5 rfl (qa rfl (Ad ?_))))
 obtain rfl := sj h
 refine Ak (sm [] [(4, bD (((Hr .u8 ((FE .u8 p0 p1)) 1) == 1)))] [] rfl rfl) (Ax ?_)
 exact ⟨⟨[_], ⟨.tmp _ _ rfl, tv⟩, rfl⟩, tv⟩
theorem MH (N : Nat) (p0 : Ae) (p1 : Ag) (r : (List Aa)) (h : FC N p0 p1 = some r) : Ay Tryz.prog 116 [.e (.agg (Al p0)), .e (.agg (AR p1))] [(3, r.map Ab)] (oD (.own 0)) := by
 unfold FC at h
 refine An (n := 111) (rs := [.tmp 4]) Tryz.func116 rfl rfl rfl (A2 rfl) (A2 rfl) rfl fun w0 S0 => ?_
 refine As Ac rfl (qb rfl (qb rfl (qa rfl (Ad (As Ac rfl (qa rfl (Ad (Ap (As Ac rfl (qa rfl (Ad ?_)))))))))))
 refine AB (L := Do N p0 p1) h (fun v1 => mk [(2, oD (.ptr 2 0)), (3, oD (.ptr 3 0)), (5, oD (.own 2001)), (6, iD v1.2)] [(2, .box (Al p0)), (3, .box (AR p1)), (2001, .vec 3 (v1.1.map Ab))]) (fun v2 => mk [(5, oD (.own 2002))] [(2002, .vec 3 (v2.map Ab))]) (fun _ _ => rfl) ((Bl 5 2013 3 rfl rfl rfl).trans (sm [(2001, 2013)] _ _ rfl rfl)) (fun j1 n1 v1 h => ?_) (fun v2 s h hs => ?_)
 ·unfold Do at h
  refine Ap (As Ac rfl (qm rfl (qf BG rfl (ql Gy rfl (AZ C6 rfl (A0 rfl (Ad ?_)))))))
  refine Bd h rfl (fun h => ?_) fun h => ?_
  ·refine Ao (Ap (AL (As Ac rfl (qf BG rfl (ql Gy rfl (qm rfl ?_))))))
   obtain ⟨v4, a4, b4, h⟩ := Ah h
   refine qi C6 Dq a4 (Af b4) rfl (qK HQ Dq rfl (qz JO rfl (qs Dq rfl (Ad (As Ac rfl (qL CF Bc rfl (qf Em rfl (ql CP rfl ?_))))))))
   obtain ⟨v5, a5, h⟩ := bind_some h
   refine AF [] (Fp N p1 v4.fg v5 a5) Ta rfl (qa rfl (Ad ?_))
   refine AU h (fun v6 => mk [(2, oD (.ptr 2 0)), (3, oD (.ptr 3 0)), (5, oD (.own 2003)), (6, iD v1.2), (7, oD (.ptr 7 0)), (8, pD (.val (.int .u8 v6)))] [(2, .box (Al p0)), (3, .box (AR p1)), (7, .box (Bt v4)), (2003, .vec 3 (v1.1.map Ab))]) (fun j6 h => ?_) (fun v6 h => ?_)
   ·refine As Ac rfl (qL HQ Dq rfl ?_)
    obtain ⟨v7, a7, h⟩ := bind_some h
    refine AF [] (CW N v4 v7 a7) Sp rfl (Ad ?_)
    refine Bd h rfl (fun h => ?_) fun h => ?_
    ·refine Aj Ac rfl (qf DF rfl (ql II rfl (qm rfl ?_)))
     obtain ⟨v9, a9, b9, h⟩ := Ah h
     refine qi EO HB a9 (Af b9) rfl (qk LS rfl (qa rfl (Ad ?_)))
     exact sn [(2003, 2001)] h
    ·refine Ao ?_
     exact sn [(2003, 2001)] h
   ·refine As Ac rfl (qa rfl (Ad ?_))
    refine AB (L := B4 N p0 p1 v1 v4 v6) h (fun v10 => mk [(2, oD (.ptr 2 0)), (3, oD (.ptr 3 0)), (5, oD (.own 2004)), (6, iD v1.2), (7, oD (.ptr 7 0)), (8, pD (.val (.int .u8 v6))), (9, iD v10.2)] [(2, .box (Al p0)), (3, .box (AR p1)), (7, .box (Bt v4)), (2004, .vec 3 (v10.1.map Ab))]) (fun v11 => mk [(2, oD (.ptr 2 0)), (3, oD (.ptr 3 0)), (5, oD (.own 2005)), (6, iD v1.2)] [(2, .box (Al p0)), (3, .box (AR p1)), (2005, .vec 3 (v11.map Ab))]) (fun _ _ => rfl) (sm [(2004, 2003)] _ _ rfl rfl) (fun j10 n10 v10 h => ?_) (fun v11 s h hs => ?_)
    ·unfold B4 at h
     refine Ap (As Ac rfl (qm rfl (qf BD rfl (ql Bi rfl (qf Em rfl (ql CP rfl ?_))))))
     obtain ⟨v12, a12, b12, h⟩ := Ah h
     refine qi AG En a12 (Af b12) rfl (qk CP rfl (A0 rfl (Ad ?_)))
     refine Bd h rfl (fun h => ?_) fun h => ?_
     ·refine Ao ?_
      refine AU h (fun v14 => mk [(2, oD (.ptr 2 0)), (3, oD (.ptr 3 0)), (5, oD (.own 2006)), (6, iD v1.2), (7, oD (.ptr 7 0)), (8, pD (.val (.int .u8 v6))), (9, iD v10.2)] [(2, .box (Al p0)), (3, .box (AR p1)), (7, .box (Bt v4)), (2006, .vec 3 (v14.map Ab))]) (fun j14 h => ?_) (fun v14 h => ?_)
      ·refine AL (Ap (As Ac rfl (qm rfl (qm rfl ?_))))
       obtain ⟨v15, a15, h⟩ := bind_some h
       refine AF [] (Hu N v6 v10.2 v15 a15) VV rfl (CQ rfl (Ad ?_))
       refine Bd h rfl (fun h => ?_) fun h => ?_
       ·refine AV ?_
        exact sn [(2006, 2004)] h
       ·refine Ao (As Ac rfl (qa rfl (Ad (Ap (As Ac rfl (qa rfl (Ad ?_)))))))
        refine AB (L := BE N p0 p1 v1 v4 v10) h (fun v17 => mk [(2, oD (.ptr 2 0)), (3, oD (.ptr 3 0)), (5, oD (.own 2007)), (6, iD v1.2), (7, oD (.ptr 7 0)), (8, pD (.val (.int .u8 v6))), (9, iD v10.2), (10, bD v17.2.1), (11, iD v17.2.2)] [(2, .box (Al p0)), (3, .box (AR p1)), (7, .box (Bt v4)), (2007, .vec 3 (v17.1.map Ab))]) (fun v18 => mk [(2, oD (.ptr 2 0)), (3, oD (.ptr 3 0)), (5, oD (.own 2008)), (6, iD v1.2), (7, oD (.ptr 7 0)), (8, pD (.val (.int .u8 v6))), (9, iD v10.2), (10, bD v18.2)] [(2, .box (Al p0)), (3, .box (AR p1)), (7, .box (Bt v4)), (2008, .vec 3 (v18.1.map Ab))]) (fun _ _ => rfl) (sm [(2007, 2004)] _ _ rfl rfl) (fun j17 n17 v17 h => ?_) (fun v18 s h hs => ?_)
        ·unfold BE at h
         refine Ap (As Ac rfl (qm rfl (qf BD rfl (ql Bi rfl (qf JL rfl (ql CP rfl ?_))))))
         obtain ⟨v19, a19, b19, h⟩ := Ah h
         refine qi AG En a19 (Af b19) rfl (qk CP rfl (A0 rfl (Ad ?_)))
         refine Bd h rfl (fun h => ?_) fun h => ?_
         ·refine Ao ?_
          refine AU h (fun v21 => mk [(2, oD (.ptr 2 0)), (3, oD (.ptr 3 0)), (5, oD (.own 2009)), (6, iD v1.2), (7, oD (.ptr 7 0)), (8, pD (.val (.int .u8 v6))), (9, iD v10.2), (10, bD v21.2), (11, iD v17.2.2)] [(2, .box (Al p0)), (3, .box (AR p1)), (7, .box (Bt v4)), (2009, .vec 3 (v21.1.map Ab))]) (fun j21 h => ?_) (fun v21 h => ?_)
          ·refine AL (Ap (As Ac rfl (qL CF Bc rfl (qf JL rfl (ql CP rfl ?_)))))
           obtain ⟨v22, a22, h⟩ := bind_some h
           refine AF [] (Fp N p1 v4.fk v22 a22) Ta rfl (qm rfl ?_)
           obtain ⟨v23, a23, h⟩ := bind_some h
           refine AF [] (Hu N v22 v17.2.2 v23 a23) VV rfl (CQ rfl (Ad ?_))
           refine Bd h rfl (fun h => ?_) fun h => ?_
           ·refine AV ?_
            exact sn [(2009, 2007)] h
           ·refine Ao ?_
            refine AU h (fun v25 => mk [(2, oD (.ptr 2 0)), (3, oD (.ptr 3 0)), (5, oD (.own 2010)), (6, iD v1.2), (7, oD (.ptr 7 0)), (8, pD (.val (.int .u8 v6))), (9, iD v10.2), (10, bD v25), (11, iD v17.2.2)] [(2, .box (Al p0)), (3, .box (AR p1)), (7, .box (Bt v4)), (2010, .vec 3 (v17.1.map Ab))]) (fun j25 h => ?_) (fun v25 h => ?_)
            ·refine Aj Ac rfl (qm rfl (qm rfl ?_))
             refine E1 67 h rfl (fun h => ?_) fun h => ?_
             ·refine qn rfl (qn rfl (qn rfl (qn rfl (qn rfl (qn rfl (qn rfl (qn rfl (qp rfl (qa rfl (Ad ?_))))))))))
              exact sn [(2010, 2007)] h
             ·refine qf Fj rfl (ql HA rfl (qm rfl ?_))
              obtain ⟨v27, a27, b27, h⟩ := Ah h
              refine qi D4 IH a27 (Af b27) rfl (qk L9 rfl (qm rfl ?_))
              obtain ⟨v28, a28, b28, h⟩ := Ah h
              refine qi EZ MO a28 (Af b28) rfl (qk Uf rfl (qp rfl (qa rfl (Ad ?_))))
              exact sn [(2010, 2007)] h
            ·refine AU h (fun v29 => mk [(2, oD (.ptr 2 0)), (3, oD (.ptr 3 0)), (5, oD (.own 2011)), (6, iD v1.2), (7, oD (.ptr 7 0)), (8, pD (.val (.int .u8 v6))), (9, iD v10.2), (10, bD v25), (11, iD v17.2.2), (90, bD v29)] [(2, .box (Al p0)), (3, .box (AR p1)), (7, .box (Bt v4)), (2011, .vec 3 (v17.1.map Ab))]) (fun j29 h => ?_) (fun v29 h => ?_)
             ·refine Aj Ac rfl (qf KA rfl (ql Uf rfl (CQ rfl (qm rfl ?_))))
              refine E1 80 h rfl (fun h => ?_) fun h => ?_
              ·refine qf Fj rfl (ql HA rfl (qm rfl ?_))
               obtain ⟨v31, a31, b31, h⟩ := Ah h
               refine qi D4 IH a31 (Af b31) rfl (qk L9 rfl (qm rfl ?_))
               obtain ⟨v32, a32, b32, h⟩ := Ah h
               refine qi EZ MO a32 (Af b32) rfl (qk Uf rfl (CQ rfl (qp rfl (Ad ?_))))
               exact sn [(2011, 2010)] h
              ·refine qn rfl (qn rfl (qn rfl (qn rfl (qn rfl (qn rfl (qn rfl (qn rfl (qn rfl (qp rfl (Ad ?_))))))))))
               exact sn [(2011, 2010)] h
             ·refine Bd h rfl (fun h => ?_) fun h => ?_
              ·refine Aj Ac rfl (qm rfl (qm rfl (qm rfl (qm rfl (Bx HV QJ rfl (E2 AT AQ HV rfl ?_))))))
               obtain ⟨c34, h⟩ := AD h
               refine ED (f := Ab) AT AT AQ OQ HV c34 rfl (qa rfl (Ad ?_))
               exact sn [(2009, 97)] h
              ·refine Ao ?_
               exact sn [(2009, 2011)] h
          ·refine Aj Ac rfl (qm rfl (AW rfl (qa rfl (Ad ?_))))
           exact sn [(2007, 2009)] h
         ·refine AV ?_
          exact sn [(2008, 2007)] h
        ·refine Ak hs ?_
         refine AU h (fun v35 => mk [(2, oD (.ptr 2 0)), (3, oD (.ptr 3 0)), (5, oD (.own 2012)), (6, iD v1.2), (7, oD (.ptr 7 0)), (8, pD (.val (.int .u8 v6))), (9, iD v10.2), (103, bD v35)] [(2, .box (Al p0)), (3, .box (AR p1)), (7, .box (Bt v4)), (2012, .vec 3 (v18.1.map Ab))]) (fun j35 h => ?_) (fun v35 h => ?_)
         ·refine Aj Ac rfl (qf KA rfl (ql Uf rfl (qm rfl ?_)))
          refine E1 100 h rfl (fun h => ?_) fun h => ?_
          ·refine qm rfl (CQ rfl (qp rfl (Ad ?_)))
           exact sn [(2012, 2008)] h
          ·refine qn rfl (qn rfl (qp rfl (Ad ?_)))
           exact sn [(2012, 2008)] h
         ·refine Bd h rfl (fun h => ?_) fun h => ?_
          ·refine Aj Ac rfl (qm rfl (qm rfl (qm rfl (Bx HV QJ rfl (E2 AT AQ HV rfl ?_)))))
           obtain ⟨c38, h⟩ := AD h
           refine ED (f := Ab) AT AT AQ OQ HV c38 rfl (qa rfl (Ad ?_))
           exact sn [(2006, 109)] h
          ·refine Ao ?_
           exact sn [(2006, 2012)] h
      ·refine Aj Ac rfl (qm rfl (AW rfl (qa rfl (Ad ?_))))
       exact sn [(2004, 2006)] h
     ·refine AV ?_
      exact sn [(2005, 2004)] h
    ·refine Ak hs (Aj Ac rfl (qm rfl (AW rfl (qa rfl (Ad ?_)))))
     exact sn [(2001, 2005)] h
  ·refine AV ?_
   exact sn [(2002, 2001)] h
 ·refine Ak hs (As Ac rfl (qm rfl (qa rfl (Ad ?_))))
  obtain rfl := sj h
  refine Ak (sm [(1000, 2002)] [(4, oD (.own 1000))] [(1000, .vec 3 (v2.map Ab))] rfl rfl) (Ax ?_)
  exact ⟨⟨[_], ⟨.tmp _ _ rfl, tv⟩, rfl⟩, ⟨rfl, tv⟩⟩
theorem LP (N : Nat) (p0 : Ae) (p1 : Ag) (r : Bool) (h : Fk N p0 p1 = some r) : Ay Tryz.prog 118 [.e (.agg (Al p0)), .e (.agg (AR p1))] [] (bD r) := by
 unfold Fk at h
 refine An (n := 10) (rs := [.tmp 4]) Tryz.func118 rfl rfl rfl (A2 rfl) (A2 rfl) rfl fun w0 S0 => ?_
 refine As Ac rfl (qb rfl (qb rfl (qa rfl (Ad (As Ac rfl (qL D0 CX rfl (qL CF Bc rfl ?_)))))))
 obtain ⟨v1, a1, h⟩ := bind_some h
 refine AF [2001] (MH N p0 p1 v1 a1) bn rfl (D9 AT rfl (B5 rfl (qa rfl (Ad ?_))))
 obtain rfl := sj h
 refine Ak (sm [] [(4, bD (((v1.length : Int) == 0)))] [] rfl rfl) (Ax ?_)
 exact ⟨⟨[_], ⟨.tmp _ _ rfl, tv⟩, rfl⟩, tv⟩
theorem I5 (N : Nat) (p0 : Ae) (p1 : Ag) (r : Bool) (h : D3 N p0 p1 = some r) : Ay Tryz.prog 84 [.e (.agg (Al p0)), .e (.agg (AR p1))] [] (bD r) := by
 unfold D3 at h
 refine An (n := 22) (rs := [.tmp 4]) Tryz.func84 rfl rfl rfl (A2 rfl) (A2 rfl) rfl fun w0 S0 => ?_
 refine As Ac rfl (qb rfl (qb rfl (qa rfl (Ad (As Ac rfl (qL CF Bc rfl ?_))))))
 obtain ⟨v1, a1, h⟩ := bind_some h
 refine AF [2001] (N6 N p1 v1 a1) bb rfl (qa rfl (Ad (Ap (As Ac rfl (qa rfl (Ad ?_))))))
 refine AB (L := CE N p0 v1) h (fun v2 => mk [(2, oD (.ptr 2 0)), (5, oD (.own 2002)), (6, iD v2)] [(2, .box (Al p0)), (2002, .vec 3 (v1.map FT))]) (fun v3 => mk [] []) (fun _ _ => rfl) (sm [(2002, 2001)] _ _ rfl rfl) (fun j2 n2 v2 h => ?_) (fun v3 s h hs => ?_)
 ·unfold CE at h
  refine Ap (As Ac rfl (qm rfl (qm rfl (D9 KS rfl (A0 rfl (Ad ?_))))))
  refine Bd h rfl (fun h => ?_) fun h => ?_
  ·refine Ao (Ap (AL (As Ac rfl (qL D0 CX rfl (qm rfl (qm rfl ?_))))))
   obtain ⟨v5, a5, b5, h⟩ := Ah h
   refine qI KS Bc a5 (Af b5) rfl (qJ CF Bc (Af b5) rfl ?_)
   obtain ⟨v6, a6, h⟩ := bind_some h
   refine AF [] (LP N p0 v5 v6 a6) cZ rfl (CQ rfl (AJ (by kernel_rfl) ?_))
   refine Bd h rfl (fun h => ?_) fun h => ?_
   ·refine As Ac rfl (qa rfl (Ad ?_))
    obtain rfl := sj h
    refine Ak (sm [] [(4, bD false)] [] rfl rfl) (Ax ?_)
    exact ⟨⟨[_], ⟨.tmp _ _ rfl, tv⟩, rfl⟩, tv⟩
   ·refine Ao (Aj Ac rfl (qm rfl (AW rfl (qa rfl (Ad ?_)))))
    exact sn [] h
  ·refine AV ?_
   exact sn [] h
 ·refine Ak hs (As Ac rfl (qa rfl (Ad ?_)))
  obtain rfl := sj h
  refine Ak (sm [] [(4, bD true)] [] rfl rfl) (Ax ?_)
  exact ⟨⟨[_], ⟨.tmp _ _ rfl, tv⟩, rfl⟩, tv⟩
end Go.Lift
