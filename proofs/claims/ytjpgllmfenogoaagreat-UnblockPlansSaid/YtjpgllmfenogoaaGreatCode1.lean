/- Lemmas for UnblockPlansSaid, which YtjpgllmfenogoaaGreatFinU7 proves. -/
import Derived.Test.YtjpgllmfenogoaaGreatLift35
import Derived.Test.YtjpgllmfenogoaaGreatProg
import Derived.KernelRfl
namespace Go.Lift
open Go.RowKit
variable {P : Program} {X : Kl} {ops : Array Oper}
theorem Si {st : St} (b c : Nat) {e ix k e2 : Nat} {cols cols2 : List Ow} {rows rows2 rows' : List (List T)} {row : List T} (hb : st.bx b = some (.hol e cols ix k c rows)) (hc : st.bx c = some (inner e2 cols2 rows2)) (hcol : cols.getD k .s = .x e2 cols2) (hrow : rows[ix]? = some row)
  (hbl : BL b = false) (hcl : BL c = false) (hr : rows.set ix (row.set k (.sl rows2)) = rows') : Hm P X st ⟨st.env, Bp st.bx [(b, .dvec e cols rows'), (c, .gone)]⟩ := by
 have hcb : c ≠ b := fun e' => by rw [e', hb] at hc; unfold inner at hc; split at hc <;> cases hc
 subst hr
 rintro a w ⟨G, hs⟩
 obtain ⟨β, cap, arr, el, Rf, hβ, h1, h2, h3, h4, h5, h6, h7, h8, h9, h10, h11⟩ := hs.blk b _ hb
 have hX := OA (hs.blk c _ hc)
 have hre := h5 ix row hrow
 let G' : Gh := { G with more := fun d => if d = b then (fun γ => G.more b γ ∨ G.has c γ) else G.more d }
 have hcβ : ∀ γ, G.has c γ → γ ≠ β := fun γ h e' => hcb (hs.at_inj c b _ _ γ hc hb Dz rfl h (.inl (e' ▸ hβ)))
 have hbx : ∀ d, Bp st.bx [(b, .dvec e cols (rows.set ix (row.set k (.sl rows2)))), (c, .gone)] d = if d = b then some (.dvec e cols (rows.set ix (row.set k (.sl rows2)))) else if d = c then some .gone else st.bx d := fun d => rfl
 have hasO : ∀ d γ, d ≠ b → (G'.has d γ ↔ G.has d γ) := fun d γ h => by unfold Gh.has; simp only [G', if_neg h]
 have hasB : ∀ γ, G'.has b γ → G.has b γ ∨ G.has c γ := fun γ h => by
  unfold Gh.has at h
  simp only [G', if_true] at h
  rcases h with h | h | h
  ·exact .inl (.inl h)
  ·exact .inl (.inr h)
  ·exact .inr h
 refine ⟨G', ?_⟩
 refine hs.frame2 (fun d hd => ?_) (fun _ h => h) (fun _ _ => rfl) (fun _ _ => rfl) (fun _ _ => rfl) ?_ ?_ ?_ hs.S_lt hs.S_src hs.below (fun d hd => ?_)
 ·rw [hbx]; split
  ·rfl
  ·split
   ·rfl
   ·exact hd
 ·intro d kk hd
  rw [hbx] at hd
  split at hd
  ·rename_i e1; subst e1; cases hd
   refine .inr ⟨.inr ⟨β, cap, arr, el, fun i0 j0 γ => if i0 = ix ∧ j0 = k then G.has c γ else Rf i0 j0 γ, hβ, by rw [List.length_set]; exact h1, h2, by rw [List.length_set]; exact h3, h4, ?_, ?_, ?_, ?_, ?_⟩, fun c' hc' => by cases hc'⟩
   ·intro j0 row' hj
    rcases FA hj with ⟨_, rfl⟩ | ⟨_, hj⟩
    ·rw [List.length_set]; exact hre
    ·exact h5 j0 row' hj
   ·intro i0 row' j0 t0 hi hj
    have hj0 : j0 < e := by
     have := AA hj
     rcases FA hi with ⟨_, rfl⟩ | ⟨_, hi⟩
     ·rw [List.length_set] at this; omega
     ·have := h5 i0 row' hi; omega
    by_cases hh : i0 = ix ∧ j0 = k
    ·obtain ⟨rfl, rfl⟩ := hh
     rw [hcol]
     have ht0 : t0 = .sl rows2 := by
      rcases FA hi with ⟨_, rfl⟩ | ⟨hne, _⟩
      ·rcases FA hj with ⟨_, rfl⟩ | ⟨hne, _⟩
       ·rfl
       ·exact (hne rfl).elim
      ·exact (hne rfl).elim
     subst ht0
     rw [h10]
     exact hX.mono (fun _ _ => rfl) (fun _ h => h) (fun γ hγ => by simp only [and_self, if_true]; exact hγ)
    ·have hold : ∃ row0, rows[i0]? = some row0 ∧ row0[j0]? = some t0 := by
      rcases FA hi with ⟨hii, rfl⟩ | ⟨_, hi⟩
      ·subst hii
       rcases FA hj with ⟨hjj, _⟩ | ⟨_, hj⟩
       ·exact (hh ⟨rfl, hjj⟩).elim
       ·exact ⟨row, hrow, hj⟩
      ·exact ⟨row', hi, hj⟩
     obtain ⟨row0, q1, q2⟩ := hold
     exact (h6 i0 row0 j0 t0 q1 q2 hh).mono (fun _ _ => rfl) (fun _ h => h) (fun γ hγ => by simp only [if_neg hh]; exact hγ)
   ·intro i0 j0 γ hγ
    simp only [G', if_true]
    split at hγ
    ·exact .inr hγ
    ·exact .inl (h7 i0 j0 γ hγ)
   ·intro i0 j0 hγ
    split at hγ
    ·exact hcβ β hγ rfl
    ·exact h8 i0 j0 hγ
   ·intro i0 j0 i1 j1 γ hγ hγ'
    have cross : ∀ i j, Rf i j γ → G.has c γ → False := fun i j hr hh => hcb (hs.at_inj c d _ _ γ hc hb Dz rfl hh (.inr (h7 i j γ hr)))
    split at hγ <;> split at hγ'
    ·rename_i q q'; exact ⟨q.1.trans q'.1.symm, q.2.trans q'.2.symm⟩
    ·exact (cross _ _ hγ' hγ).elim
    ·exact (cross _ _ hγ hγ').elim
    ·exact h9 i0 j0 i1 j1 γ hγ hγ'
  ·rename_i e1
   split at hd
   ·cases hd; exact .inr ⟨trivial, fun c' hc' => by cases hc'⟩
   ·rename_i e2'
    exact .inl ⟨hd, by simp only [G', if_neg e1], fun _ _ _ => rfl⟩
 ·intro d kk γ hd hr hγ
  rw [hbx] at hd
  split at hd
  ·rename_i e1; subst e1
   rcases hasB γ hγ with h | h
   ·exact hs.at_ok d _ γ hb rfl h
   ·have := hs.at_ok c _ γ hc Dz h
    exact ⟨.new (this.1.1 hcl), this.2⟩
  ·rename_i e1
   split at hd
   ·cases hd; cases hr
   ·exact hs.at_ok d kk γ hd hr ((hasO d γ e1).1 hγ)
 ·intro d d' kk kk' γ hd hd' hr hr' hγ hγ'
  rw [hbx] at hd hd'
  have cl : ∀ d kk, (if d = b then some (BN.dvec e cols (rows.set ix (row.set k (.sl rows2)))) else if d = c then some .gone else st.bx d) = some kk → kk.real = true → G'.has d γ → (d = b ∧ (G.has b γ ∨ G.has c γ)) ∨ (d ≠ b ∧ d ≠ c ∧ st.bx d = some kk ∧ G.has d γ) := by
   intro d kk hd hr hγ
   split at hd
   ·rename_i e1; subst e1; exact .inl ⟨rfl, hasB γ hγ⟩
   ·rename_i e1
    split at hd
    ·cases hd; cases hr
    ·rename_i e2'; exact .inr ⟨e1, e2', hd, (hasO d γ e1).1 hγ⟩
  rcases cl d kk hd hr hγ with ⟨q1, q2⟩ | ⟨q1, q2, q3, q4⟩ <;> rcases cl d' kk' hd' hr' hγ' with ⟨q1', q2'⟩ | ⟨q1', q2', q3', q4'⟩
  ·rw [q1, q1']
  ·rcases q2 with h | h
   ·exact (q1' (hs.at_inj d' b _ _ γ q3' hb hr' rfl q4' h)).elim
   ·exact (q2' (hs.at_inj d' c _ _ γ q3' hc hr' Dz q4' h)).elim
  ·rcases q2' with h | h
   ·exact (q1 (hs.at_inj d b _ _ γ q3 hb hr rfl q4 h)).elim
   ·exact (q2 (hs.at_inj d c _ _ γ q3 hc hr Dz q4 h)).elim
  ·exact hs.at_inj d d' kk kk' γ q3 q3' hr hr' q4 q4'
 ·have e1 : d ≠ b := fun e' => by rw [e', hbl] at hd; cases hd
  refine ⟨rfl, rfl, ?_⟩
  simp only [G', if_neg e1]
section run
variable {dr : Bool} {Q : St → Prop} {r i : Nat} {st : St} {log : List (Nat × Dp)} {o : Oper} {gs : List (Operand × D)}
def Yd (bx : Nat → Option BN) : C → Ow → T → Prop
 | .pure u, .s, t => u = t
 | .own c, .x e2 cols2, .sl rows2 => bx c = some (inner e2 cols2 rows2)
 | _, _, _ => False
def Vp (bx : Nat → Option BN) : Nat → List Ow → List C → List T → Prop
 | _, _, [], [] => True
 | j, cols, c :: cs, t :: ts => Yd bx c (cols.getD j .s) t ∧ Vp bx (j + 1) cols cs ts
 | _, _, _, _ => False
def Q4 : Nat → List Ow → List C → List T → List (Nat × BN)
 | j, cols, .own c :: cs, .sl rows2 :: ts => (match cols.getD j .s with | .x e2 cols2 => [(c, inner e2 cols2 rows2)] | .s => []) ++ Q4 (j + 1) cols cs ts
 | j, cols, _ :: cs, _ :: ts => Q4 (j + 1) cols cs ts
 | _, _, _, _ => []
theorem QY {bx : Nat → Option BN} {cols : List Ow} : ∀ {cs : List C} {ts : List T} {j0 : Nat}, Vp bx j0 cols cs ts → cs.length = ts.length ∧ ∀ (j : Nat) (c : C) (t : T), cs[j]? = some c → ts[j]? = some t → Yd bx c (cols.getD (j0 + j) .s) t
 | [], [], _, _ => ⟨rfl, fun j c t h => by simp at h⟩
 | c :: cs, t :: ts, j0, h => by
  obtain ⟨g1, g2⟩ := QY h.2
  refine ⟨by simp [g1], fun j c' t' hc ht => ?_⟩
  cases j with
  | zero => simp at hc ht; subst hc; subst ht; exact h.1
  | succ j =>
   have := g2 j c' t' (by simpa using hc) (by simpa using ht)
   rwa [show j0 + 1 + j = j0 + (j + 1) from by omega] at this
end run
end Go.Lift
namespace Go.Lift
open List renaming mem_of_getElem? → lM
open Go.RowKit
variable {P : Program} {X : Kl} {ops : Array Oper}
theorem Yj {e : Nat} {arr : Array Value} {v : Value} (ha : arr.size = 1 * e) (hv : v.cells.size = e) :
  ∃ arr', Instr.fill (fun i => some (i * e, e)) arr [(0, v)] = some arr' ∧ arr'.size = 1 * e ∧ ∀ j, j < e → Aw arr' j = Aw v.cells j := by
 refine ⟨Gs arr 0 v.cells.toList, ?_, by rw [GJ, ha], fun j hj => ?_⟩
 ·simp only [Instr.fill]
  rw [if_neg (by simp; omega), MZ]
  simp
 ·rw [Fw _ _ _ _ (by simp; omega), if_pos (by simp; omega), Gq, Nat.sub_zero]
theorem WW {bx : Nat → Option BN} {c : C} {o : Ow} {t : T} (h : Yd bx c o t) : (∃ u, c = .pure u ∧ o = .s ∧ t = u) ∨ ∃ b e2 cols2 rows2, c = .own b ∧ o = .x e2 cols2 ∧ t = .sl rows2 ∧ bx b = some (inner e2 cols2 rows2) := by
 cases c with
 | pure u =>
  cases o with
  | s => exact .inl ⟨u, rfl, rfl, h.symm⟩
  | x e cols => exact h.elim
 | own b =>
  cases o with
  | s => exact h.elim
  | x e cols =>
   cases t with
   | sl rows2 => exact .inr ⟨b, e, cols, rows2, rfl, rfl, rfl, h⟩
   | _ => exact h.elim
 | _ => cases o <;> exact h.elim
section run
variable {dr : Bool} {Q : St → Prop} {r i : Nat} {st : St} {log : List (Nat × Dp)} {o : Oper} {gs : List (Operand × D)}
def EF : List C → List Nat
 | [] => []
 | .own c :: cs => c :: EF cs
 | _ :: cs => EF cs
theorem H4 {b : Nat} : ∀ {cs : List C}, b ∈ EF cs ↔ .own b ∈ cs
 | [] => by simp [EF]
 | c :: cs => by
  cases c <;> simp [EF, H4 (cs := cs)]
theorem PA : ∀ {cs : List C}, (EF cs).Nodup → ∀ (j j' b : Nat), cs[j]? = some (.own b) → cs[j']? = some (.own b) → j = j'
 | [], _, j, j', b, h, _ => by simp at h
 | c :: cs, hn, j, j', b, h, h' => by
  have hn2 : (EF cs).Nodup := by
   cases c <;> simp only [EF] at hn <;> first | exact hn | exact (List.nodup_cons.1 hn).2
  have hnot : c = .own b → .own b ∉ cs := fun e hm => by
   subst e
   simp only [EF] at hn
   exact (List.nodup_cons.1 hn).1 (H4.2 hm)
  cases j with
  | zero =>
   cases j' with
   | zero => rfl
   | succ j' =>
    simp at h h'
    exact (hnot h (lM h')).elim
  | succ j =>
   cases j' with
   | zero =>
    simp at h h'
    exact (hnot h' (lM h)).elim
   | succ j' =>
    rw [PA hn2 j j' b (by simpa using h) (by simpa using h')]
theorem JI {t el : TypeId} {s e : Nat} {z : Value} {y : Operand} {x : E} {cs : List C} {ts : List T} (cols : List Ow) (rb : List (Nat × BN)) {parts : Array (Nat × Operand)} (hat : At st.env ops i X.n (.buildSlice t 1 parts) s gs) (hps : parts = #[(0, y)])
  (hx : opd st.env y = some (.e x)) (hcs : x.cells = cs) (hlen : cs.length = e) (hrb : Q4 0 cols cs ts = rb) (hb : I1 st.bx rb) (hcx : Vp st.bx 0 cols cs ts) (hnew : st.bx s = none)
  (hnd : JU (EF cs) = true) (hnl : (EF cs).all (fun c => !BL c) = true) (ht : sliceB P t el = true) (he : Ik P el e = true) (hz : FI P el = some z) (hsm : e ≤ 16777216)
  (next : Bh P X ops dr Q r (i + 1) (Dp.upd ⟨gs ++ [(y, .e x)], rb, some s, some (.e (.one (.own s))), (s, .dvec e cols [ts]) :: Ij (EF cs), [s]⟩ st) ((i, ⟨gs ++ [(y, .e x)], rb, some s, some (.e (.one (.own s))), (s, .dvec e cols [ts]) :: Ij (EF cs), [s]⟩) :: log)) : Bh P X ops dr Q (r + 1) i st log := by
 obtain ⟨o, ho, hop, hdst, hn, hg, hgp⟩ := hat.out
 have hndp := JQ hnd
 refine Bh.step next ⟨Am.2 ⟨hgp, hx, trivial⟩, hb, hnew, trivial⟩ (LR.value ho hg rfl hdst.symm (DX hdst hn) ?_)
 have hcx0 := QY hcx
 intro G st' a w hs hpre
 have hx := (Am.1 hpre.r).2.1
 have hnew := hpre.n.1
 have hb := hpre.b
 have hpb : ∀ {l : List (Nat × BN)}, I1 st'.bx l → ∀ p, p ∈ l → st'.bx p.1 = some p.2 := by
  intro l
  induction l with
  | nil => intro _ p hp; cases hp
  | cons q l ih =>
   intro h p hp
   rcases List.mem_cons.1 hp with e | e
   ·subst e; exact h.1
   ·exact ih h.2 p e
 -- what each cell is, in this state
 have hown : ∀ (j : Nat) (c : C) (u : T), cs[j]? = some c → ts[j]? = some u → (∃ v, c = .pure v ∧ cols.getD j .s = .s ∧ u = v) ∨ ∃ b e2 cols2 rows2, c = .own b ∧ cols.getD j .s = .x e2 cols2 ∧ u = .sl rows2 ∧ st'.bx b = some (inner e2 cols2 rows2) := by
  intro j c u hc hu
  have h1 := hcx0.2 j c u hc hu
  rw [Nat.zero_add] at h1
  rcases WW h1 with h2 | ⟨b, e2, cols2, rows2, rfl, h3, rfl, _⟩
  ·exact .inl h2
  ·refine .inr ⟨b, e2, cols2, rows2, rfl, h3, rfl, ?_⟩
   have hmem : ∀ (cs : List C) (ts : List T) (j0 j : Nat), cs[j]? = some (.own b) → ts[j]? = some (.sl rows2) → cols.getD (j0 + j) .s = .x e2 cols2 → (b, inner e2 cols2 rows2) ∈ Q4 j0 cols cs ts := by
    intro cs
    induction cs with
    | nil => intro ts j0 j h; simp at h
    | cons c cs ih =>
     intro ts j0 j h h' hcol
     cases ts with
     | nil => simp at h'
     | cons t ts =>
      cases j with
      | zero =>
       simp at h h'; subst h; subst h'
       rw [Nat.add_zero] at hcol
       simp only [Q4, hcol]
       exact List.mem_append_left _ (by simp)
      | succ j =>
       have := ih ts (j0 + 1) j (by simpa using h) (by simpa using h') (by rwa [show j0 + 1 + j = j0 + (j + 1) from by omega])
       cases c <;> first | (simp only [Q4]; exact this) | (cases t <;> simp only [Q4] <;> first | exact this | exact List.mem_append_right _ this)
   have := hmem cs ts 0 j hc hu (by rw [Nat.zero_add]; exact h3)
   rw [hrb] at this
   exact hpb hb _ this
 obtain ⟨hcsz, hcr⟩ := (show Ka P w G (a.eval y) x from hs.opd hx).cells
 rw [hcs] at hcsz hcr
 have hve : (a.eval y).cells.size = e := by rw [hcsz, hlen]
 have hgn : ∀ c, c ∈ EF cs → ∃ (j e2 : Nat) (cols2 : List Ow) (rows2 : List (List T)), cs[j]? = some (.own c) ∧ cols.getD j .s = .x e2 cols2 ∧ st'.bx c = some (inner e2 cols2 rows2) := by
  intro c hc
  obtain ⟨j, hj⟩ := List.mem_iff_getElem?.1 (H4.1 hc)
  have hjt : j < ts.length := by rw [← hcx0.1]; exact AA hj
  rcases hown j _ ts[j] hj (by simp [hjt]) with ⟨v, h, _⟩ | ⟨b, e2, cols2, rows2, h1, h2, _, h4⟩
  ·cases h
  ·cases h1; exact ⟨j, e2, cols2, rows2, hj, h2, h4⟩
 have hs0 : s ∉ EF cs := fun hm => by
  obtain ⟨_, _, _, _, _, _, h⟩ := hgn s hm
  rw [hnew] at h; cases h
 obtain ⟨arr', r1, r2, r3⟩ := Yj (e := e) (arr := (Array.range (1 * e)).map (fun k => (if 1 * e = 0 then (#[] : Array Value) else z.cells)[k % (if 1 * e = 0 then (#[] : Array Value) else z.cells).size]!)) (v := a.eval y) (by simp) hve
 let w' := w.alloc (.cells arr' el)
 let G' : Gh := { S := G.S, loc := fun c => if c = s then some w.heap.size else G.loc c, hd := fun c => if c = s then .slice (some ⟨w.heap.size, 0, none⟩) 1 1 else G.hd c, more := fun c => if c = s then (fun γ => ∃ b, b ∈ EF cs ∧ G.has b γ) else G.more c }
 have hheap : ∀ γ, γ < w.heap.size → w'.heap[γ]? = w.heap[γ]? := fun γ hγ => by show (w.alloc _).heap[γ]? = _; rw [D1, if_neg (by omega)]
 have hatw : w'.heap[w.heap.size]? = some (.cells arr' el) := by show (w.alloc _).heap[_]? = _; rw [D1, if_pos rfl]
 have hsz : w'.heap.size = w.heap.size + 1 := by show (w.heap.push _).size = _; simp
 have hbx : ∀ d, Bp st'.bx ((s, .dvec e cols [ts]) :: Ij (EF cs)) d = if d = s then some (.dvec e cols [ts]) else if d ∈ EF cs then some .gone else st'.bx d := fun d => by
  simp only [Bp]; split
  ·rfl
  ·exact Mn
 have hsome : ∀ c, (st'.bx c).isSome = true → c ≠ s := fun c hc e => by rw [e, hnew] at hc; cases hc
 have hasO : ∀ d γ, d ≠ s → (G'.has d γ ↔ G.has d γ) := fun d γ h => by unfold Gh.has; simp only [G', if_neg h]
 have hasS : ∀ γ, G'.has s γ → γ = w.heap.size ∨ ∃ b, b ∈ EF cs ∧ G.has b γ := fun γ h => by
  unfold Gh.has at h
  simp only [G', if_true] at h
  rcases h with h | h
  ·cases h; exact .inl rfl
  ·exact .inr h
 have hlt : ∀ b γ, b ∈ EF cs → G.has b γ → QA X b γ ∧ γ < w.heap.size ∧ ¬ G.S γ := fun b γ hbm hγ => by
  obtain ⟨_, _, _, _, _, _, h⟩ := hgn b hbm
  exact hs.at_ok b _ γ h Dz hγ
 have hcsj : ∀ (j : Nat) (c : C), cs[j]? = some c → F5 P w G (Aw (a.eval y).cells j) c := hcr
 have key : Eh P X G' ⟨st'.env, Bp st'.bx ((s, .dvec e cols [ts]) :: Ij (EF cs))⟩ a w' := by
  refine hs.frame2 (fun d hd => ?_) (fun _ h => h) (fun c hc => by simp only [G']; rw [if_neg (hsome c hc)]) (fun c hc => by simp only [G']; rw [if_neg (hsome c hc)]) (fun γ hγ => hheap γ (hs.S_lt γ hγ)) ?_ ?_ ?_ (fun γ hγ => by have := hs.S_lt γ hγ; omega) hs.S_src (hs.below.alloc hs.below.size _) (fun d hd => ?_)
  ·rw [hbx]; split
   ·rfl
   ·split
    ·rfl
    ·exact hd
  ·intro d kk hd
   rw [hbx] at hd
   split at hd
   ·rename_i e1; subst e1; cases hd
    refine .inr ⟨.inr ⟨w.heap.size, 1, arr', el, fun i0 j0 γ => i0 = 0 ∧ ∃ b, cs[j0]? = some (.own b) ∧ G.has b γ, by simp [G'], by simp [G'], hatw, by simp, r2, ?_, ?_, ?_, ?_, ?_⟩, fun c' hc' => by cases hc'⟩
    ·intro i0 row hi
     cases i0 with
     | zero => simp at hi; subst hi; rw [← hcx0.1, hlen]
     | succ i0 => simp at hi
    ·intro i0 row j0 t0 hi hj
     cases i0 with
     | succ i0 => simp at hi
     | zero =>
      simp at hi; subst hi
      have hj0 : j0 < cs.length := by rw [hcx0.1]; exact AA hj
      have hcj : cs[j0]? = some cs[j0] := by simp [hj0]
      rw [Nat.zero_mul, Nat.zero_add, r3 j0 (by omega)]
      have hR := hcsj j0 _ hcj
      rcases hown j0 _ t0 hcj hj with ⟨v, h1, h2, h3⟩ | ⟨b, e2, cols2, rows2, h1, h2, h3, h4⟩
      ·rw [h2, h3]
       rw [h1] at hR
       exact .s ((show EP w G.S _ v from hR).mono (fun γ hγ => hheap γ (hs.S_lt γ hγ)) fun _ h => h)
      ·rw [h2, h3]
       rw [h1] at hR hcj
       have hvv : Aw (a.eval y).cells j0 = G.hd b := hR.1
       rw [hvv]
       refine (OA (hs.blk b _ h4)).mono (fun γ hγ => hheap γ ?_) (fun _ h => h) (fun γ hγ => ⟨rfl, b, hcj, hγ⟩)
       rcases hγ with h | h
       ·exact hs.S_lt γ h
       ·exact (hs.at_ok b _ γ h4 Dz h).2.1
    ·rintro i0 j0 γ ⟨_, b, hcb, hγ⟩
     simp only [G', if_true]
     exact ⟨b, H4.2 (lM hcb), hγ⟩
    ·rintro i0 j0 ⟨_, b, hcb, hγ⟩
     exact Nat.lt_irrefl _ (hlt b _ (H4.2 (lM hcb)) hγ).2.1
    ·rintro i0 j0 i1 j1 γ ⟨q0, b, hcb, hγ⟩ ⟨q1, b', hcb', hγ'⟩
     refine ⟨q0.trans q1.symm, ?_⟩
     obtain ⟨_, _, _, _, _, _, k1⟩ := hgn b (H4.2 (lM hcb))
     obtain ⟨_, _, _, _, _, _, k2⟩ := hgn b' (H4.2 (lM hcb'))
     have := hs.at_inj b b' _ _ γ k1 k2 Dz Dz hγ hγ'
     subst this
     exact PA hndp _ _ b hcb hcb'
   ·rename_i e1
    split at hd
    ·cases hd; exact .inr ⟨trivial, fun c' hc' => by cases hc'⟩
    ·exact .inl ⟨hd, by simp only [G', if_neg e1], fun γ hr hγ => hheap γ (hs.at_ok d kk γ hd hr hγ).2.1⟩
  ·intro d kk γ hd hr hγ
   rw [hbx] at hd
   split at hd
   ·rename_i e1; subst e1
    rcases hasS γ hγ with h | ⟨b, hbm, h⟩
    ·subst h
     exact ⟨.new hs.below.size, by omega, fun h => Nat.lt_irrefl _ (hs.S_lt _ h)⟩
    ·have := hlt b γ hbm h
     have hbl : BL b = false := by
      have := List.all_eq_true.1 hnl b hbm
      simpa using this
     exact ⟨.new (this.1.1 hbl), by omega, this.2.2⟩
   ·rename_i e1
    split at hd
    ·cases hd; cases hr
    ·have := hs.at_ok d kk γ hd hr ((hasO d γ e1).1 hγ)
     exact ⟨this.1, by omega, this.2.2⟩
  ·intro d d' kk kk' γ hd hd' hr hr' hγ hγ'
   rw [hbx] at hd hd'
   have cl : ∀ d kk, (if d = s then some (BN.dvec e cols [ts]) else if d ∈ EF cs then some .gone else st'.bx d) = some kk → kk.real = true → G'.has d γ → (d = s ∧ (γ = w.heap.size ∨ ∃ b, b ∈ EF cs ∧ G.has b γ)) ∨ (d ≠ s ∧ d ∉ EF cs ∧ st'.bx d = some kk ∧ G.has d γ) := by
    intro d kk hd hr hγ
    split at hd
    ·rename_i e1; subst e1; exact .inl ⟨rfl, hasS γ hγ⟩
    ·rename_i e1
     split at hd
     ·cases hd; cases hr
     ·rename_i e2'; exact .inr ⟨e1, e2', hd, (hasO d γ e1).1 hγ⟩
   have cross : ∀ d kk, d ∉ EF cs → st'.bx d = some kk → kk.real = true → G.has d γ → (γ = w.heap.size ∨ ∃ b, b ∈ EF cs ∧ G.has b γ) → False := by
    intro d kk hdm hd hr hγ h
    rcases h with h | ⟨b, hbm, h⟩
    ·have := (hs.at_ok d kk γ hd hr hγ).2.1; omega
    ·obtain ⟨_, _, _, _, _, _, k1⟩ := hgn b hbm
     exact hdm (hs.at_inj d b _ _ γ hd k1 hr Dz hγ h ▸ hbm)
   rcases cl d kk hd hr hγ with ⟨q1, q2⟩ | ⟨q1, q2, q3, q4⟩ <;> rcases cl d' kk' hd' hr' hγ' with ⟨q1', q2'⟩ | ⟨q1', q2', q3', q4'⟩
   ·rw [q1, q1']
   ·exact (cross d' kk' q2' q3' hr' q4' q2).elim
   ·exact (cross d kk q2 q3 hr q4 q2').elim
   ·exact hs.at_inj d d' kk kk' γ q3 q3' hr hr' q4 q4'
  ·have e1 : d ≠ s := fun e' => by rw [e', hs.nl hn] at hd; cases hd
   refine ⟨?_, ?_, ?_⟩ <;> simp only [G', if_neg e1]
 refine ⟨.slice (some ⟨w.heap.size, 0, none⟩) 1 1, w', G', ?_, key, ?_⟩
 ·simp only [execOp, hop, hps]
  refine Ak (w1 := w') (a := .slice (some ⟨w.heap.size, 0, none⟩) 1 1) ?_ rfl
  have hpa : ((#[(0, y)] : Array (Nat × Operand)).map fun (i, x) => (i, a.eval x)) = #[(0, a.eval y)] := by simp
  unfold sliceB at ht
  split at ht
  ·rename_i e' hu
   have : e' = el := by simpa using ht
   subst this
   rw [hpa]
   unfold Instr.buildSlice
   refine Ak (AO hu w) ?_
   refine Ak (Fk he w) ?_
   rw [if_neg (by omega)]
   by_cases hne : 1 * e = 0
   ·rw [if_pos hne] at r1
    rw [if_pos hne]
    refine Ak (a := (#[] : Array Value)) (w1 := w) rfl ?_
    simp only [r1]
    rfl
   ·rw [if_neg hne] at r1
    rw [if_neg hne]
    refine Ak (Gr hz w) ?_
    refine Ak (a := z.cells) (w1 := w) rfl ?_
    simp only [r1]
    rfl
  ·cases ht
 ·rintro d ⟨⟩
  refine ⟨⟨by simp [G'], _, _, _, rfl⟩, fun b hb => ?_⟩
  have : b = s := by simpa [D.names, E.names, C.names] using hb
  subst this
  rw [hbx, if_pos rfl]; rfl
end run
end Go.Lift
namespace Go.Lift
open Go.RowKit
variable {P : Program} {X : Kl} {ops : Array Oper}
theorem PZ {α : Type} (f : α → List T) (xs : List α) (n e : Nat) (cols : List Ow) : vl (.pvec n e cols (xs.map f)) = some (e, xs.length) := by simp [vl]
theorem QT {st : St} (b : Nat) (k k' : BN) (hb : st.bx b = some k) (hr : k.real = true) (hn : k'.names = []) (h : ∀ (w : World) (G : Gh), FE P w G b k → FE P w G b k') : Hm P X st (St.setB st b k') := by
 rintro a w ⟨G, hs⟩
 refine ⟨G, hs.frame (bx' := (St.setB st b k').bx) ?_ ⟨fun _ h => h, fun _ _ => rfl, fun _ _ => rfl, fun _ _ => rfl⟩ (fun _ _ => rfl) ?_ ?_ ?_ hs.S_lt hs.S_src hs.below (fun _ _ => ⟨rfl, rfl, rfl⟩)⟩
 ·intro c hc; simp only [St.setB]; split <;> simp [hc]
 ·intro c kk hc
  simp only [St.setB] at hc
  split at hc
  ·rename_i e1; subst e1; cases hc
   exact .inr ⟨h w G (hs.blk c _ hb), fun c' hc' => by rw [hn] at hc'; cases hc'⟩
  ·exact .inl ⟨hc, fun _ _ _ => rfl⟩
 ·intro c kk β hc hr' hβ
  simp only [St.setB] at hc
  split at hc
  ·rename_i e1; subst e1; exact hs.at_ok _ _ β hb hr hβ
  ·exact hs.at_ok c kk β hc hr' hβ
 ·intro c c' kk kk' β hc hc' hr1 hr2 hβ hβ'
  simp only [St.setB] at hc hc'
  have old : ∀ c kk, (if c = b then some k' else st.bx c) = some kk → kk.real = true → ∃ k0, st.bx c = some k0 ∧ k0.real = true := by
   intro c kk hc hr'
   split at hc
   ·rename_i e1; subst e1; exact ⟨_, hb, hr⟩
   ·exact ⟨kk, hc, hr'⟩
  obtain ⟨k0, q1, q2⟩ := old c kk hc hr1
  obtain ⟨k0', q1', q2'⟩ := old c' kk' hc' hr2
  exact hs.at_inj c c' k0 k0' β q1 q1' q2 q2' hβ hβ'
theorem TC {st : St} (b e : Nat) (cols : List Ow) (rows : List (List T)) (hb : st.bx b = some (.vec e rows)) : Hm P X st (St.setB st b (.pvec 0 e cols rows)) :=
 QT b _ _ hb rfl rfl fun _ _ h => ⟨Nat.zero_le _, h.imp id fun ⟨β, cap, arr, el, h0, h1, h2, h3, h4, h5, h6⟩ =>
  ⟨β, cap, arr, el, fun _ _ _ => False, h0, h1, h2, h3, h4, h5, fun i row j t hi hj => by rw [if_neg (by omega)]; exact .s (h6 i row j t hi hj), fun _ _ _ h => h.elim, fun _ _ h => h, fun _ _ _ _ _ h => h.elim⟩⟩
theorem UH {st : St} (b : Nat) {n m e : Nat} {cols : List Ow} {rows : List (List T)} (hb : st.bx b = some (.pvec n e cols rows)) (h : n = m) : Hm P X st (St.setB st b (.pvec m e cols rows)) :=
 QT b _ _ hb rfl rfl fun _ _ hk => h ▸ hk
theorem T8 {st : St} (b : Nat) {n e : Nat} {cols : List Ow} {rows : List (List T)} (hb : st.bx b = some (.pvec n e cols rows)) (h : n = rows.length) : Hm P X st (St.setB st b (.dvec e cols rows)) :=
 QT b _ _ hb rfl rfl fun _ _ hk => by
  obtain ⟨_, hk⟩ := hk
  refine hk.imp id fun ⟨β, cap, arr, el, Rf, h0, h1, h2, h3, h4, h5, h6, h7⟩ => ⟨β, cap, arr, el, Rf, h0, h1, h2, h3, h4, h5, fun i row j t hi hj => ?_, h7⟩
  have := h6 i row j t hi hj
  rwa [if_pos (by rw [h]; exact AA hi)] at this
section run
variable {dr : Bool} {Q : St → Prop} {r i : Nat} {st : St} {log : List (Nat × Dp)} {o : Oper} {gs : List (Operand × D)}
theorem TA {x : Operand} {b n e ix k s : Nat} {cols : List Ow} {rows : List (List T)} {row : List T} {u : T} {t : TypeId} (hat : At st.env ops i X.n (.load t x) s gs)
  (hx : opd st.env x = some (.e (.one (.eptr b e ix k)))) (ht : Gm P t false = true) (hb : st.bx b = some (.pvec n e cols rows)) (hrow : rows[ix]? = some row) (hc : row[k]? = some u) (hn : n ≤ ix)
  (next : Bh P X ops dr Q r (i + 1) (Dp.upd ⟨gs ++ [(x, .e (.one (.eptr b e ix k)))], [(b, .pvec n e cols rows)], some s, some (one u), [], []⟩ st) ((i, ⟨gs ++ [(x, .e (.one (.eptr b e ix k)))], [(b, .pvec n e cols rows)], some s, some (one u), [], []⟩) :: log)) : Bh P X ops dr Q (r + 1) i st log := by
 obtain ⟨o, ho, hop, hd, hn', hg, hgp⟩ := hat.out
 refine Bh.step next ⟨Am.2 ⟨hgp, hx, trivial⟩, ⟨hb, trivial⟩, trivial⟩ (LR.value ho hg rfl hd.symm (DX hd hn') ?_)
 intro G st a w hs hpre
 have hx := (Am.1 hpre.r).2.1
 have hb := hpre.b.1
 obtain ⟨β, hβ, hv⟩ : F5 P w G (a.eval x) (.eptr b e ix k) := hs.opd hx
 obtain ⟨_, hbk⟩ := hs.blk b _ hb
 obtain ⟨β', cap, arr, el, Rf, h0, h1, h2, h3, h4, h5, h6, h7⟩ := hbk.resolve_left (fun ⟨_, _, h, _⟩ => by rw [h] at hrow; cases hrow)
 rw [hβ] at h0; cases h0
 have hre := h5 ix row hrow
 have hk := AA hc
 have hix := AA hrow
 have hbnd : ix * e + e ≤ arr.size := by rw [h4, ← Nat.succ_mul]; exact Nat.mul_le_mul_right e (Nat.le_trans hix h3)
 have hcell := h6 ix row k u hrow hc
 rw [if_neg (by omega)] at hcell
 refine ⟨Aw arr (ix * e + k), w, G, ?_, hs, ?_⟩
 ·simp only [execOp, hop, hv]
  exact Ak (JM ht h2 (by omega)) rfl
 ·rintro d ⟨⟩
  cases hcell with
  | s h => exact ⟨h, fun b hb => by cases hb⟩
theorem RH {x y : Operand} {b c n ix e2 : Nat} {cols cols2 : List Ow} {rows rows2 rows' : List (List T)} {row : List T} {t : TypeId} (hat : Rw ops i = some (.store t x y))
  (hx : opd st.env x = some (.e (.one (.eptr b 1 ix 0)))) (hy : opd st.env y = some (.e (.one (.own c)))) (hb : st.bx b = some (.pvec n 1 cols rows)) (hc : st.bx c = some (inner e2 cols2 rows2)) (hcol : cols.getD 0 .s = .x e2 cols2) (hrow : rows[ix]? = some row) (hixn : n = ix) (hz : Ik P t 1 = true)
  (hbl : BL b = false) (hcl : BL c = false) (hr : rows.set ix (row.set 0 (.sl rows2)) = rows')
  (next : Bh P X ops dr Q r (i + 1) (Dp.upd ⟨[(x, .e (.one (.eptr b 1 ix 0))), (y, .e (.one (.own c)))], [(b, .pvec n 1 cols rows), (c, inner e2 cols2 rows2)], none, none, [(b, .pvec (n + 1) 1 cols rows'), (c, .gone)], []⟩ st) ((i, ⟨[(x, .e (.one (.eptr b 1 ix 0))), (y, .e (.one (.own c)))], [(b, .pvec n 1 cols rows), (c, inner e2 cols2 rows2)], none, none, [(b, .pvec (n + 1) 1 cols rows'), (c, .gone)], []⟩) :: log)) : Bh P X ops dr Q (r + 1) i st log := by
 obtain ⟨o, ho, hop, hd, hgn⟩ := M2 hat
 have hg : WP ops o [] := .none hgn
 have hcb : c ≠ b := fun e' => by rw [e', hb] at hc; unfold inner at hc; split at hc <;> cases hc
 refine Bh.step next ⟨⟨hx, hy, trivial⟩, ⟨hb, hc, trivial⟩, trivial⟩ (LR.skip (rs := [(x, .e (.one (.eptr b 1 ix 0))), (y, .e (.one (.own c)))]) ho hg rfl hd rfl ?_)
 intro G st a w hs hpre
 obtain ⟨hx, hy, _⟩ := hpre.r
 obtain ⟨hb, hc, _⟩ := hpre.b
 subst hr
 obtain ⟨β, hβ, hv⟩ : F5 P w G (a.eval x) (.eptr b 1 ix 0) := hs.opd hx
 obtain ⟨hy1, pp, pn, pq, hy2⟩ : F5 P w G (a.eval y) (.own c) := hs.opd hy
 obtain ⟨hnl, hbk⟩ := hs.blk b _ hb
 obtain ⟨β', cap, arr, el, Rf, h0, h1, h2, h3, h4, h5, h6, h7, h8, h9⟩ := hbk.resolve_left (fun ⟨_, _, h, _⟩ => by rw [h] at hrow; cases hrow)
 rw [hβ] at h0; cases h0
 subst hixn
 have hX := OA (hs.blk c _ hc)
 have hatb := hs.at_ok b _ β hb rfl (.inl hβ)
 have hre := h5 n row hrow
 have hix := AA hrow
 have hbnd : n * 1 + 1 ≤ arr.size := by rw [h4, ← Nat.succ_mul]; exact Nat.mul_le_mul_right 1 (Nat.le_trans hix h3)
 have hone : IM (a.eval y) = true := by rw [hy2]; rfl
 have hst := Fm (P := P) (β := β) (el := el) [a.eval y] w (n * 1 + 0) 0 arr h2 (by simp; omega) (fun v hv => by simp at hv; subst hv; exact hone)
 rw [Nat.add_zero] at hst
 let G' : Gh := { G with more := fun d => if d = b then (fun γ => G.more b γ ∨ G.has c γ) else G.more d }
 let arr' := Gs arr (n * 1 + 0) [a.eval y]
 let w' := GV w β (.cells arr' el (0, 0))
 have hover : ∀ j, Aw arr' j = if j = n * 1 + 0 then a.eval y else Aw arr j := fun j => by
  show Aw (Gs arr (n * 1 + 0) [a.eval y]) j = _
  rw [Fw _ _ _ _ (by simp; omega)]
  simp only [List.length_singleton]
  by_cases hj : j = n * 1 + 0
  ·subst hj; rw [if_pos (by omega), if_pos rfl]; simp
  ·rw [if_neg (by omega), if_neg hj]
 have hheap : ∀ γ, γ ≠ β → w'.heap[γ]? = w.heap[γ]? := fun γ hγ => by show (GV w β _).heap[γ]? = _; rw [Ev, if_neg (fun h => hγ h.1)]
 have hsz : w'.heap.size = w.heap.size := by show (GV w β _).heap.size = _; simp [GV]
 have hcβ : ∀ γ, G.has c γ → γ ≠ β := fun γ h e' => hcb (hs.at_inj c b _ _ γ hc hb Dz rfl h (.inl (e' ▸ hβ)))
 have hbx : ∀ d, Bp st.bx [(b, .pvec (n + 1) 1 cols (rows.set n (row.set 0 (.sl rows2)))), (c, .gone)] d = if d = b then some (.pvec (n + 1) 1 cols (rows.set n (row.set 0 (.sl rows2)))) else if d = c then some .gone else st.bx d := fun d => rfl
 have hasO : ∀ d γ, d ≠ b → (G'.has d γ ↔ G.has d γ) := fun d γ h => by unfold Gh.has; simp only [G', if_neg h]
 have hasB : ∀ γ, G'.has b γ → G.has b γ ∨ G.has c γ := fun γ h => by
  unfold Gh.has at h
  simp only [G', if_true] at h
  rcases h with h | h | h
  ·exact .inl (.inl h)
  ·exact .inl (.inr h)
  ·exact .inr h
 have hix2 : ∀ i0 j0, j0 < 1 → i0 * 1 + j0 = n * 1 + 0 → i0 = n ∧ j0 = 0 := by
  intro i0 j0 hj0 he
  rcases Nat.lt_trichotomy i0 n with h | h | h
  ·have : i0 * 1 + 1 ≤ n * 1 := by rw [← Nat.succ_mul]; exact Nat.mul_le_mul_right 1 h
   omega
  ·subst h; exact ⟨rfl, by omega⟩
  ·have : n * 1 + 1 ≤ i0 * 1 := by rw [← Nat.succ_mul]; exact Nat.mul_le_mul_right 1 h
   omega
 refine ⟨w', G', ?_, ?_⟩
 ·simp only [execOp, hop, hv]
  have hcells : (a.eval y).cells.toList = [a.eval y] := by rw [hy2]; rfl
  refine Ak (a := ()) (w1 := w') ?_ rfl
  have := KY (P := P) (n := 1) hz (v := a.eval y) (by rw [hy2]; rfl) h2 (show n * 1 + 0 + 1 ≤ arr.size by omega) (fun u hu => by rw [hcells] at hu; simp at hu; subst hu; exact hone)
  rw [hcells] at this
  exact this
 ·refine hs.frame2 (fun d hd => ?_) (fun _ h => h) (fun _ _ => rfl) (fun _ _ => rfl) (fun γ hγ => hheap γ fun e' => hatb.2.2 (e' ▸ hγ)) ?_ ?_ ?_ (fun γ hγ => by rw [hsz]; exact hs.S_lt γ hγ) hs.S_src (Kr hs.below hatb.1.2 _) (fun d hd => ?_)
  ·rw [hbx]; split
   ·rfl
   ·split
    ·rfl
    ·exact hd
  ·intro d kk hd
   rw [hbx] at hd
   split at hd
   ·rename_i e1; subst e1; cases hd
    refine .inr ⟨⟨by rw [List.length_set]; exact AA hrow, .inr ⟨β, cap, arr', el, fun i0 j0 γ => if i0 = n ∧ j0 = 0 then G.has c γ else Rf i0 j0 γ, hβ, by rw [List.length_set]; exact h1, by show (GV w β _).heap[β]? = _; rw [Ev, if_pos ⟨rfl, hatb.2.1⟩], by rw [List.length_set]; exact h3, by show (Gs _ _ _).size = _; rw [GJ, h4], ?_, ?_, ?_, ?_, ?_⟩⟩, fun c' hc' => by cases hc'⟩
    ·intro j0 row' hj
     rcases FA hj with ⟨_, rfl⟩ | ⟨_, hj⟩
     ·rw [List.length_set]; exact hre
     ·exact h5 j0 row' hj
    ·intro i0 row' j0 t0 hi hj
     have hj0 : j0 < 1 := by
      have := AA hj
      rcases FA hi with ⟨_, rfl⟩ | ⟨_, hi⟩
      ·rw [List.length_set] at this; omega
      ·have := h5 i0 row' hi; omega
     rw [hover]
     by_cases hh : i0 = n ∧ j0 = 0
     ·obtain ⟨rfl, rfl⟩ := hh
      rw [if_pos rfl, hcol]
      have ht0 : t0 = .sl rows2 := by
       rcases FA hi with ⟨_, rfl⟩ | ⟨hne, _⟩
       ·rcases FA hj with ⟨_, rfl⟩ | ⟨hne, _⟩
        ·rfl
        ·exact (hne rfl).elim
       ·exact (hne rfl).elim
      subst ht0
      rw [hy1, if_pos (Nat.lt_succ_self _)]
      refine hX.mono (fun γ hγ => hheap γ ?_) (fun _ h => h) (fun γ hγ => by simp only [and_self, if_true]; exact hγ)
      rcases hγ with h | h
      ·exact fun e' => hatb.2.2 (e' ▸ h)
      ·exact hcβ γ h
     ·rw [if_neg (fun h => hh (hix2 i0 j0 hj0 h))]
      have hold : ∃ row0, rows[i0]? = some row0 ∧ row0[j0]? = some t0 := by
       rcases FA hi with ⟨hii, rfl⟩ | ⟨_, hi⟩
       ·subst hii
        rcases FA hj with ⟨hjj, _⟩ | ⟨_, hj⟩
        ·exact (hh ⟨rfl, hjj⟩).elim
        ·exact ⟨row, hrow, hj⟩
       ·exact ⟨row', hi, hj⟩
      obtain ⟨row0, q1, q2⟩ := hold
      have hne : i0 ≠ n := fun e' => hh ⟨e', by omega⟩
      have hif : (if i0 < n + 1 then cols.getD j0 .s else .s) = if i0 < n then cols.getD j0 .s else .s := by
       by_cases hl : i0 < n
       ·rw [if_pos hl, if_pos (by omega)]
       ·rw [if_neg hl, if_neg (by omega)]
      rw [hif]
      refine (h6 i0 row0 j0 t0 q1 q2).mono (fun γ hγ => hheap γ ?_) (fun _ h => h) (fun γ hγ => by simp only [if_neg hh]; exact hγ)
      rcases hγ with h | h
      ·exact fun e' => hatb.2.2 (e' ▸ h)
      ·exact fun e' => h8 i0 j0 (e' ▸ h)
    ·intro i0 j0 γ hγ
     simp only [G', if_true]
     split at hγ
     ·exact .inr hγ
     ·exact .inl (h7 i0 j0 γ hγ)
    ·intro i0 j0 hγ
     split at hγ
     ·exact hcβ β hγ rfl
     ·exact h8 i0 j0 hγ
    ·intro i0 j0 i1 j1 γ hγ hγ'
     have cross : ∀ i j, Rf i j γ → G.has c γ → False := fun i j hr hh => hcb (hs.at_inj c d _ _ γ hc hb Dz rfl hh (.inr (h7 i j γ hr)))
     split at hγ <;> split at hγ'
     ·rename_i q q'; exact ⟨q.1.trans q'.1.symm, q.2.trans q'.2.symm⟩
     ·exact (cross _ _ hγ' hγ).elim
     ·exact (cross _ _ hγ hγ').elim
     ·exact h9 i0 j0 i1 j1 γ hγ hγ'
   ·rename_i e1
    split at hd
    ·cases hd; exact .inr ⟨trivial, fun c' hc' => by cases hc'⟩
    ·rename_i e2'
     refine .inl ⟨hd, by simp only [G', if_neg e1], fun γ hr hγ => hheap γ fun e' => e1 (hs.at_inj d b kk _ γ hd hb hr rfl hγ (.inl (e' ▸ hβ)))⟩
  ·intro d kk γ hd hr hγ
   rw [hbx] at hd
   rw [hsz]
   split at hd
   ·rename_i e1; subst e1
    rcases hasB γ hγ with h | h
    ·exact hs.at_ok d _ γ hb rfl h
    ·have := hs.at_ok c _ γ hc Dz h
     exact ⟨.new (this.1.1 hcl), this.2⟩
   ·rename_i e1
    split at hd
    ·cases hd; cases hr
    ·exact hs.at_ok d kk γ hd hr ((hasO d γ e1).1 hγ)
  ·intro d d' kk kk' γ hd hd' hr hr' hγ hγ'
   rw [hbx] at hd hd'
   have cl : ∀ d kk, (if d = b then some (BN.pvec (n + 1) 1 cols (rows.set n (row.set 0 (.sl rows2)))) else if d = c then some .gone else st.bx d) = some kk → kk.real = true → G'.has d γ → (d = b ∧ (G.has b γ ∨ G.has c γ)) ∨ (d ≠ b ∧ d ≠ c ∧ st.bx d = some kk ∧ G.has d γ) := by
    intro d kk hd hr hγ
    split at hd
    ·rename_i e1; subst e1; exact .inl ⟨rfl, hasB γ hγ⟩
    ·rename_i e1
     split at hd
     ·cases hd; cases hr
     ·rename_i e2'; exact .inr ⟨e1, e2', hd, (hasO d γ e1).1 hγ⟩
   rcases cl d kk hd hr hγ with ⟨q1, q2⟩ | ⟨q1, q2, q3, q4⟩ <;> rcases cl d' kk' hd' hr' hγ' with ⟨q1', q2'⟩ | ⟨q1', q2', q3', q4'⟩
   ·rw [q1, q1']
   ·rcases q2 with h | h
    ·exact (q1' (hs.at_inj d' b _ _ γ q3' hb hr' rfl q4' h)).elim
    ·exact (q2' (hs.at_inj d' c _ _ γ q3' hc hr' Dz q4' h)).elim
   ·rcases q2' with h | h
    ·exact (q1 (hs.at_inj d b _ _ γ q3 hb hr rfl q4 h)).elim
    ·exact (q2 (hs.at_inj d c _ _ γ q3 hc hr Dz q4 h)).elim
   ·exact hs.at_inj d d' kk kk' γ q3 q3' hr hr' q4 q4'
  ·have e1 : d ≠ b := fun e' => by rw [e', hbl] at hd; cases hd
   refine ⟨rfl, rfl, ?_⟩
   simp only [G', if_neg e1]
end run
theorem ZV {α : Type} {f : α → List T} {xs : List α} {b e len : Nat} {bs : List (Nat × BN)} {l l' : List D} (h : 0 + len ≤ xs.length) (hb : lent bs b = some (xs.map f)) (h2 : l.map (fun d => (d.lend bs).nrm) = l') :
  (D.e (.one (.view b e 0 len)) :: l).map (fun d => (d.lend bs).nrm) = .e (.one (.pure (.sl ((xs.take len).map f)))) :: l' := by
 rw [List.map_cons, h2, Va h bs hb]; rfl
theorem ZK {d : D} {bs : List (Nat × BN)} {l l' : List D} (h2 : l.map (fun d => (d.lend bs).nrm) = l') : (d :: l).map (fun d => (d.lend bs).nrm) = (d.lend bs).nrm :: l' := by
 rw [List.map_cons, h2]
end Go.Lift
namespace Go.Lift
open Go.RowKit
variable {P : Program} {X : Kl}
theorem A9 {α : Type} {c : Operand} {x y : Code} {Q : Exit → St → Prop} {st : St} {b : Bool} {e1 e2 : Option α} {v : α} (h : AU b e1 e2 = some v) (ht : e1 = some v → W P X x Q st) (hf : e2 = some v → W P X y Q st) (hc : opd st.env c = some (bD b) := by exact rfl) : W P X (.cond c x y) Q st :=
 cn hc (fun k => ht (aU k h)) (fun k => hf (aL k h))
theorem E8 {ops : Array Oper} {dr : Bool} {Q : St → Prop} {r i : Nat} {st : St} {log : List (Nat × Dp)} {α : Type} {b : Bool} {e1 e2 : Option α} {v : α} (t : Nat) (h : AU b e1 e2 = some v) (hx : st.env t = some (bD b)) (h1 : e1 = some v → Bh P X ops dr Q r i (St.put st (some t) (some (bD true))) log) (h2 : e2 = some v → Bh P X ops dr Q r i (St.put st (some t) (some (bD false))) log) : Bh P X ops dr Q r i st log :=
 Z5 hx (fun k => h1 (aU k h)) (fun k => h2 (aL k h))
theorem sn {V R : Type} {J : V → Option R} {r : R} {S : V → St} {s : St} {v : V} {el : List (Nat × D)} {bl : List (Nat × BN)} (l : List (Nat × Nat)) (h : J v = some r) (e : S v = mk el bl := by exact rfl) (h1 : (dQ s.env el, dt (rn l) s.bx bl) = (d4 (rn l) el, de (rn l) bl) := by exact rfl) (h2 : ((JU ((Hc bl).map (rn l)) && O8 (rn l) (Hc bl)) && (Ss (Hc bl) el && RS (Hc bl) bl)) = true := by exact rfl) : ∃ v, J v = some r ∧ Hm P X s (S v) :=
 ⟨v, h, e ▸ sm l el bl h1 h2⟩
theorem fA {y : Code} {id : Nat} {ops : Array Oper} {dr : Bool} {Q : Exit → St → Prop} {st : St} {n : Nat} (hm : P.follows .mixedOrders = true) (hn : ops.size = n)
  (h : Bh P X ops dr (fun st' => W P X y Q st') n 0 st []) : W P X (.seq (.region id ops dr) y) Q st :=
 AN (Ai hm hn h)
theorem Bc {G : Prop} {α β : Type} {xs : List α} {i : Int} {f : α → Option β} {r : β} (h : (A5 xs i).bind f = some r) (k : ∀ x, 0 ≤ i → xs[i.toNat]? = some x → f x = some r → G) : G := by
 obtain ⟨x, a, b, c⟩ := X8 h
 exact k x a b c
theorem BM {G : Prop} {α β : Type} {x : Option α} {f : α → Option β} {r : β} (h : x.bind f = some r) (k : ∀ a, x = some a → f a = some r → G) : G := by
 obtain ⟨a, b, c⟩ := bind_some h
 exact k a b c
theorem GK {G : Prop} {β : Type} {p : Prop} [Decidable p] {f : Unit → Option β} {r : β} (h : (Eo p).bind f = some r) (k : p → f () = some r → G) : G := k (FT h).1 (FT h).2
section
variable {ops : Array Oper} {dr : Bool} {Q : St → Prop} {r i : Nat} {st : St} {log : List (Nat × Dp)} {gs : List (Operand × D)}
theorem qe {x : Operand} {d : D} {s : Nat} (h : (hd st.env ops i X.n, opd st.env x) = (some (.assign x, s, gs), some d)) (k : Q (Dp.upd ⟨gs ++ [(x, d)], [], some s, some d, [], []⟩ st)) : Bh P X ops false Q (0 + 1) i st log :=
 qa h (Ad k)
def Y3 (n : Nat) (ops : Array Oper) (i : Nat) (st : St) : Option Dp :=
 match (match bB ops i n with
  | some (_, s, t, want) => (match st.env t with
   | some (.e (.one (.pure (.val (.bool b))))) => (match b, want with
    | true, false => some (s, t, want)
    | false, true => some (s, t, want)
    | _, _ => none)
   | _ => none)
  | none => none) with
 | some (s, t, want) => some ⟨[(.tmp t, bD (!want))], [], some s, some uD, [], []⟩
 | none => match hd st.env ops i n with
  | some (.move x, s, gs) => (opd st.env x).map fun d => ⟨gs ++ [(x, d)], [], some s, some d, [], []⟩
  | _ => none
def bN (n : Nat) (ops : Array Oper) : Nat → Nat → St → List (Nat × Dp) → Option (St × List (Nat × Dp))
 | 0, _, st, log => some (st, log)
 | k + 1, i, st, log => match Y3 n ops i st with
  | none => none
  | some l => bN n ops k (i + 1) (Dp.upd l st) ((i, l) :: log)
theorem Y2 {l : Dp} (h : Y3 X.n ops i st = some l) (next : Nx P X ops dr Q r i st log l) : Bh P X ops dr Q (r + 1) i st log := by
 unfold Y3 at h
 split at h
 ·rename_i s t want hh
  split at hh
  ·rename_i j s' t' want' ha
   split at hh
   ·rename_i b hb
    split at hh
    ·cases hh; cases h; exact qn (want := false) (by rw [ha, hb]; rfl) next
    ·cases hh; cases h; exact qn (want := true) (by rw [ha, hb]; rfl) next
    ·cases hh
   ·cases hh
  ·cases hh
 ·split at h
  ·rename_i x s gs' hh
   cases hd' : opd st.env x with
   | none => rw [hd'] at h; cases h
   | some d =>
    rw [hd'] at h
    cases h
    exact qm (by rw [hh, hd']) next
  ·cases h
theorem qw (k : Nat) {st' : St} {log' : List (Nat × Dp)} (h : bN X.n ops k i st log = some (st', log')) (next : Bh P X ops dr Q r (i + k) st' log') : Bh P X ops dr Q (r + k) i st log := by
 induction k generalizing i st log with
 | zero => cases h; exact next
 | succ k ih =>
  rw [bN] at h
  split at h
  ·cases h
  ·rename_i l hl
   exact Y2 hl (ih h (by rwa [Nat.add_assoc, Nat.add_comm 1]))
end
theorem cw {f n : Nat} {fn : Func} {c : Code} {args : List D} {rv : List (Nat × List (List T))} {res : D} {rs : List ResultVar} (hf : P.funcs[f]? = some fn)
  (h : ∀ (w0 : World) (S0 : Nat → Prop), W P ⟨w0, S0, n, G0 S0⟩ c (fun e st => match e with | .normal | .ret => XX P rs st rv res | _ => False) (bQ args))
  (hb : fn.body = some c := by exact rfl) (hn : fn.ntmps = n := by exact rfl) (hrs : fn.results.toList = rs := by exact rfl) (hl : args.length ≤ n := by exact DY rfl) (hn9 : n ≤ 90000 := by exact DY rfl) (hpub : args.all Xv = true := by exact rfl) : Au P f args rv res :=
 RB hf hb hn hrs hl hn9 hpub h
theorem tm {st : St} {t : Nat} {x : E} (h : st.env t = some (.e x) := by exact rfl) : cQ P st [.tmp t] [x] := ⟨.tmp _ _ h, trivial⟩
end Go.Lift
namespace Go.Lift
def Aq (n : Int) : List T := [.val (.int .i64 n)]
def Ex (n : Int) : List T := [.val (.int .u8 n)]
def eO (n : Int) : List T := [.val (.int .u16 n)]
abbrev Dg (n : Int) : T := .val (.int .i64 n)
abbrev tB (b : Bool) : T := .val (.bool b)
def eB (b : Bool) : List T := [.val (.bool b)]
def FN {α : Type} (f : α → List T) (xs : List α) : List T := [.sl (xs.map f)]
theorem To : YM Aq := ⟨by intro x y h; simpa [Aq] using h⟩
theorem dV : YM Ex := ⟨by intro x y h; simpa [Ex] using h⟩
theorem fm : YM eB := ⟨by intro x y h; simpa [eB] using h⟩
theorem ei {α : Type} {f : α → List T} (h : YM f) : YM (FN f) := ⟨by intro x y hx; simp only [FN, List.cons.injEq, T.sl.injEq, and_true] at hx; exact MU h.inj _ _ hx⟩
structure IF where
 fI : Int
 fJ : Int
 fO : Int
 fR : Bool
 f5 : Int
 f6 : Int
def Ih (x : IF) : List T := [.val (.int .u8 x.fI), .val (.int .u8 x.fJ), .val (.int .u8 x.fO), .val (.bool x.fR), .val (.int .u16 x.f5), .val (.int .u16 x.f6)]
structure B1 where
 fE : List Int
 fK : List Int
 fP : List Int
 fZ : List IF
def OR (x : B1) : List T := [.sl (x.fE.map Ex), .sl (x.fK.map Ex), .sl (x.fP.map Ex), .sl (x.fZ.map Ih)]
structure An where
 fI : Int
 fJ : Int
 fO : Int
 fR : Bool
 fN : List (List Bool)
 fQ : List (List Bool)
def AI (x : An) : List T := [.val (.int .i64 x.fI), .val (.int .i64 x.fJ), .val (.int .i64 x.fO), .val (.bool x.fR), .sl (x.fN.map (FN eB)), .sl (x.fQ.map (FN eB))]
structure Ac where
 fE : List Int
 fK : List Int
 fP : List Int
 fF : List An
structure Aa where
 fX : Int
 fW : Int
 fV : Int
def Ab (x : Aa) : List T := [.val (.int .i64 x.fX), .val (.int .i64 x.fW), .val (.int .i64 x.fV)]
theorem A1 : YM Ab := ⟨by
 rintro ⟨a1, a2, a3⟩ ⟨b1, b2, b3⟩ h
 simp only [Ab, List.cons.injEq, T.val.injEq, Value.int.injEq, and_true, true_and] at h
 obtain ⟨h1, h2, h3⟩ := h
 subst h1
 subst h2
 subst h3
 rfl⟩
structure Af where
 fG : List Int
 fD : List Int
 fH : List Int
def Fc (x : Af) : List T := [.sl (x.fG.map Aq), .sl (x.fD.map Aq), .sl (x.fH.map Ex)]
structure Ag where
 fI : Int
 fL : Int
 fT : Int
def AJ (x : Ag) : List T := [.val (.int .i64 x.fI), .val (.int .i64 x.fL), .val (.int .i64 x.fT)]
theorem QE : YM AJ := ⟨by
 rintro ⟨a1, a2, a3⟩ ⟨b1, b2, b3⟩ h
 simp only [AJ, List.cons.injEq, T.val.injEq, Value.int.injEq, and_true, true_and] at h
 obtain ⟨h1, h2, h3⟩ := h
 subst h1
 subst h2
 subst h3
 rfl⟩
structure AK where
 fY : Af
 f8 : Int
 fU : Ag
def C1 (x : AK) : List T := [.sl (x.fY.fG.map Aq), .sl (x.fY.fD.map Aq), .sl (x.fY.fH.map Ex), .val (.int .i64 x.f8), .val (.int .i64 x.fU.fI), .val (.int .i64 x.fU.fL), .val (.int .i64 x.fU.fT)]
structure AH where
 fS : Af
 fJ : Int
 fU : Ag
 fD : List Int
def Bw (x : AH) : List T := [.sl (x.fS.fG.map Aq), .sl (x.fS.fD.map Aq), .sl (x.fS.fH.map Ex), .val (.int .i64 x.fJ), .val (.int .i64 x.fU.fI), .val (.int .i64 x.fU.fL), .val (.int .i64 x.fU.fT), .sl (x.fD.map Aq)]
theorem TR : YM Bw := ⟨by
 rintro ⟨⟨a1, a2, a3⟩, a4, ⟨a5, a6, a7⟩, a8⟩ ⟨⟨b1, b2, b3⟩, b4, ⟨b5, b6, b7⟩, b8⟩ h
 simp only [Bw, List.cons.injEq, T.val.injEq, T.sl.injEq, Value.int.injEq, and_true, true_and] at h
 obtain ⟨h1, h2, h3, h4, h5, h6, h7, h8⟩ := h
 have h1 := MU To.inj _ _ h1
 subst h1
 have h2 := MU To.inj _ _ h2
 subst h2
 have h3 := MU dV.inj _ _ h3
 subst h3
 subst h4
 subst h5
 subst h6
 subst h7
 have h8 := MU To.inj _ _ h8
 subst h8
 rfl⟩
open IntKind renaming wrap → wI
def Fr (_ : Nat) (p0 : List Int) (p1 : Int) : Option Int :=
 AU ((decide (p1 < (p0.length : Int))))
  ((A5 p0 p1).bind fun v2 =>
  some ((wI .i64 v2)))
  (some 0)
def Bj (_ : Nat) (p0 : An) : Option Bool :=
 Be (fun (v1 : Bool) =>
  some v1)
 fun j1 =>
 AU ((p0.fI == 3))
  (j1 true)
  (j1 (p0.fI == 4))
def C6 (N : Nat) (p1 : Int) (p2 : Int) (p3 : Bool) (v1 : (List (List Bool)) × Int) (j4 : ((List Bool)) → Option ((List (List Bool)))) : Nat → ((List Bool) × Int) → Option ((List (List Bool)))
 | 0, _ => none
 | n4 + 1, v4 =>
  AU ((decide (v4.2 < p1)))
   (Be (fun (v7 : (List Bool)) =>
    C6 N p1 p2 p3 v1 j4 n4 (v7, (wI .i64 (v4.2 + 1))))
   fun j7 =>
   AU p3
    (AU ((v1.2 == v4.2))
     ((Eo (v4.1.length + (([true] : List Bool)).length ≤ DU)).bind fun _ =>
     j7 (v4.1 ++ (([true] : List Bool))))
     ((Eo (0 ≤ (wI .i64 ((wI .i64 (3 * v1.2)) + v4.2)))).bind fun _ =>
     (Eo (v4.1.length + (([((Int.tmod ((FU .u16 p2 ((wI .i64 ((wI .i64 (3 * v1.2)) + v4.2))))) 2) == 0)] : List Bool)).length ≤ DU)).bind fun _ =>
     j7 (v4.1 ++ (([((Int.tmod ((FU .u16 p2 ((wI .i64 ((wI .i64 (3 * v1.2)) + v4.2))))) 2) == 0)] : List Bool)))))
    ((Eo (0 ≤ (wI .i64 ((wI .i64 (3 * v1.2)) + v4.2)))).bind fun _ =>
    (Eo (v4.1.length + (([((Int.tmod ((FU .u16 p2 ((wI .i64 ((wI .i64 (3 * v1.2)) + v4.2))))) 2) == 0)] : List Bool)).length ≤ DU)).bind fun _ =>
    j7 (v4.1 ++ (([((Int.tmod ((FU .u16 p2 ((wI .i64 ((wI .i64 (3 * v1.2)) + v4.2))))) 2) == 0)] : List Bool)))))
   (j4 v4.1)
def C5 (N : Nat) (p0 : Int) (p1 : Int) (p2 : Int) (p3 : Bool) (j1 : ((List (List Bool))) → Option ((List (List Bool)))) : Nat → ((List (List Bool)) × Int) → Option ((List (List Bool)))
 | 0, _ => none
 | n1 + 1, v1 =>
  AU ((decide (v1.2 < p0)))
   (C6 N p1 p2 p3 v1 (fun (v5 : (List Bool)) =>
    (Eo (v1.1.length + (([v5] : List (List Bool))).length ≤ DU)).bind fun _ =>
    C5 N p0 p1 p2 p3 j1 n1 (v1.1 ++ (([v5] : List (List Bool))), (wI .i64 (v1.2 + 1)))) N (([] : List Bool), 0))
   (j1 v1.1)
def Ft (N : Nat) (p0 : Int) (p1 : Int) (p2 : Int) (p3 : Bool) : Option ((List (List Bool))) :=
 C5 N p0 p1 p2 p3 (fun (v2 : (List (List Bool))) =>
  some v2) N (([] : List (List Bool)), 0)
def DJ (N : Nat) (p0 : B1) (j4 : ((List Int) × (List Int) × (List Int)) → Option (Ac × Bool)) : Nat → ((List Int) × (List Int) × (List Int) × Int) → Option (Ac × Bool)
 | 0, _ => none
 | n4 + 1, v4 =>
  AU ((decide (v4.2.2.2 < (p0.fE.length : Int))))
   ((A5 p0.fE v4.2.2.2).bind fun v7 =>
   (Eo (v4.1.length + (([(wI .i64 (1 + (wI .i64 ((Int.tmod v7 3)))))] : List Int)).length ≤ DU)).bind fun _ =>
   (Fr N p0.fK v4.2.2.2).bind fun v9 =>
   (Eo ((wI .i64 (1 + (wI .i64 ((Int.tmod v7 3))))) ≠ 0)).bind fun _ =>
   (Eo (v4.2.1.length + (([(Int.tmod v9 ((wI .i64 (1 + (wI .i64 ((Int.tmod v7 3)))))))] : List Int)).length ≤ DU)).bind fun _ =>
   (Fr N p0.fP v4.2.2.2).bind fun v12 =>
   (Eo ((wI .i64 (1 + (wI .i64 ((Int.tmod v7 3))))) ≠ 0)).bind fun _ =>
   (Eo (v4.2.2.1.length + (([(Int.tmod v12 ((wI .i64 (1 + (wI .i64 ((Int.tmod v7 3)))))))] : List Int)).length ≤ DU)).bind fun _ =>
   DJ N p0 j4 n4 (v4.1 ++ (([(wI .i64 (1 + (wI .i64 ((Int.tmod v7 3)))))] : List Int)), v4.2.1 ++ (([(Int.tmod v9 ((wI .i64 (1 + (wI .i64 ((Int.tmod v7 3)))))))] : List Int)), v4.2.2.1 ++ (([(Int.tmod v12 ((wI .i64 (1 + (wI .i64 ((Int.tmod v7 3)))))))] : List Int)), (wI .i64 (v4.2.2.2 + 1))))
   (j4 (v4.1, v4.2.1, v4.2.2.1))
def BW (N : Nat) (p0 : B1) (v5 : (List Int) × (List Int) × (List Int)) (j15 : ((List An)) → Option (Ac × Bool)) : Nat → ((List An) × Int) → Option (Ac × Bool)
 | 0, _ => none
 | n15 + 1, v15 =>
  Be (fun (v17 : Bool) =>
   AU v17
    ((A5 p0.fZ v15.2).bind fun v20 =>
    (Eo ((v5.1.length : Int) ≠ 0)).bind fun _ =>
    (Eo ((v5.1.length : Int) ≠ 0)).bind fun _ =>
    Be (fun (v23 : Bool) =>
     (A5 v5.1 ((Int.tmod ((wI .i64 v20.fJ)) ((v5.1.length : Int))))).bind fun v26 =>
     (A5 v5.1 ((Int.tmod ((wI .i64 v20.fO)) ((v5.1.length : Int))))).bind fun v27 =>
     (Ft N v26 v27 v20.f5 false).bind fun v28 =>
     Be (fun (v29 : (List (List Bool))) =>
      (Eo (v15.1.length + (([(An.mk ((wI .i64 (1 + (wI .i64 ((Int.tmod v20.fI 4)))))) ((Int.tmod ((wI .i64 v20.fJ)) ((v5.1.length : Int)))) ((Int.tmod ((wI .i64 v20.fO)) ((v5.1.length : Int)))) v23 v28 v29)] : List An)).length ≤ DU)).bind fun _ =>
      BW N p0 v5 j15 n15 (v15.1 ++ (([(An.mk ((wI .i64 (1 + (wI .i64 ((Int.tmod v20.fI 4)))))) ((Int.tmod ((wI .i64 v20.fJ)) ((v5.1.length : Int)))) ((Int.tmod ((wI .i64 v20.fO)) ((v5.1.length : Int)))) v23 v28 v29)] : List An)), (wI .i64 (v15.2 + 1))))
     fun j29 =>
     AU (((wI .i64 (1 + (wI .i64 ((Int.tmod v20.fI 4))))) == 4))
      ((A5 v5.1 ((Int.tmod ((wI .i64 v20.fJ)) ((v5.1.length : Int))))).bind fun v31 =>
      (A5 v5.1 ((Int.tmod ((wI .i64 v20.fJ)) ((v5.1.length : Int))))).bind fun v32 =>
      (Ft N v31 v32 v20.f6 true).bind fun v33 =>
      j29 v33)
      (j29 ([] : List (List Bool))))
    fun j23 =>
    AU v20.fR
     ((Bj N ((An.mk ((wI .i64 (1 + (wI .i64 ((Int.tmod v20.fI 4)))))) ((Int.tmod ((wI .i64 v20.fJ)) ((v5.1.length : Int)))) ((Int.tmod ((wI .i64 v20.fO)) ((v5.1.length : Int)))) false (([] : List (List Bool))) (([] : List (List Bool)))))).bind fun v25 =>
     j23 (!v25))
     (j23 false))
    (j15 v15.1))
  fun j17 =>
  AU ((decide (v15.2 < (p0.fZ.length : Int))))
   (j17 (decide (0 < (v5.1.length : Int))))
   (j17 false)
def GO (N : Nat) (p0 : B1) : Option (Ac × Bool) :=
 Be (fun (v1 : Bool) =>
  AU v1
   (some ((Ac.mk (([] : List Int)) (([] : List Int)) (([] : List Int)) (([] : List An))), false))
   (DJ N p0 (fun (v5 : (List Int) × (List Int) × (List Int)) =>
    BW N p0 v5 (fun (v16 : (List An)) =>
     some ((Ac.mk v5.1 v5.2.1 v5.2.2 v16), true)) N (([] : List An), 0)) N (([] : List Int), ([] : List Int), ([] : List Int), 0)))
 fun j1 =>
 AU ((decide (3 < (p0.fE.length : Int))))
  (j1 true)
  (j1 (decide (4 < (p0.fZ.length : Int))))
def C0 (N : Nat) (p0 : Ac) (v1 : (List Aa) × Int) (v4 : (List Aa) × Int) (j8 : ((List Aa)) → Option ((List Aa))) : Nat → ((List Aa) × Int) → Option ((List Aa))
 | 0, _ => none
 | n8 + 1, v8 =>
  (A5 p0.fF v1.2).bind fun v10 =>
  (A5 v10.fN v4.2).bind fun v11 =>
  AU ((decide (v8.2 < (v11.length : Int))))
   (Be (fun (v13 : (List Aa)) =>
    C0 N p0 v1 v4 j8 n8 (v13, (wI .i64 (v8.2 + 1))))
   fun j13 =>
   (A5 p0.fF v1.2).bind fun v14 =>
   (A5 v14.fN v4.2).bind fun v15 =>
   (A5 v15 v8.2).bind fun v16 =>
   AU ((!v16))
    ((Eo (v8.1.length + (([(Aa.mk v1.2 v4.2 v8.2)] : List Aa)).length ≤ DU)).bind fun _ =>
    j13 (v8.1 ++ (([(Aa.mk v1.2 v4.2 v8.2)] : List Aa))))
    (j13 v8.1))
   (j8 v8.1)
def Cj (N : Nat) (p0 : Ac) (v1 : (List Aa) × Int) (j4 : ((List Aa)) → Option ((List Aa))) : Nat → ((List Aa) × Int) → Option ((List Aa))
 | 0, _ => none
 | n4 + 1, v4 =>
  (A5 p0.fF v1.2).bind fun v6 =>
  AU ((decide (v4.2 < (v6.fN.length : Int))))
   (C0 N p0 v1 v4 (fun (v9 : (List Aa)) =>
    Cj N p0 v1 j4 n4 (v9, (wI .i64 (v4.2 + 1)))) N (v4.1, 0))
   (j4 v4.1)
def BR (N : Nat) (p0 : Ac) (j1 : ((List Aa)) → Option ((List Aa))) : Nat → ((List Aa) × Int) → Option ((List Aa))
 | 0, _ => none
 | n1 + 1, v1 =>
  AU ((decide (v1.2 < (p0.fF.length : Int))))
   (Cj N p0 v1 (fun (v5 : (List Aa)) =>
    BR N p0 j1 n1 (v5, (wI .i64 (v1.2 + 1)))) N (v1.1, 0))
   (j1 v1.1)
def Fn (N : Nat) (p0 : Ac) : Option ((List Aa)) :=
 BR N p0 (fun (v2 : (List Aa)) =>
  some v2) N (([] : List Aa), 0)
def EY (N : Nat) (p0 : List Aa) (p1 : Aa) (j1 : Unit → Option Bool) : Nat → Int → Option Bool
 | 0, _ => none
 | n1 + 1, v1 =>
  AU ((decide (v1 < (p0.length : Int))))
   ((A5 p0 v1).bind fun v4 =>
   AU (((v4.fX == p1.fX) && ((v4.fW == p1.fW) && ((v4.fV == p1.fV) && true))))
    (some true)
    (EY N p0 p1 j1 n1 (wI .i64 (v1 + 1))))
   (j1 ())
def GW (N : Nat) (p0 : List Aa) (p1 : Aa) : Option Bool :=
 EY N p0 p1 (fun (_ : Unit) =>
  some false) N 0
def CU (N : Nat) (p1 : List Aa) (v4 : (List An) × Int) (v8 : (List (List Bool)) × Int) (j15 : ((List Bool)) → Option Ac) : Nat → ((List Bool) × Int) → Option Ac
 | 0, _ => none
 | n15 + 1, v15 =>
  AU ((decide (v15.2 < (v15.1.length : Int))))
   (Be (fun (v18 : (List Bool)) =>
    CU N p1 v4 v8 j15 n15 (v18, (wI .i64 (v15.2 + 1))))
   fun j18 =>
   (A5 v15.1 v15.2).bind fun v19 =>
   AU v19
    ((A5 v15.1 v15.2).bind fun _ =>
    j18 (v15.1.set ((v15.2).toNat) true))
    ((GW N p1 ((Aa.mk v4.2 v8.2 v15.2))).bind fun v22 =>
    (A5 v15.1 v15.2).bind fun _ =>
    j18 (v15.1.set ((v15.2).toNat) v22)))
   (j15 v15.1)
def DT (N : Nat) (p0 : Ac) (p1 : List Aa) (v4 : (List An) × Int) (j8 : ((List (List Bool))) → Option Ac) : Nat → ((List (List Bool)) × Int) → Option Ac
 | 0, _ => none
 | n8 + 1, v8 =>
  (A5 p0.fF v4.2).bind fun v10 =>
  AU ((decide (v8.2 < (v10.fN.length : Int))))
   ((A5 p0.fF v4.2).bind fun v12 =>
   (A5 v12.fN v8.2).bind fun v13 =>
   (Eo ((([] : List Bool)).length + v13.length ≤ DU)).bind fun _ =>
   CU N p1 v4 v8 (fun (v16 : (List Bool)) =>
    (Eo (v8.1.length + (([v16] : List (List Bool))).length ≤ DU)).bind fun _ =>
    DT N p0 p1 v4 j8 n8 (v8.1 ++ (([v16] : List (List Bool))), (wI .i64 (v8.2 + 1)))) N ((([] : List Bool)) ++ v13, 0))
   (j8 v8.1)
def CR (N : Nat) (p0 : Ac) (v4 : (List An) × Int) (j25 : ((List (List Bool))) → Option Ac) : Nat → ((List (List Bool)) × Int) → Option Ac
 | 0, _ => none
 | n25 + 1, v25 =>
  (A5 p0.fF v4.2).bind fun v27 =>
  AU ((decide (v25.2 < (v27.fQ.length : Int))))
   ((A5 p0.fF v4.2).bind fun v29 =>
   (A5 v29.fQ v25.2).bind fun v30 =>
   (Eo ((([] : List Bool)).length + v30.length ≤ DU)).bind fun _ =>
   (Eo (v25.1.length + (([(([] : List Bool)) ++ v30] : List (List Bool))).length ≤ DU)).bind fun _ =>
   CR N p0 v4 j25 n25 (v25.1 ++ (([(([] : List Bool)) ++ v30] : List (List Bool))), (wI .i64 (v25.2 + 1))))
   (j25 v25.1)
def Cv (N : Nat) (p0 : Ac) (p1 : List Aa) (j4 : ((List An)) → Option Ac) : Nat → ((List An) × Int) → Option Ac
 | 0, _ => none
 | n4 + 1, v4 =>
  AU ((decide (v4.2 < (p0.fF.length : Int))))
   ((A5 p0.fF v4.2).bind fun v7 =>
   DT N p0 p1 v4 (fun (v9 : (List (List Bool))) =>
    CR N p0 v4 (fun (v26 : (List (List Bool))) =>
     (Eo (v4.1.length + (([(An.mk v7.fI v7.fJ v7.fO v7.fR v9 v26)] : List An)).length ≤ DU)).bind fun _ =>
     Cv N p0 p1 j4 n4 (v4.1 ++ (([(An.mk v7.fI v7.fJ v7.fO v7.fR v9 v26)] : List An)), (wI .i64 (v4.2 + 1)))) N (([] : List (List Bool)), 0)) N (([] : List (List Bool)), 0))
   (j4 v4.1)
def Gf (N : Nat) (p0 : Ac) (p1 : List Aa) : Option Ac :=
 (Eo ((([] : List Int)).length + p0.fE.length ≤ DU)).bind fun _ =>
 (Eo ((([] : List Int)).length + p0.fK.length ≤ DU)).bind fun _ =>
 (Eo ((([] : List Int)).length + p0.fP.length ≤ DU)).bind fun _ =>
 Cv N p0 p1 (fun (v5 : (List An)) =>
  some ((Ac.mk ((([] : List Int)) ++ p0.fE) ((([] : List Int)) ++ p0.fK) ((([] : List Int)) ++ p0.fP) v5))) N (([] : List An), 0)
def De (N : Nat) (p0 : List (List Bool)) (p1 : Int) (p2 : Int) (j2 : Unit → Option Bool) : Nat → Int → Option Bool
 | 0, _ => none
 | n2 + 1, v2 =>
  AU ((decide (v2 < p1)))
   ((A5 p0 v2).bind fun v5 =>
   AU (((v5.length : Int) != p2))
    (some false)
    (De N p0 p1 p2 j2 n2 (wI .i64 (v2 + 1))))
   (j2 ())
def EL (N : Nat) (p0 : List (List Bool)) (p1 : Int) (p2 : Int) : Option Bool :=
 AU (((p0.length : Int) != p1))
  (some false)
  (De N p0 p1 p2 (fun (_ : Unit) =>
   some true) N 0)
def CA (N : Nat) (p1 : An) (j22 : Unit → Option Int) : Nat → Int → Option Int
 | 0, _ => none
 | n22 + 1, v22 =>
  AU ((decide (v22 < (p1.fQ.length : Int))))
   ((A5 p1.fQ v22).bind fun v25 =>
   (A5 v25 v22).bind fun v26 =>
   AU ((!v26))
    (some 1)
    (CA N p1 j22 n22 (wI .i64 (v22 + 1))))
   (j22 ())
def FV (N : Nat) (p0 : Ac) (p1 : An) : Option Int :=
 Be (fun (v1 : Bool) =>
  AU v1
   (some 1)
   (Be (fun (v7 : Bool) =>
    AU v7
     (some 4)
     ((A5 p0.fE p1.fJ).bind fun v12 =>
     (A5 p0.fE p1.fO).bind fun v13 =>
     (EL N p1.fN v12 v13).bind fun v14 =>
     AU ((!v14))
      (some 6)
      (AU ((p1.fI != 4))
       (AU (((p1.fQ.length : Int) != 0))
        (some 6)
        (some 0))
       ((A5 p0.fE p1.fJ).bind fun v18 =>
       (A5 p0.fE p1.fJ).bind fun v19 =>
       (EL N p1.fQ v18 v19).bind fun v20 =>
       AU ((!v20))
        (some 6)
        (CA N p1 (fun (_ : Unit) =>
         some 0) N 0)))))
   fun j7 =>
   AU ((decide (p1.fJ < 0)))
    (j7 true)
    (AU ((decide ((p0.fE.length : Int) ≤ p1.fJ)))
     (j7 true)
     (AU ((decide (p1.fO < 0)))
      (j7 true)
      (j7 (decide ((p0.fE.length : Int) ≤ p1.fO)))))))
 fun j1 =>
 AU ((decide (p1.fI < 1)))
  (j1 true)
  (AU ((decide (4 < p1.fI)))
   (j1 true)
   (AU p1.fR
    ((Bj N p1).bind fun v5 =>
    j1 v5)
    (j1 false)))
def BF (N : Nat) (p0 : Ac) (j7 : Unit → Option Int) : Nat → Int → Option Int
 | 0, _ => none
 | n7 + 1, v7 =>
  AU ((decide (v7 < (p0.fE.length : Int))))
   ((A5 p0.fE v7).bind fun v10 =>
   Be (fun (v11 : Bool) =>
    AU v11
     (some 7)
     (BF N p0 j7 n7 (wI .i64 (v7 + 1))))
   fun j11 =>
   AU ((decide (v10 < 1)))
    (j11 true)
    (AU ((decide (6 < v10)))
     (j11 true)
     ((A5 p0.fK v7).bind fun v14 =>
     AU ((decide (v14 < 0)))
      (j11 true)
      ((A5 p0.fK v7).bind fun v16 =>
      AU ((decide (v10 ≤ v16)))
       (j11 true)
       ((A5 p0.fP v7).bind fun v18 =>
       AU ((decide (v18 < 0)))
        (j11 true)
        ((A5 p0.fP v7).bind fun v20 =>
        j11 (decide (v10 ≤ v20))))))))
   (j7 ())
def Bs (N : Nat) (p0 : Ac) (j22 : Unit → Option Int) : Nat → Int → Option Int
 | 0, _ => none
 | n22 + 1, v22 =>
  AU ((decide (v22 < (p0.fF.length : Int))))
   ((A5 p0.fF v22).bind fun v25 =>
   (FV N p0 v25).bind fun v26 =>
   AU ((v26 != 0))
    (some v26)
    (Bs N p0 j22 n22 (wI .i64 (v22 + 1))))
   (j22 ())
def Dj (N : Nat) (p0 : Ac) : Option Int :=
 Be (fun (v1 : Bool) =>
  AU v1
   (some 3)
   (Be (fun (v4 : Bool) =>
    AU v4
     (some 6)
     (BF N p0 (fun (_ : Unit) =>
      Bs N p0 (fun (_ : Unit) =>
       some 0) N 0) N 0))
   fun j4 =>
   AU (((p0.fK.length : Int) != (p0.fE.length : Int)))
    (j4 true)
    (j4 ((p0.fP.length : Int) != (p0.fE.length : Int)))))
 fun j1 =>
 AU ((decide (6 < (p0.fE.length : Int))))
  (j1 true)
  (j1 (decide (12 < (p0.fF.length : Int))))
def CP (N : Nat) (p0 : Ac) (j3 : ((List Int) × (List Int)) → Option (Af × Int)) : Nat → ((List Int) × (List Int) × Int) → Option (Af × Int)
 | 0, _ => none
 | n3 + 1, v3 =>
  AU ((decide (v3.2.2 < (p0.fE.length : Int))))
   ((A5 p0.fK v3.2.2).bind fun v6 =>
   (Eo (v3.1.length + (([v6] : List Int)).length ≤ DU)).bind fun _ =>
   (Eo (v3.2.1.length + (([(-1)] : List Int)).length ≤ DU)).bind fun _ =>
   CP N p0 j3 n3 (v3.1 ++ (([v6] : List Int)), v3.2.1 ++ (([(-1)] : List Int)), (wI .i64 (v3.2.2 + 1))))
   (j3 (v3.1, v3.2.1))
def BD (N : Nat) (p0 : Ac) (j9 : ((List Int)) → Option (Af × Int)) : Nat → ((List Int) × Int) → Option (Af × Int)
 | 0, _ => none
 | n9 + 1, v9 =>
  AU ((decide (v9.2 < (p0.fF.length : Int))))
   (Be (fun (v12 : Int) =>
    (Eo (v9.1.length + (([v12] : List Int)).length ≤ DU)).bind fun _ =>
    BD N p0 j9 n9 (v9.1 ++ (([v12] : List Int)), (wI .i64 (v9.2 + 1))))
   fun j12 =>
   (A5 p0.fF v9.2).bind fun v13 =>
   (Bj N v13).bind fun v14 =>
   AU v14
    ((A5 p0.fF v9.2).bind fun v16 =>
    (A5 p0.fK v16.fJ).bind fun v17 =>
    (Eo (0 ≤ v17)).bind fun _ =>
    j12 (DC .u8 1 v17))
    (j12 0))
   (j9 v9.1)
def E3 (N : Nat) (p0 : Ac) : Option (Af × Int) :=
 (Dj N p0).bind fun v1 =>
 AU ((v1 != 0))
  (some ((Af.mk (([] : List Int)) (([] : List Int)) (([] : List Int))), v1))
  (CP N p0 (fun (v4 : (List Int) × (List Int)) =>
   BD N p0 (fun (v10 : (List Int)) =>
    some ((Af.mk v4.1 v4.2 v10), 0)) N (([] : List Int), 0)) N (([] : List Int), ([] : List Int), 0))
def FG (_ : Nat) (p0 : Af) : Option Af :=
 (Eo ((([] : List Int)).length + p0.fG.length ≤ DU)).bind fun _ =>
 (Eo ((([] : List Int)).length + p0.fD.length ≤ DU)).bind fun _ =>
 (Eo ((([] : List Int)).length + p0.fH.length ≤ DU)).bind fun _ =>
 some ((Af.mk ((([] : List Int)) ++ p0.fG) ((([] : List Int)) ++ p0.fD) ((([] : List Int)) ++ p0.fH)))
def Dm (N : Nat) (p0 : Af) (j1 : Int → Option ((List Af))) : Nat → (Int × Int) → Option ((List Af))
 | 0, _ => none
 | n1 + 1, v1 =>
  AU ((decide (v1.2 < (p0.fD.length : Int))))
   (Be (fun (v4 : Int) =>
    Dm N p0 j1 n1 (v4, (wI .i64 (v1.2 + 1))))
   fun j4 =>
   (A5 p0.fD v1.2).bind fun v5 =>
   AU ((decide (0 ≤ v5)))
    (j4 (wI .i64 (v1.1 + 1)))
    (j4 v1.1))
   (j1 v1.1)
def Ct (N : Nat) (p0 : Af) (v7 : (List Af) × Int) (j12 : ((List Int)) → Option ((List Af))) : Nat → ((List Int) × Int × Int) → Option ((List Af))
 | 0, _ => none
 | n12 + 1, v12 =>
  AU ((decide (v12.2.2 < (p0.fD.length : Int))))
   (Be (fun (v15 : (List Int) × Int) =>
    Ct N p0 v7 j12 n12 (v15.1, v15.2, (wI .i64 (v12.2.2 + 1))))
   fun j15 =>
   (A5 p0.fD v12.2.2).bind fun v16 =>
   AU ((decide (v16 < 0)))
    (j15 (v12.1, v12.2.1))
    (Be (fun (v18 : (List Int)) =>
     j15 (v18, (wI .i64 (v12.2.1 + 1))))
    fun j18 =>
    (Eo (0 ≤ v12.2.1)).bind fun _ =>
    AU (((Int.tmod ((FU .i64 v7.2 v12.2.1)) 2) == 1))
     ((A5 v12.1 v12.2.2).bind fun _ =>
     j18 (v12.1.set ((v12.2.2).toNat) ((-1))))
     (j18 v12.1)))
   (j12 v12.1)
def BV (N : Nat) (p0 : Af) (v2 : Int) (j7 : ((List Af)) → Option ((List Af))) : Nat → ((List Af) × Int) → Option ((List Af))
 | 0, _ => none
 | n7 + 1, v7 =>
  (Eo (0 ≤ v2)).bind fun _ =>
  AU ((decide (v7.2 < (DC .i64 1 v2))))
   ((FG N p0).bind fun v11 =>
   Ct N p0 v7 (fun (v13 : (List Int)) =>
    (Eo (v7.1.length + (([(Af.mk v11.fG v13 v11.fH)] : List Af)).length ≤ DU)).bind fun _ =>
    BV N p0 v2 j7 n7 (v7.1 ++ (([(Af.mk v11.fG v13 v11.fH)] : List Af)), (wI .i64 (v7.2 + 1)))) N (v11.fD, 0, 0))
   (j7 v7.1)
def ES (N : Nat) (p0 : Af) : Option ((List Af)) :=
 Dm N p0 (fun (v2 : Int) =>
  BV N p0 v2 (fun (v8 : (List Af)) =>
   some v8) N (([] : List Af), 0)) N (0, 0)
def Cu (_ : Nat) (p0 : Af) (p1 : Int) : Option Int :=
 (A5 p0.fG p1).bind fun v1 =>
 (Eo (0 ≤ v1)).bind fun _ =>
 Be (fun (v3 : Int) =>
  some v3)
 fun j3 =>
 (A5 p0.fD p1).bind fun v4 =>
 AU ((decide (0 ≤ v4)))
  ((A5 p0.fD p1).bind fun v6 =>
  (Eo (0 ≤ v6)).bind fun _ =>
  j3 (Re .u8 ((DC .u8 1 v1)) ((DC .u8 1 v6))))
  (j3 (DC .u8 1 v1))
def Df (_ : Nat) (p0 : Int) (p1 : Int) : Option Bool :=
 (Eo (0 ≤ p1)).bind fun _ =>
 some (((HI .u8 ((FU .u8 p0 p1)) 1) == 1))
def BI (N : Nat) (p0 : Ac) (p1 : Af) (v1 : (List Aa) × Int) (v4 : An) (v10 : (List Aa) × Int) (j17 : ((List Aa) × Bool) → Option ((List Aa))) : Nat → ((List Aa) × Bool × Int) → Option ((List Aa))
 | 0, _ => none
 | n17 + 1, v17 =>
  (A5 p0.fE v4.fO).bind fun v19 =>
  AU ((decide (v17.2.2 < v19)))
   (Be (fun (v21 : (List Aa) × Bool) =>
    BI N p0 p1 v1 v4 v10 j17 n17 (v21.1, v21.2, (wI .i64 (v17.2.2 + 1))))
   fun j21 =>
   (Cu N p1 v4.fO).bind fun v22 =>
   (Df N v22 v17.2.2).bind fun v23 =>
   AU ((!v23))
    (j21 (v17.1, v17.2.1))
    (Be (fun (v25 : Bool) =>
     Be (fun (v29 : Bool) =>
      AU v29
       ((Eo (v17.1.length + (([(Aa.mk v1.2 v10.2 v17.2.2)] : List Aa)).length ≤ DU)).bind fun _ =>
       j21 (v17.1 ++ (([(Aa.mk v1.2 v10.2 v17.2.2)] : List Aa)), v25))
       (j21 (v17.1, v25)))
     fun j29 =>
     AU ((!v4.fR))
      ((A5 v4.fN v10.2).bind fun v31 =>
      (A5 v31 v17.2.2).bind fun v32 =>
      j29 (!v32))
      (j29 false))
    fun j25 =>
    AU v17.2.1
     (j25 true)
     ((A5 v4.fN v10.2).bind fun v27 =>
     (A5 v27 v17.2.2).bind fun v28 =>
     j25 v28)))
   (j17 (v17.1, v17.2.1))
def B9 (N : Nat) (p0 : Ac) (p1 : Af) (v1 : (List Aa) × Int) (v4 : An) (v6 : Int) (j10 : ((List Aa)) → Option ((List Aa))) : Nat → ((List Aa) × Int) → Option ((List Aa))
 | 0, _ => none
 | n10 + 1, v10 =>
  (A5 p0.fE v4.fJ).bind fun v12 =>
  AU ((decide (v10.2 < v12)))
   (Be (fun (v14 : (List Aa)) =>
    B9 N p0 p1 v1 v4 v6 j10 n10 (v14, (wI .i64 (v10.2 + 1))))
   fun j14 =>
   (Df N v6 v10.2).bind fun v15 =>
   AU ((!v15))
    (j14 v10.1)
    (BI N p0 p1 v1 v4 v10 (fun (v18 : (List Aa) × Bool) =>
     Be (fun (v35 : Bool) =>
      AU v35
       ((Eo (v18.1.length + (([(Aa.mk v1.2 v10.2 ((-1)))] : List Aa)).length ≤ DU)).bind fun _ =>
       j14 (v18.1 ++ (([(Aa.mk v1.2 v10.2 ((-1)))] : List Aa))))
       (j14 v18.1))
     fun j35 =>
     AU v4.fR
      (j35 (!v18.2))
      (j35 false)) N (v10.1, false, 0)))
   (j10 v10.1)
def Dw (N : Nat) (p0 : Ac) (p1 : Af) (j1 : ((List Aa)) → Option ((List Aa))) : Nat → ((List Aa) × Int) → Option ((List Aa))
 | 0, _ => none
 | n1 + 1, v1 =>
  AU ((decide (v1.2 < (p0.fF.length : Int))))
   ((A5 p0.fF v1.2).bind fun v4 =>
   (Cu N p1 v4.fJ).bind fun v5 =>
   Be (fun (v6 : Int) =>
    B9 N p0 p1 v1 v4 v6 (fun (v11 : (List Aa)) =>
     Dw N p0 p1 j1 n1 (v11, (wI .i64 (v1.2 + 1)))) N (v1.1, 0))
   fun j6 =>
   (Bj N v4).bind fun v7 =>
   AU v7
    ((A5 p1.fH v1.2).bind fun v9 =>
    j6 v9)
    (j6 v5))
   (j1 v1.1)
def E0 (N : Nat) (p0 : Ac) (p1 : Af) : Option ((List Aa)) :=
 Dw N p0 p1 (fun (v2 : (List Aa)) =>
  some v2) N (([] : List Aa), 0)
def FD (N : Nat) (p0 : Ac) (p1 : Af) : Option Bool :=
 (E0 N p0 p1).bind fun v1 =>
 some (((v1.length : Int) == 0))
def CJ (N : Nat) (p0 : Ac) (v1 : (List Af)) (j2 : Unit → Option Bool) : Nat → Int → Option Bool
 | 0, _ => none
 | n2 + 1, v2 =>
  AU ((decide (v2 < (v1.length : Int))))
   ((A5 v1 v2).bind fun v5 =>
   (FD N p0 v5).bind fun v6 =>
   AU ((!v6))
    (some false)
    (CJ N p0 v1 j2 n2 (wI .i64 (v2 + 1))))
   (j2 ())
def Ee (N : Nat) (p0 : Ac) (p1 : Af) : Option Bool :=
 (ES N p1).bind fun v1 =>
 CJ N p0 v1 (fun (_ : Unit) =>
  some true) N 0
def CQ (N : Nat) (p0 : Ac) (p1 : Af) (j7 : Unit → Option Int) : Nat → Int → Option Int
 | 0, _ => none
 | n7 + 1, v7 =>
  AU ((decide (v7 < (p0.fE.length : Int))))
   (Be (fun (v10 : Bool) =>
    AU v10
     (some 7)
     ((A5 p1.fG v7).bind fun v21 =>
     (A5 p1.fD v7).bind fun v22 =>
     AU ((v21 == v22))
      (some 1)
      (CQ N p0 p1 j7 n7 (wI .i64 (v7 + 1)))))
   fun j10 =>
   (A5 p1.fG v7).bind fun v11 =>
   AU ((decide (v11 < 0)))
    (j10 true)
    ((A5 p1.fG v7).bind fun v13 =>
    (A5 p0.fE v7).bind fun v14 =>
    AU ((decide (v14 ≤ v13)))
     (j10 true)
     ((A5 p1.fD v7).bind fun v16 =>
     AU ((decide (v16 < (-1))))
      (j10 true)
      ((A5 p1.fD v7).bind fun v18 =>
      (A5 p0.fE v7).bind fun v19 =>
      j10 (decide (v19 ≤ v18))))))
   (j7 ())
def CC (N : Nat) (p0 : Ac) (p1 : Af) (j24 : Unit → Option Int) : Nat → Int → Option Int
 | 0, _ => none
 | n24 + 1, v24 =>
  AU ((decide (v24 < (p0.fF.length : Int))))
   ((A5 p0.fF v24).bind fun v27 =>
   (A5 p0.fE v27.fJ).bind fun v28 =>
   (Eo (0 ≤ v28)).bind fun _ =>
   Be (fun (v30 : Bool) =>
    AU v30
     (some 1)
     (CC N p0 p1 j24 n24 (wI .i64 (v24 + 1))))
   fun j30 =>
   (Bj N v27).bind fun v31 =>
   AU ((!v31))
    ((A5 p1.fH v24).bind fun v33 =>
    AU ((v33 != 0))
     (j30 true)
     ((Bj N v27).bind fun v35 =>
     AU v35
      ((A5 p1.fH v24).bind fun v37 =>
      AU (((Er .u8 v37 ((wI .u8 ((DC .u8 1 v28) - 1)))) != 0))
       (j30 true)
       ((Cu N p1 v27.fJ).bind fun v39 =>
       (A5 p1.fH v24).bind fun v40 =>
       j30 ((Er .u8 v39 v40) != 0)))
      (j30 false)))
    ((Bj N v27).bind fun v41 =>
    AU v41
     ((A5 p1.fH v24).bind fun v43 =>
     AU (((Er .u8 v43 ((wI .u8 ((DC .u8 1 v28) - 1)))) != 0))
      (j30 true)
      ((Cu N p1 v27.fJ).bind fun v45 =>
      (A5 p1.fH v24).bind fun v46 =>
      j30 ((Er .u8 v45 v46) != 0)))
     (j30 false)))
   (j24 ())
def Em (N : Nat) (p0 : Ac) (p1 : Af) : Option Int :=
 (Dj N p0).bind fun v1 =>
 AU ((v1 != 0))
  (some v1)
  (Be (fun (v3 : Bool) =>
   AU v3
    (some 6)
    (CQ N p0 p1 (fun (_ : Unit) =>
     CC N p0 p1 (fun (_ : Unit) =>
      some 0) N 0) N 0))
  fun j3 =>
  AU (((p1.fG.length : Int) != (p0.fE.length : Int)))
   (j3 true)
   (AU (((p1.fD.length : Int) != (p0.fE.length : Int)))
    (j3 true)
    (j3 ((p1.fH.length : Int) != (p0.fF.length : Int)))))
def F2 (_ : Nat) (p0 : Ag) : Option Bool :=
 Be (fun (v1 : Bool) =>
  some v1)
 fun j1 =>
 AU ((decide (1 ≤ p0.fI)))
  (AU ((decide (p0.fI ≤ 4)))
   (AU ((decide (0 ≤ p0.fL)))
    (AU ((decide (0 ≤ p0.fT)))
     (AU ((p0.fI == 1))
      (j1 true)
      (j1 (p0.fT == 0)))
     (j1 false))
    (j1 false))
   (j1 false))
  (j1 false)
def Cy (N : Nat) (p0 : Ac) (p2 : Ag) (j12 : ((List Int)) → Option (Af × Bool)) : Nat → ((List Int) × Int) → Option (Af × Bool)
 | 0, _ => none
 | n12 + 1, v12 =>
  AU ((decide (v12.2 < (p0.fF.length : Int))))
   (Be (fun (v15 : (List Int)) =>
    Cy N p0 p2 j12 n12 (v15, (wI .i64 (v12.2 + 1))))
   fun j15 =>
   Be (fun (v16 : Bool) =>
    AU v16
     ((A5 v12.1 v12.2).bind fun v22 =>
     (Eo (0 ≤ p2.fT)).bind fun _ =>
     (A5 v12.1 v12.2).bind fun _ =>
     j15 (v12.1.set ((v12.2).toNat) ((Re .u8 v22 ((DC .u8 1 p2.fT))))))
     (j15 v12.1))
   fun j16 =>
   (A5 p0.fF v12.2).bind fun v17 =>
   AU ((v17.fJ == p2.fL))
    ((A5 p0.fF v12.2).bind fun v19 =>
    (Bj N v19).bind fun v20 =>
    j16 v20)
    (j16 false))
   (j12 v12.1)
def B8 (N : Nat) (p0 : Ac) (p1 : Af) (p2 : Ag) (v32 : An) (v35 : Int) (j38 : Unit → Option (Af × Bool)) : Nat → Int → Option (Af × Bool)
 | 0, _ => none
 | n38 + 1, v38 =>
  (A5 p0.fE v32.fJ).bind fun v40 =>
  AU ((decide (v38 < v40)))
   (Be (fun (v42 : Bool) =>
    Be (fun (v47 : Bool) =>
     AU v47
      (some ((Af.mk (([] : List Int)) (([] : List Int)) (([] : List Int))), false))
      (B8 N p0 p1 p2 v32 v35 j38 n38 (wI .i64 (v38 + 1))))
    fun j47 =>
    AU v42
     (AU ((v32.fI == 4))
      ((A5 v32.fQ v38).bind fun v50 =>
      (A5 p1.fG v32.fJ).bind fun v51 =>
      (A5 v50 v51).bind fun v52 =>
      j47 (!v52))
      (j47 false))
     (j47 false))
   fun j42 =>
   (A5 p1.fH p2.fL).bind fun v43 =>
   (Df N v43 v38).bind fun v44 =>
   AU v44
    ((Df N v35 v38).bind fun v46 =>
    j42 (!v46))
    (j42 false))
   (j38 ())
def DI (N : Nat) (p0 : Ac) (p1 : Af) (p2 : Ag) : Option (Af × Bool) :=
 (Eo ((([] : List Int)).length + p1.fG.length ≤ DU)).bind fun _ =>
 (Eo ((([] : List Int)).length + p1.fD.length ≤ DU)).bind fun _ =>
 (Eo ((([] : List Int)).length + p1.fH.length ≤ DU)).bind fun _ =>
 Be (fun (v4 : (List Int) × (List Int) × (List Int)) =>
  some ((Af.mk v4.1 v4.2.1 v4.2.2), true))
 fun j4 =>
 AU ((p2.fI == 1))
  (Be (fun (v6 : Bool) =>
   AU v6
    (some ((Af.mk (([] : List Int)) (([] : List Int)) (([] : List Int))), false))
    ((A5 ((([] : List Int)) ++ p1.fD) p2.fL).bind fun _ =>
    Cy N p0 p2 (fun (v13 : (List Int)) =>
     j4 ((([] : List Int)) ++ p1.fG, ((([] : List Int)) ++ p1.fD).set ((p2.fL).toNat) p2.fT, v13)) N ((([] : List Int)) ++ p1.fH, 0)))
  fun j6 =>
  (A5 p1.fD p2.fL).bind fun v7 =>
  AU ((decide (0 ≤ v7)))
   (j6 true)
   ((A5 p1.fG p2.fL).bind fun v9 =>
   j6 (p2.fT == v9)))
  (AU ((p2.fI == 2))
   ((A5 p1.fD p2.fL).bind fun v26 =>
   AU ((decide (v26 < 0)))
    (some ((Af.mk (([] : List Int)) (([] : List Int)) (([] : List Int))), false))
    ((A5 p1.fD p2.fL).bind fun v28 =>
    (A5 ((([] : List Int)) ++ p1.fG) p2.fL).bind fun _ =>
    (A5 ((([] : List Int)) ++ p1.fD) p2.fL).bind fun _ =>
    j4 (((([] : List Int)) ++ p1.fG).set ((p2.fL).toNat) v28, ((([] : List Int)) ++ p1.fD).set ((p2.fL).toNat) ((-1)), (([] : List Int)) ++ p1.fH)))
   (AU ((p2.fI == 3))
    ((A5 p0.fF p2.fL).bind fun v32 =>
    (Bj N v32).bind fun v33 =>
    AU ((!v33))
     (some ((Af.mk (([] : List Int)) (([] : List Int)) (([] : List Int))), false))
     ((Cu N p1 v32.fJ).bind fun v35 =>
     (A5 p1.fH p2.fL).bind fun v36 =>
     AU ((v36 == v35))
      (some ((Af.mk (([] : List Int)) (([] : List Int)) (([] : List Int))), false))
      (B8 N p0 p1 p2 v32 v35 (fun (_ : Unit) =>
       (A5 ((([] : List Int)) ++ p1.fH) p2.fL).bind fun _ =>
       j4 ((([] : List Int)) ++ p1.fG, (([] : List Int)) ++ p1.fD, ((([] : List Int)) ++ p1.fH).set ((p2.fL).toNat) v35)) N 0)))
    ((A5 p1.fD p2.fL).bind fun v55 =>
    AU ((decide (v55 < 0)))
     (some ((Af.mk (([] : List Int)) (([] : List Int)) (([] : List Int))), false))
     ((A5 ((([] : List Int)) ++ p1.fD) p2.fL).bind fun _ =>
     j4 ((([] : List Int)) ++ p1.fG, ((([] : List Int)) ++ p1.fD).set ((p2.fL).toNat) ((-1)), (([] : List Int)) ++ p1.fH)))))
def E5 (N : Nat) (p0 : Ac) (p1 : Af) (p2 : Ag) : Option (Af × Int) :=
 (Em N p0 p1).bind fun v1 =>
 AU ((v1 != 0))
  (some ((Af.mk (([] : List Int)) (([] : List Int)) (([] : List Int))), v1))
  ((F2 N p2).bind fun v3 =>
  AU ((!v3))
   (some ((Af.mk (([] : List Int)) (([] : List Int)) (([] : List Int))), 1))
   (Be (fun (v5 : Bool) =>
    AU v5
     (some ((Af.mk (([] : List Int)) (([] : List Int)) (([] : List Int))), 4))
     (Be (fun (v11 : Bool) =>
      AU v11
       (some ((Af.mk (([] : List Int)) (([] : List Int)) (([] : List Int))), 4))
       ((DI N p0 p1 p2).bind fun v15 =>
       AU ((!v15.2))
        (some ((Af.mk (([] : List Int)) (([] : List Int)) (([] : List Int))), 11))
        (some (v15.1, 0))))
     fun j11 =>
     AU ((p2.fI == 1))
      ((A5 p0.fE p2.fL).bind fun v13 =>
      j11 (decide (v13 ≤ p2.fT)))
      (j11 false)))
   fun j5 =>
   AU ((p2.fI == 3))
    (AU ((decide ((p0.fF.length : Int) ≤ p2.fL)))
     (j5 true)
     (AU ((p2.fI != 3))
      (j5 (decide ((p0.fE.length : Int) ≤ p2.fL)))
      (j5 false)))
    (AU ((p2.fI != 3))
     (j5 (decide ((p0.fE.length : Int) ≤ p2.fL)))
     (j5 false))))
def CS (N : Nat) (p0 : Ac) (p1 : Af) (v1 : (List Ag) × Int) (v4 : (List Ag) × Int) (j7 : ((List Ag)) → Option ((List Ag))) : Nat → ((List Ag) × Int) → Option ((List Ag))
 | 0, _ => none
 | n7 + 1, v7 =>
  AU ((decide (v7.2 < 6)))
   (Be (fun (v10 : (List Ag)) =>
    CS N p0 p1 v1 v4 j7 n7 (v10, (wI .i64 (v7.2 + 1))))
   fun j10 =>
   (E5 N p0 p1 ((Ag.mk v1.2 v4.2 v7.2))).bind fun v11 =>
   AU ((v11.2 == 0))
    ((Eo (v7.1.length + (([(Ag.mk v1.2 v4.2 v7.2)] : List Ag)).length ≤ DU)).bind fun _ =>
    j10 (v7.1 ++ (([(Ag.mk v1.2 v4.2 v7.2)] : List Ag))))
    (j10 v7.1))
   (j7 v7.1)
def CT (N : Nat) (p0 : Ac) (p1 : Af) (v1 : (List Ag) × Int) (j4 : ((List Ag)) → Option ((List Ag))) : Nat → ((List Ag) × Int) → Option ((List Ag))
 | 0, _ => none
 | n4 + 1, v4 =>
  AU ((decide (v4.2 < (Xb ((p0.fE.length : Int)) ((p0.fF.length : Int))))))
   (CS N p0 p1 v1 v4 (fun (v8 : (List Ag)) =>
    CT N p0 p1 v1 j4 n4 (v8, (wI .i64 (v4.2 + 1)))) N (v4.1, 0))
   (j4 v4.1)
def BQ (N : Nat) (p0 : Ac) (p1 : Af) (j1 : ((List Ag)) → Option ((List Ag))) : Nat → ((List Ag) × Int) → Option ((List Ag))
 | 0, _ => none
 | n1 + 1, v1 =>
  AU ((decide (v1.2 ≤ 3)))
   (CT N p0 p1 v1 (fun (v5 : (List Ag)) =>
    BQ N p0 p1 j1 n1 (v5, (wI .i64 (v1.2 + 1)))) N (v1.1, 0))
   (j1 v1.1)
def F1 (N : Nat) (p0 : Ac) (p1 : Af) : Option ((List Ag)) :=
 BQ N p0 p1 (fun (v2 : (List Ag)) =>
  some v2) N (([] : List Ag), 1)
def Ew (N : Nat) (p0 : List Int) (p1 : List Int) (j1 : Unit → Option Int) : Nat → Int → Option Int
 | 0, _ => none
 | n1 + 1, v1 =>
  Be (fun (v3 : Bool) =>
   AU v3
    ((A5 p0 v1).bind fun v6 =>
    (A5 p1 v1).bind fun v7 =>
    AU ((decide (v6 < v7)))
     (some ((-1)))
     ((A5 p0 v1).bind fun v9 =>
     (A5 p1 v1).bind fun v10 =>
     AU ((decide (v10 < v9)))
      (some 1)
      (Ew N p0 p1 j1 n1 (wI .i64 (v1 + 1)))))
    (j1 ()))
  fun j3 =>
  AU ((decide (v1 < (p0.length : Int))))
   (j3 (decide (v1 < (p1.length : Int))))
   (j3 false)
def EC (N : Nat) (p0 : List Int) (p1 : List Int) : Option Int :=
 Ew N p0 p1 (fun (_ : Unit) =>
  AU ((decide ((p0.length : Int) < (p1.length : Int))))
   (some ((-1)))
   (AU ((decide ((p1.length : Int) < (p0.length : Int))))
    (some 1)
    (some 0))) N 0
def DN (N : Nat) (p0 : List Int) (j1 : ((List Int)) → Option ((List Int))) : Nat → ((List Int) × Int) → Option ((List Int))
 | 0, _ => none
 | n1 + 1, v1 =>
  AU ((decide (v1.2 < (p0.length : Int))))
   ((A5 p0 v1.2).bind fun v4 =>
   (Eo (v1.1.length + (([(wI .i64 v4)] : List Int)).length ≤ DU)).bind fun _ =>
   DN N p0 j1 n1 (v1.1 ++ (([(wI .i64 v4)] : List Int)), (wI .i64 (v1.2 + 1))))
   (j1 v1.1)
def Et (N : Nat) (p0 : List Int) : Option ((List Int)) :=
 DN N p0 (fun (v2 : (List Int)) =>
  some v2) N (([] : List Int), 0)
def Fj (N : Nat) (p0 : Af) (p1 : Af) : Option Int :=
 (EC N p0.fG p1.fG).bind fun v1 =>
 AU ((v1 != 0))
  (some v1)
  ((EC N p0.fD p1.fD).bind fun v3 =>
  AU ((v3 != 0))
   (some v3)
   ((Et N p0.fH).bind fun v5 =>
   (Et N p1.fH).bind fun v6 =>
   (EC N v5 v6).bind fun v7 =>
   some v7))
def zFS (N : Nat) (p0 : Af) (p1 : Af) : Option Bool :=
 (Fj N p0 p1).bind fun v1 =>
 some ((v1 == 0))
def C7 (N : Nat) (p0 : List AK) (p1 : Af) (j1 : Unit → Option Int) : Nat → Int → Option Int
 | 0, _ => none
 | n1 + 1, v1 =>
  AU ((decide (v1 < (p0.length : Int))))
   ((A5 p0 v1).bind fun v4 =>
   (zFS N ((Af.mk v4.fY.fG v4.fY.fD v4.fY.fH)) p1).bind fun v5 =>
   AU v5
    (some v1)
    (C7 N p0 p1 j1 n1 (wI .i64 (v1 + 1))))
   (j1 ())
def Fq (N : Nat) (p0 : List AK) (p1 : Af) : Option Int :=
 C7 N p0 p1 (fun (_ : Unit) =>
  some ((-1))) N 0
def Ce (N : Nat) (p0 : Ac) (p2 : Int) (v1 : (List AK) × Int) (v5 : (List Ag)) (j6 : ((List AK)) → Option ((List AK) × Bool)) : Nat → ((List AK) × Int) → Option ((List AK) × Bool)
 | 0, _ => none
 | n6 + 1, v6 =>
  AU ((decide (v6.2 < (v5.length : Int))))
   ((A5 v6.1 v1.2).bind fun v9 =>
   (A5 v5 v6.2).bind fun v10 =>
   (DI N p0 ((Af.mk v9.fY.fG v9.fY.fD v9.fY.fH)) v10).bind fun v11 =>
   Be (fun (v12 : (List AK)) =>
    AU ((decide (p2 < (v12.length : Int))))
     (some (([] : List AK), false))
     (Ce N p0 p2 v1 v5 j6 n6 (v12, (wI .i64 (v6.2 + 1)))))
   fun j12 =>
   Be (fun (v13 : Bool) =>
    AU v13
     ((A5 v5 v6.2).bind fun v18 =>
     (Eo (v6.1.length + (([(AK.mk v11.1 v1.2 v18)] : List AK)).length ≤ DU)).bind fun _ =>
     j12 (v6.1 ++ (([(AK.mk v11.1 v1.2 v18)] : List AK))))
     (j12 v6.1))
   fun j13 =>
   (Ee N p0 v11.1).bind fun v14 =>
   AU v14
    ((Fq N v6.1 v11.1).bind fun v16 =>
    j13 (decide (v16 < 0)))
    (j13 false))
   (j6 v6.1)
def Cg (N : Nat) (p0 : Ac) (p2 : Int) (j1 : ((List AK)) → Option ((List AK) × Bool)) : Nat → ((List AK) × Int) → Option ((List AK) × Bool)
 | 0, _ => none
 | n1 + 1, v1 =>
  AU ((decide (v1.2 < (v1.1.length : Int))))
   ((A5 v1.1 v1.2).bind fun v4 =>
   (F1 N p0 ((Af.mk v4.fY.fG v4.fY.fD v4.fY.fH))).bind fun v5 =>
   Ce N p0 p2 v1 v5 (fun (v7 : (List AK)) =>
    Cg N p0 p2 j1 n1 (v7, (wI .i64 (v1.2 + 1)))) N (v1.1, 0))
   (j1 v1.1)
def E9 (N : Nat) (p0 : Ac) (p1 : Af) (p2 : Int) : Option ((List AK) × Bool) :=
 Cg N p0 p2 (fun (v2 : (List AK)) =>
  some (v2, true)) N (([(AK.mk p1 ((-1)) ((Ag.mk 0 0 0)))] : List AK), 0)
def F4 (N : Nat) (p0 : Ac) (p1 : Int) : Option Bool :=
 (E3 N p0).bind fun v1 =>
 Be (fun (v2 : Bool) =>
  AU v2
   (some true)
   ((E9 N p0 v1.1 p1).bind fun v6 =>
   some v6.2))
 fun j2 =>
 AU ((v1.2 != 0))
  (j2 true)
  ((Ee N p0 v1.1).bind fun v4 =>
  j2 (!v4))
def GQ (N : Nat) (p0 : Ac) : Option Bool :=
 (Fn N p0).bind fun v1 =>
 Be (fun (v2 : Bool) =>
  some v2)
 fun j2 =>
 AU ((decide ((v1.length : Int) ≤ 7)))
  ((Gf N p0 v1).bind fun v4 =>
  (F4 N v4 60).bind fun v5 =>
  j2 v5)
  (j2 false)
def G1 (N : Nat) (p0 : B1) : Option (Ac × Bool) :=
 (GO N p0).bind fun v1 =>
 Be (fun (v2 : Bool) =>
  some (v1.1, v2))
 fun j2 =>
 AU v1.2
  (AU ((decide ((v1.1.fE.length : Int) ≤ 2)))
   ((GQ N v1.1).bind fun v5 =>
   j2 v5)
   (j2 false))
  (j2 false)
def Es (_ : Nat) : Option Ac :=
 some ((Ac.mk (([2, 2] : List Int)) (([0, 0] : List Int)) (([1, 1] : List Int)) (([(An.mk 1 0 1 false (([([true, false] : List Bool), ([false, true] : List Bool)] : List (List Bool))) (([] : List (List Bool))))] : List An))))
def Fu (_ : Nat) (p0 : Int) (p1 : Int) : Option Bool :=
 Be (fun (v1 : Bool) =>
  some v1)
 fun j1 =>
 AU ((decide (0 ≤ p0)))
  (j1 (decide (p0 < p1)))
  (j1 false)
def Ix (_ : Nat) (p0 : Int) (p1 : Bool) : Option Bool :=
 Be (fun (v1 : Bool) =>
  some v1)
 fun j1 =>
 AU ((p0 == 1))
  (j1 true)
  (AU ((p0 == 2))
   (j1 true)
   (AU ((p0 == 3))
    (j1 (!p1))
    (AU ((p0 == 4))
     (j1 (!p1))
     (j1 false))))
def Fo (_ : Nat) (p0 : List Bool) (p1 : Int) : Option Bool :=
 some (((p0.length : Int) != p1))
def BJ (N : Nat) (p0 : List (List Bool)) (p1 : (List Bool) → Option Bool) (j1 : Unit → Option Int) : Nat → Int → Option Int
 | 0, _ => none
 | n1 + 1, v1 =>
  AU ((decide (v1 < (p0.length : Int))))
   ((A5 p0 v1).bind fun v4 =>
   (p1 v4).bind fun v5 =>
   AU v5
    (some v1)
    (BJ N p0 p1 j1 n1 (wI .i64 (v1 + 1))))
   (j1 ())
def EH (N : Nat) (p0 : List (List Bool)) (p1 : (List Bool) → Option Bool) : Option Int :=
 BJ N p0 p1 (fun (_ : Unit) =>
  some ((-1))) N 0
def D6 (N : Nat) (p0 : List (List Bool)) (p1 : (List Bool) → Option Bool) : Option Bool :=
 (EH N p0 p1).bind fun v1 =>
 some ((decide (0 ≤ v1)))
def GN (N : Nat) (p0 : List (List Bool)) (p1 : Int) (p2 : Int) : Option Bool :=
 Be (fun (v1 : Bool) =>
  some v1)
 fun j1 =>
 AU (((p0.length : Int) == p1))
  ((D6 N p0 ((fun (x : List Bool) => Fo N x p2))).bind fun v3 =>
  j1 (!v3))
  (j1 false)
def Ek (N : Nat) (p1 : An) (j19 : Unit → Option Int) : Nat → Int → Option Int
 | 0, _ => none
 | n19 + 1, v19 =>
  AU ((decide (v19 < (p1.fQ.length : Int))))
   ((A5 p1.fQ v19).bind fun v22 =>
   (A5 v22 v19).bind fun v23 =>
   AU ((!v23))
    (some 1)
    (Ek N p1 j19 n19 (wI .i64 (v19 + 1))))
   (j19 ())
def H6 (N : Nat) (p0 : Ac) (p1 : An) : Option Int :=
 (Ix N p1.fI p1.fR).bind fun v1 =>
 AU ((!v1))
  (some 1)
  (Be (fun (v3 : Bool) =>
   AU v3
    (some 4)
    ((A5 p0.fE p1.fJ).bind fun v8 =>
    Be (fun (v9 : Bool) =>
     AU v9
      (some 6)
      (Ek N p1 (fun (_ : Unit) =>
       some 0) N 0))
    fun j9 =>
    (A5 p0.fE p1.fO).bind fun v10 =>
    (GN N p1.fN v8 v10).bind fun v11 =>
    AU ((!v11))
     (j9 true)
     (AU ((p1.fI == 4))
      ((GN N p1.fQ v8 v8).bind fun v14 =>
      AU ((!v14))
       (j9 true)
       (AU ((!((p1.fI == 4))))
        (j9 (decide (0 < (p1.fQ.length : Int))))
        (j9 false)))
      (AU ((!((p1.fI == 4))))
       (j9 (decide (0 < (p1.fQ.length : Int))))
       (j9 false)))))
  fun j3 =>
  (Fu N p1.fJ ((p0.fE.length : Int))).bind fun v4 =>
  AU ((!v4))
   (j3 true)
   ((Fu N p1.fO ((p0.fE.length : Int))).bind fun v6 =>
   j3 (!v6)))
def CB (N : Nat) (p0 : Ac) (j7 : Unit → Option Int) : Nat → Int → Option Int
 | 0, _ => none
 | n7 + 1, v7 =>
  AU ((decide (v7 < (p0.fE.length : Int))))
   ((A5 p0.fE v7).bind fun v10 =>
   Be (fun (v11 : Bool) =>
    AU v11
     (some 7)
     (CB N p0 j7 n7 (wI .i64 (v7 + 1))))
   fun j11 =>
   AU ((decide (v10 < 1)))
    (j11 true)
    (AU ((decide (6 < v10)))
     (j11 true)
     ((A5 p0.fK v7).bind fun v14 =>
     (Fu N v14 v10).bind fun v15 =>
     AU ((!v15))
      (j11 true)
      ((A5 p0.fP v7).bind fun v17 =>
      (Fu N v17 v10).bind fun v18 =>
      j11 (!v18)))))
   (j7 ())
def Ck (N : Nat) (p0 : Ac) (j20 : Unit → Option Int) : Nat → Int → Option Int
 | 0, _ => none
 | n20 + 1, v20 =>
  AU ((decide (v20 < (p0.fF.length : Int))))
   ((A5 p0.fF v20).bind fun v23 =>
   (H6 N p0 v23).bind fun v24 =>
   AU ((v24 != 0))
    (some v24)
    (Ck N p0 j20 n20 (wI .i64 (v20 + 1))))
   (j20 ())
def BU (N : Nat) (p0 : Ac) : Option Int :=
 Be (fun (v1 : Bool) =>
  AU v1
   (some 3)
   (Be (fun (v4 : Bool) =>
    AU v4
     (some 6)
     (CB N p0 (fun (_ : Unit) =>
      Ck N p0 (fun (_ : Unit) =>
       some 0) N 0) N 0))
   fun j4 =>
   AU (((p0.fK.length : Int) != (p0.fE.length : Int)))
    (j4 true)
    (j4 ((p0.fP.length : Int) != (p0.fE.length : Int)))))
 fun j1 =>
 AU ((decide (6 < (p0.fE.length : Int))))
  (j1 true)
  (j1 (decide (12 < (p0.fF.length : Int))))
def D0 (N : Nat) (v1 : (List Aa) × Int) (v5 : (List Aa) × Int) (v8 : List Bool) (j9 : ((List Aa)) → Option ((List Aa))) : Nat → ((List Aa) × Int) → Option ((List Aa))
 | 0, _ => none
 | n9 + 1, v9 =>
  AU ((decide (v9.2 < (v8.length : Int))))
   (Be (fun (v12 : (List Aa)) =>
    D0 N v1 v5 v8 j9 n9 (v12, (wI .i64 (v9.2 + 1))))
   fun j12 =>
   (A5 v8 v9.2).bind fun v13 =>
   AU ((!v13))
    ((Eo (v9.1.length + (([(Aa.mk v1.2 v5.2 v9.2)] : List Aa)).length ≤ DU)).bind fun _ =>
    j12 (v9.1 ++ (([(Aa.mk v1.2 v5.2 v9.2)] : List Aa))))
    (j12 v9.1))
   (j9 v9.1)
def Dl (N : Nat) (v1 : (List Aa) × Int) (v4 : An) (j5 : ((List Aa)) → Option ((List Aa))) : Nat → ((List Aa) × Int) → Option ((List Aa))
 | 0, _ => none
 | n5 + 1, v5 =>
  AU ((decide (v5.2 < (v4.fN.length : Int))))
   ((A5 v4.fN v5.2).bind fun v8 =>
   D0 N v1 v5 v8 (fun (v10 : (List Aa)) =>
    Dl N v1 v4 j5 n5 (v10, (wI .i64 (v5.2 + 1)))) N (v5.1, 0))
   (j5 v5.1)
def CO (N : Nat) (p0 : Ac) (j1 : ((List Aa)) → Option ((List Aa))) : Nat → ((List Aa) × Int) → Option ((List Aa))
 | 0, _ => none
 | n1 + 1, v1 =>
  AU ((decide (v1.2 < (p0.fF.length : Int))))
   ((A5 p0.fF v1.2).bind fun v4 =>
   Dl N v1 v4 (fun (v6 : (List Aa)) =>
    CO N p0 j1 n1 (v6, (wI .i64 (v1.2 + 1)))) N (v1.1, 0))
   (j1 v1.1)
def EV (N : Nat) (p0 : Ac) : Option ((List Aa)) :=
 CO N p0 (fun (v2 : (List Aa)) =>
  some v2) N (([] : List Aa), 0)
def FQ (N : Nat) (p0 : Ac) : Option ((List Aa) × Int) :=
 (BU N p0).bind fun v1 =>
 AU ((v1 != 0))
  (some (([] : List Aa), v1))
  ((EV N p0).bind fun v3 =>
  some (v3, 0))
def EU (N : Nat) (v5 : Aa) (v7 : (List (List Aa))) (j8 : ((List (List Aa))) → Option ((List (List Aa)))) : Nat → ((List (List Aa)) × Int) → Option ((List (List Aa)))
 | 0, _ => none
 | n8 + 1, v8 =>
  AU ((decide (v8.2 < (v7.length : Int))))
   ((A5 v7 v8.2).bind fun v11 =>
   (Eo ((([v5] : List Aa)).length + v11.length ≤ DU)).bind fun _ =>
   (Eo (v8.1.length + (([(([v5] : List Aa)) ++ v11] : List (List Aa))).length ≤ DU)).bind fun _ =>
   EU N v5 v7 j8 n8 (v8.1 ++ (([(([v5] : List Aa)) ++ v11] : List (List Aa))), (wI .i64 (v8.2 + 1))))
   (j8 v8.1)
def Ef (N : Nat) (p0 : List Aa) (p1 : Int) (rc : (List Aa) → Int → Option ((List (List Aa)))) (j2 : ((List (List Aa))) → Option ((List (List Aa)))) : Nat → ((List (List Aa)) × Int) → Option ((List (List Aa)))
 | 0, _ => none
 | n2 + 1, v2 =>
  AU ((decide (v2.2 < (p0.length : Int))))
   ((A5 p0 v2.2).bind fun v5 =>
   (Eo ((0 : Int) ≤ (wI .i64 (v2.2 + 1)) ∧ ((wI .i64 (v2.2 + 1))).toNat ≤ p0.length ∧ p0.length ≤ p0.length)).bind fun _ =>
   (rc (((p0.drop ((wI .i64 (v2.2 + 1))).toNat).take (p0.length - ((wI .i64 (v2.2 + 1))).toNat))) ((wI .i64 (p1 - 1)))).bind fun v7 =>
   EU N v5 v7 (fun (v9 : (List (List Aa))) =>
    Ef N p0 p1 rc j2 n2 (v9, (wI .i64 (v2.2 + 1)))) N (v2.1, 0))
   (j2 v2.1)
def HL (N : Nat) (rc : (List Aa) → Int → Option ((List (List Aa)))) (p0 : List Aa) (p1 : Int) : Option ((List (List Aa))) :=
 AU ((p1 == 0))
  (some (([([] : List Aa)] : List (List Aa))))
  (Ef N p0 p1 rc (fun (v3 : (List (List Aa))) =>
   some v3) N (([] : List (List Aa)), 0))
def EG (N : Nat) : Nat → (List Aa) → Int → Option ((List (List Aa)))
 | 0, _, _ => none
 | k + 1, p0, p1 => HL N (EG N k) p0 p1
def JY (N : Nat) (p0 : List Aa) (p1 : Int) : Option ((List (List Aa))) := EG N N p0 p1
def A8 (_ : Nat) (p0 : List Int) : Option ((List Int)) :=
 (Eo ((([] : List Int)).length + p0.length ≤ DU)).bind fun _ =>
 some ((([] : List Int)) ++ p0)
def DL (_ : Nat) (p0 : List (List Bool)) : Option ((List (List Bool))) :=
 (Eo ((([] : List (List Bool))).length + p0.length ≤ DU)).bind fun _ =>
 some ((([] : List (List Bool))) ++ p0)
def Di (_ : Nat) (p0 : List Bool) : Option ((List Bool)) :=
 (Eo ((([] : List Bool)).length + p0.length ≤ DU)).bind fun _ =>
 some ((([] : List Bool)) ++ p0)
def El (N : Nat) (v1 : (List (List Bool))) (j3 : ((List (List Bool))) → Option An) : Nat → ((List (List Bool)) × Int) → Option An
 | 0, _ => none
 | n3 + 1, v3 =>
  AU ((decide (v3.2 < (v1.length : Int))))
   ((A5 v3.1 v3.2).bind fun v6 =>
   (Di N v6).bind fun v7 =>
   (A5 v3.1 v3.2).bind fun _ =>
   (Eo (((v3.2).toNat) + 1 = ((wI .i64 (v3.2 + 1))).toNat)).bind fun _ =>
   El N v1 j3 n3 (v3.1.set ((v3.2).toNat) v7, (wI .i64 (v3.2 + 1))))
   ((Eo ((v3.2).toNat = v3.1.length)).bind fun _ =>
   j3 v3.1)
def Ci (N : Nat) (v2 : (List (List Bool))) (j11 : ((List (List Bool))) → Option An) : Nat → ((List (List Bool)) × Int) → Option An
 | 0, _ => none
 | n11 + 1, v11 =>
  AU ((decide (v11.2 < (v2.length : Int))))
   ((A5 v11.1 v11.2).bind fun v14 =>
   (Di N v14).bind fun v15 =>
   (A5 v11.1 v11.2).bind fun _ =>
   (Eo (((v11.2).toNat) + 1 = ((wI .i64 (v11.2 + 1))).toNat)).bind fun _ =>
   Ci N v2 j11 n11 (v11.1.set ((v11.2).toNat) v15, (wI .i64 (v11.2 + 1))))
   ((Eo ((v11.2).toNat = v11.1.length)).bind fun _ =>
   j11 v11.1)
def G4 (N : Nat) (p0 : An) : Option An :=
 (DL N p0.fN).bind fun v1 =>
 (DL N p0.fQ).bind fun v2 =>
 El N v1 (fun (v4 : (List (List Bool))) =>
  Ci N v2 (fun (v12 : (List (List Bool))) =>
   some ((An.mk p0.fI p0.fJ p0.fO p0.fR v4 v12))) N (v2, 0)) N (v1, 0)
def D2 (N : Nat) (p0 : Ac) (j6 : ((List An)) → Option (Ac × Int)) : Nat → ((List An) × Int) → Option (Ac × Int)
 | 0, _ => none
 | n6 + 1, v6 =>
  AU ((decide (v6.2 < (p0.fF.length : Int))))
   ((A5 p0.fF v6.2).bind fun v9 =>
   (G4 N v9).bind fun v10 =>
   (Eo (v6.1.length + (([v10] : List An)).length ≤ DU)).bind fun _ =>
   D2 N p0 j6 n6 (v6.1 ++ (([v10] : List An)), (wI .i64 (v6.2 + 1))))
   (j6 v6.1)
def Gz (N : Nat) (p0 : Ac) (p1 : List Int) (p2 : List Int) : Option (Ac × Int) :=
 (BU N p0).bind fun v1 =>
 AU ((v1 != 0))
  (some ((Ac.mk (([] : List Int)) (([] : List Int)) (([] : List Int)) (([] : List An))), v1))
  ((A8 N p0.fE).bind fun v3 =>
  (A8 N p1).bind fun v4 =>
  (A8 N p2).bind fun v5 =>
  D2 N p0 (fun (v7 : (List An)) =>
   (BU N ((Ac.mk v3 v4 v5 v7))).bind fun v12 =>
   AU ((v12 != 0))
    (some ((Ac.mk (([] : List Int)) (([] : List Int)) (([] : List Int)) (([] : List An))), v12))
    (some ((Ac.mk v3 v4 v5 v7), 0))) N (([] : List An), 0))
def ET (N : Nat) (p1 : List Aa) (j2 : ((List An)) → Option Ac) : Nat → ((List An) × Int) → Option Ac
 | 0, _ => none
 | n2 + 1, v2 =>
  AU ((decide (v2.2 < (p1.length : Int))))
   ((A5 p1 v2.2).bind fun v5 =>
   (A5 v2.1 v5.fX).bind fun v6 =>
   (A5 v6.fN v5.fW).bind fun v7 =>
   (A5 v7 v5.fV).bind fun _ =>
   ET N p1 j2 n2 (v2.1.set ((v5.fX).toNat) ((An.mk v6.fI v6.fJ v6.fO v6.fR (v6.fN.set ((v5.fW).toNat) (v7.set ((v5.fV).toNat) true)) v6.fQ)), (wI .i64 (v2.2 + 1))))
   (j2 v2.1)
def GM (N : Nat) (p0 : Ac) (p1 : List Aa) : Option Ac :=
 (Gz N p0 p0.fK p0.fP).bind fun v1 =>
 ET N p1 (fun (v3 : (List An)) =>
  some ((Ac.mk v1.1.fE v1.1.fK v1.1.fP v3))) N (v1.1.fF, 0)
def IP (_ : Nat) (p0 : Int) (p1 : Int) : Option (Int × Int) :=
 some ((wI .u32 ((FU .u64 ((wI .u64 ((wI .u64 p0) * (wI .u64 p1)))) 32))), (wI .u32 ((wI .u64 ((wI .u64 p0) * (wI .u64 p1))))))
def IN (_ : Nat) (p0 : Int) (p1 : Int) : Option (Int × Int) :=
 some ((wI .u64 ((wI .u64 ((wI .u64 ((FU .u64 p0 32) * (FU .u64 p1 32))) + (FU .u64 ((wI .u64 ((wI .u64 ((FU .u64 p0 32) * (HI .u64 p1 4294967295))) + (FU .u64 ((wI .u64 ((HI .u64 p0 4294967295) * (HI .u64 p1 4294967295)))) 32)))) 32))) + (FU .u64 ((wI .u64 ((HI .u64 ((wI .u64 ((wI .u64 ((FU .u64 p0 32) * (HI .u64 p1 4294967295))) + (FU .u64 ((wI .u64 ((HI .u64 p0 4294967295) * (HI .u64 p1 4294967295)))) 32)))) 4294967295) + (wI .u64 ((HI .u64 p0 4294967295) * (FU .u64 p1 32)))))) 32))), (wI .u64 (p0 * p1)))
def JD (N : Nat) (p0 : Int) (p1 : Int) : Option (Int × Int) :=
 AU false
  ((IP N ((wI .u32 p0)) ((wI .u32 p1))).bind fun v2 =>
  some ((wI .u64 v2.1), (wI .u64 v2.2)))
  ((IN N p0 p1).bind fun v3 =>
  some (v3.1, v3.2))
def Fe (N : Nat) (j9 : ((List Int)) → Option ((List Int))) : Nat → ((List Int) × Int) → Option ((List Int))
 | 0, _ => none
 | n9 + 1, v9 =>
  AU ((decide (v9.2 < (v9.1.length : Int))))
   ((Eo ((0 : Int) ≤ v9.2 ∧ (v9.2).toNat ≤ v9.1.length ∧ v9.1.length ≤ v9.1.length)).bind fun _ =>
   (Eo ((0 : Int) ≤ v9.2 ∧ 0 ≤ (v9.2).toNat ∧ (v9.2).toNat ≤ v9.1.length)).bind fun _ =>
   Fe N j9 n9 (HP v9.1 ((v9.2).toNat) ((((v9.1.drop 0).take ((v9.2).toNat))).take (Nat.min (((v9.1.drop 0).take ((v9.2).toNat))).length ((v9.1.length - (v9.2).toNat)))), (wI .i64 (v9.2 + (((Nat.min (((v9.1.drop 0).take ((v9.2).toNat))).length ((v9.1.length - (v9.2).toNat))) : Nat) : Int)))))
   (j9 v9.1)
def FR (N : Nat) (p0 : List Int) (p1 : Int) : Option ((List Int)) :=
 Be (fun (_ : Unit) =>
  (JD N ((wI .u64 ((p0.length : Int)))) ((wI .u64 p1))).bind fun v3 =>
  Be (fun (_ : Unit) =>
   (Eo ((0 : Int) ≤ (wI .i64 v3.2) ∧ (wI .i64 v3.2) ≤ (wI .i64 v3.2) ∧ (wI .i64 v3.2) ≤ (DU : Int))).bind fun _ =>
   Fe N (fun (v10 : (List Int)) =>
    some v10) N (HP (List.replicate ((wI .i64 v3.2)).toNat ((0 : Int))) 0 (p0.take (Nat.min p0.length ((List.replicate ((wI .i64 v3.2)).toNat ((0 : Int))).length))), (((Nat.min p0.length ((List.replicate ((wI .i64 v3.2)).toNat ((0 : Int))).length)) : Nat) : Int)))
  fun j4 =>
  Be (fun (v5 : Bool) =>
   AU v5
    (none)
    (j4 ()))
  fun j5 =>
  AU ((decide (0 < v3.1)))
   (j5 true)
   (j5 (decide (9223372036854775807 < v3.2))))
 fun j1 =>
 AU ((decide (p1 < 0)))
  (none)
  (j1 ())
def Ha (_ : Nat) (p0 : An) : Option Bool :=
 Be (fun (v1 : Bool) =>
  some v1)
 fun j1 =>
 AU ((p0.fI == 3))
  (j1 true)
  (j1 (p0.fI == 4))
def Fy (N : Nat) (p0 : Ac) (j6 : ((List Int)) → Option (Af × Int)) : Nat → ((List Int) × Int) → Option (Af × Int)
 | 0, _ => none
 | n6 + 1, v6 =>
  AU ((decide (v6.2 < (p0.fF.length : Int))))
   (Be (fun (v9 : (List Int)) =>
    Fy N p0 j6 n6 (v9, (wI .i64 (v6.2 + 1))))
   fun j9 =>
   (A5 p0.fF v6.2).bind fun v10 =>
   (Ha N v10).bind fun v11 =>
   AU v11
    ((A5 p0.fK v10.fJ).bind fun v13 =>
    (Eo (0 ≤ v13)).bind fun _ =>
    (A5 v6.1 v6.2).bind fun _ =>
    j9 (v6.1.set ((v6.2).toNat) ((DC .u8 1 v13))))
    (j9 v6.1))
   (j6 v6.1)
def Ja (N : Nat) (p0 : Ac) : Option (Af × Int) :=
 (BU N p0).bind fun v1 =>
 AU ((v1 != 0))
  (some ((Af.mk (([] : List Int)) (([] : List Int)) (([] : List Int))), v1))
  ((A8 N p0.fK).bind fun v3 =>
  (FR N (([(-1)] : List Int)) ((p0.fK.length : Int))).bind fun v4 =>
  (Eo ((0 : Int) ≤ (p0.fF.length : Int) ∧ (p0.fF.length : Int) ≤ (p0.fF.length : Int) ∧ (p0.fF.length : Int) ≤ (DU : Int))).bind fun _ =>
  Fy N p0 (fun (v7 : (List Int)) =>
   some ((Af.mk v3 v4 v7), 0)) N (List.replicate ((p0.fF.length : Int)).toNat ((0 : Int)), 0))
def Gw (_ : Nat) (p0 : Af) (p1 : Int) : Option Int :=
 (A5 p0.fG p1).bind fun v1 =>
 (Eo (0 ≤ v1)).bind fun _ =>
 Be (fun (v3 : Int) =>
  some v3)
 fun j3 =>
 (A5 p0.fD p1).bind fun v4 =>
 AU ((decide (0 ≤ v4)))
  ((A5 p0.fD p1).bind fun v6 =>
  (Eo (0 ≤ v6)).bind fun _ =>
  j3 (Re .u8 ((DC .u8 1 v1)) ((DC .u8 1 v6))))
  (j3 (DC .u8 1 v1))
def Fx (N : Nat) (p0 : Ac) (p1 : Af) (j7 : Unit → Option Int) : Nat → Int → Option Int
 | 0, _ => none
 | n7 + 1, v7 =>
  AU ((decide (v7 < (p0.fE.length : Int))))
   ((A5 p0.fE v7).bind fun v10 =>
   Be (fun (v11 : Bool) =>
    AU v11
     (some 7)
     ((A5 p1.fG v7).bind fun v20 =>
     (A5 p1.fD v7).bind fun v21 =>
     AU ((v20 == v21))
      (some 1)
      (Fx N p0 p1 j7 n7 (wI .i64 (v7 + 1)))))
   fun j11 =>
   (A5 p1.fG v7).bind fun v12 =>
   AU ((decide (v12 < 0)))
    (j11 true)
    ((A5 p1.fG v7).bind fun v14 =>
    AU ((decide (v10 ≤ v14)))
     (j11 true)
     ((A5 p1.fD v7).bind fun v16 =>
     AU ((decide (v16 < (-1))))
      (j11 true)
      ((A5 p1.fD v7).bind fun v18 =>
      j11 (decide (v10 ≤ v18))))))
   (j7 ())
def EZ (N : Nat) (p0 : Ac) (p1 : Af) (j23 : Unit → Option Int) : Nat → Int → Option Int
 | 0, _ => none
 | n23 + 1, v23 =>
  AU ((decide (v23 < (p0.fF.length : Int))))
   ((A5 p0.fF v23).bind fun v26 =>
   Be (fun (v27 : Int × Int) =>
    Be (fun (v33 : Bool) =>
     AU v33
      (some 1)
      (EZ N p0 p1 j23 n23 (wI .i64 (v23 + 1))))
    fun j33 =>
    (A5 p1.fH v23).bind fun v34 =>
    AU (((Er .u8 v27.1 v34) != 0))
     (j33 true)
     ((A5 p1.fH v23).bind fun v36 =>
     j33 ((Er .u8 v36 v27.2) != 0)))
   fun j27 =>
   (Ha N v26).bind fun v28 =>
   AU v28
    ((Gw N p1 v26.fJ).bind fun v30 =>
    (A5 p0.fE v26.fJ).bind fun v31 =>
    (Eo (0 ≤ v31)).bind fun _ =>
    j27 (v30, (wI .u8 ((DC .u8 1 v31) - 1))))
    (j27 (0, 0)))
   (j23 ())
def GY (N : Nat) (p0 : Ac) (p1 : Af) : Option Int :=
 (BU N p0).bind fun v1 =>
 AU ((v1 != 0))
  (some v1)
  (Be (fun (v3 : Bool) =>
   AU v3
    (some 6)
    (Fx N p0 p1 (fun (_ : Unit) =>
     EZ N p0 p1 (fun (_ : Unit) =>
      some 0) N 0) N 0))
  fun j3 =>
  AU (((p1.fG.length : Int) != (p0.fE.length : Int)))
   (j3 true)
   (AU (((p1.fD.length : Int) != (p0.fE.length : Int)))
    (j3 true)
    (j3 ((p1.fH.length : Int) != (p0.fF.length : Int)))))
def Cs (_ : Nat) (p0 : List Int) : Option ((List Int)) :=
 (Eo ((([] : List Int)).length + p0.length ≤ DU)).bind fun _ =>
 some ((([] : List Int)) ++ p0)
def E4 (N : Nat) (p1 : Af) (j3 : ((List Int)) → Option ((List Af) × Int)) : Nat → ((List Int) × Int) → Option ((List Af) × Int)
 | 0, _ => none
 | n3 + 1, v3 =>
  AU ((decide (v3.2 < (p1.fD.length : Int))))
   (Be (fun (v6 : (List Int)) =>
    E4 N p1 j3 n3 (v6, (wI .i64 (v3.2 + 1))))
   fun j6 =>
   (A5 p1.fD v3.2).bind fun v7 =>
   AU ((decide (0 ≤ v7)))
    ((Eo (v3.1.length + (([v3.2] : List Int)).length ≤ DU)).bind fun _ =>
    j6 (v3.1 ++ (([v3.2] : List Int))))
    (j6 v3.1))
   (j3 v3.1)
def D3 (N : Nat) (v4 : (List Int)) (v11 : (List Af) × Int) (j17 : ((List Int)) → Option ((List Af) × Int)) : Nat → ((List Int) × Int) → Option ((List Af) × Int)
 | 0, _ => none
 | n17 + 1, v17 =>
  AU ((decide (v17.2 < (v4.length : Int))))
   (Be (fun (v20 : (List Int)) =>
    D3 N v4 v11 j17 n17 (v20, (wI .i64 (v17.2 + 1))))
   fun j20 =>
   (A5 v4 v17.2).bind fun v21 =>
   (Eo (0 ≤ v17.2)).bind fun _ =>
   AU (((HI .i64 ((FU .i64 v11.2 v17.2)) 1) == 1))
    ((A5 v17.1 v21).bind fun _ =>
    j20 (v17.1.set ((v21).toNat) ((-1))))
    (j20 v17.1))
   (j17 v17.1)
def D7 (N : Nat) (p1 : Af) (v4 : (List Int)) (j11 : ((List Af)) → Option ((List Af) × Int)) : Nat → ((List Af) × Int) → Option ((List Af) × Int)
 | 0, _ => none
 | n11 + 1, v11 =>
  AU ((decide (v11.2 < (DC .i64 1 ((v4.length : Int))))))
   ((A8 N p1.fG).bind fun v14 =>
   (A8 N p1.fD).bind fun v15 =>
   (Cs N p1.fH).bind fun v16 =>
   D3 N v4 v11 (fun (v18 : (List Int)) =>
    (Eo (v11.1.length + (([(Af.mk v14 v18 v16)] : List Af)).length ≤ DU)).bind fun _ =>
    D7 N p1 v4 j11 n11 (v11.1 ++ (([(Af.mk v14 v18 v16)] : List Af)), (wI .i64 (v11.2 + 1)))) N (v15, 0))
   (j11 v11.1)
def Iq (N : Nat) (p0 : Ac) (p1 : Af) : Option ((List Af) × Int) :=
 (GY N p0 p1).bind fun v1 =>
 AU ((v1 != 0))
  (some (([] : List Af), v1))
  (E4 N p1 (fun (v4 : (List Int)) =>
   (Eo (0 ≤ (v4.length : Int))).bind fun _ =>
   D7 N p1 v4 (fun (v12 : (List Af)) =>
    some (v12, 0)) N (([] : List Af), 0)) N (([] : List Int), 0))
def Cz (N : Nat) (v1 : (List Aa) × Int) (v4 : An) (v6 : Int) (v11 : (List Aa) × Int) (v17 : List Bool) (j18 : ((List Aa) × Bool) → Option ((List Aa))) : Nat → ((List Aa) × Bool × Int) → Option ((List Aa))
 | 0, _ => none
 | n18 + 1, v18 =>
  AU ((decide (v18.2.2 < (v17.length : Int))))
   (Be (fun (v21 : (List Aa) × Bool) =>
    Cz N v1 v4 v6 v11 v17 j18 n18 (v21.1, v21.2, (wI .i64 (v18.2.2 + 1))))
   fun j21 =>
   (A5 v17 v18.2.2).bind fun v22 =>
   (Eo (0 ≤ v18.2.2)).bind fun _ =>
   AU (((HI .u8 ((FU .u8 v6 v18.2.2)) 1) == 0))
    (j21 (v18.1, v18.2.1))
    (Be (fun (v25 : Bool) =>
     Be (fun (v27 : Bool) =>
      AU v27
       ((Eo (v18.1.length + (([(Aa.mk v1.2 v11.2 v18.2.2)] : List Aa)).length ≤ DU)).bind fun _ =>
       j21 (v18.1 ++ (([(Aa.mk v1.2 v11.2 v18.2.2)] : List Aa)), v25))
       (j21 (v18.1, v25)))
     fun j27 =>
     AU ((!v22))
      (j27 (!v4.fR))
      (j27 false))
    fun j25 =>
    AU v18.2.1
     (j25 true)
     (j25 v22)))
   (j18 (v18.1, v18.2.1))
def Da (N : Nat) (v1 : (List Aa) × Int) (v4 : An) (v6 : Int) (v7 : Int) (j11 : ((List Aa)) → Option ((List Aa))) : Nat → ((List Aa) × Int) → Option ((List Aa))
 | 0, _ => none
 | n11 + 1, v11 =>
  AU ((decide (v11.2 < (v4.fN.length : Int))))
   (Be (fun (v14 : (List Aa)) =>
    Da N v1 v4 v6 v7 j11 n11 (v14, (wI .i64 (v11.2 + 1))))
   fun j14 =>
   (Eo (0 ≤ v11.2)).bind fun _ =>
   AU (((HI .u8 ((FU .u8 v7 v11.2)) 1) == 0))
    (j14 v11.1)
    ((A5 v4.fN v11.2).bind fun v17 =>
    Cz N v1 v4 v6 v11 v17 (fun (v19 : (List Aa) × Bool) =>
     Be (fun (v31 : Bool) =>
      AU v31
       ((Eo (v19.1.length + (([(Aa.mk v1.2 v11.2 ((-1)))] : List Aa)).length ≤ DU)).bind fun _ =>
       j14 (v19.1 ++ (([(Aa.mk v1.2 v11.2 ((-1)))] : List Aa))))
       (j14 v19.1))
     fun j31 =>
     AU v4.fR
      (j31 (!v19.2))
      (j31 false)) N (v11.1, false, 0)))
   (j11 v11.1)
def Ez (N : Nat) (p0 : Ac) (p1 : Af) (j1 : ((List Aa)) → Option ((List Aa))) : Nat → ((List Aa) × Int) → Option ((List Aa))
 | 0, _ => none
 | n1 + 1, v1 =>
  AU ((decide (v1.2 < (p0.fF.length : Int))))
   ((A5 p0.fF v1.2).bind fun v4 =>
   (Gw N p1 v4.fJ).bind fun v5 =>
   (Gw N p1 v4.fO).bind fun v6 =>
   Be (fun (v7 : Int) =>
    Da N v1 v4 v6 v7 (fun (v12 : (List Aa)) =>
     Ez N p0 p1 j1 n1 (v12, (wI .i64 (v1.2 + 1)))) N (v1.1, 0))
   fun j7 =>
   (Ha N v4).bind fun v8 =>
   AU v8
    ((A5 p1.fH v1.2).bind fun v10 =>
    j7 v10)
    (j7 v5))
   (j1 v1.1)
def Hg (N : Nat) (p0 : Ac) (p1 : Af) : Option ((List Aa)) :=
 Ez N p0 p1 (fun (v2 : (List Aa)) =>
  some v2) N (([] : List Aa), 0)
def Gd (N : Nat) (p0 : Ac) (v1 : (List Af) × Int) (j3 : Unit → Option (Af × Aa × Int)) : Nat → Int → Option (Af × Aa × Int)
 | 0, _ => none
 | n3 + 1, v3 =>
  AU ((decide (v3 < (v1.1.length : Int))))
   ((A5 v1.1 v3).bind fun v6 =>
   (Hg N p0 v6).bind fun v7 =>
   AU ((decide (0 < (v7.length : Int))))
    ((A5 v7 0).bind fun v9 =>
    some (v6, v9, 0))
    (Gd N p0 v1 j3 n3 (wI .i64 (v3 + 1))))
   (j3 ())
def Jb (N : Nat) (p0 : Ac) (p1 : Af) : Option (Af × Aa × Int) :=
 (Iq N p0 p1).bind fun v1 =>
 AU ((v1.2 != 0))
  (some ((Af.mk (([] : List Int)) (([] : List Int)) (([] : List Int))), (Aa.mk 0 0 0), v1.2))
  (Gd N p0 v1 (fun (_ : Unit) =>
   some ((Af.mk (([] : List Int)) (([] : List Int)) (([] : List Int))), (Aa.mk 0 0 0), 15)) N 0)
def HE (N : Nat) (p0 : Ac) (p1 : Af) : Option (Bool × Int) :=
 (Jb N p0 p1).bind fun v1 =>
 AU ((v1.2.2 == 0))
  (some (false, 0))
  (AU ((v1.2.2 == 15))
   (some (true, 0))
   (some (false, v1.2.2)))
def F0 (N : Nat) (p0 : Af) (j2 : ((List Int)) → Option ByteArray) : Nat → ((List Int) × Int) → Option ByteArray
 | 0, _ => none
 | n2 + 1, v2 =>
  AU ((decide (v2.2 < (p0.fG.length : Int))))
   ((A5 p0.fG v2.2).bind fun v5 =>
   (A5 p0.fD v2.2).bind fun v6 =>
   (Eo (v2.1.length + (([(wI .u8 v5), (wI .u8 ((wI .i64 (v6 + 1))))] : List Int)).length ≤ DU)).bind fun _ =>
   F0 N p0 j2 n2 (v2.1 ++ (([(wI .u8 v5), (wI .u8 ((wI .i64 (v6 + 1))))] : List Int)), (wI .i64 (v2.2 + 1))))
   (j2 v2.1)
def EN (N : Nat) (p0 : Af) (j8 : ((List Int)) → Option ByteArray) : Nat → ((List Int) × Int) → Option ByteArray
 | 0, _ => none
 | n8 + 1, v8 =>
  AU ((decide (v8.2 < (p0.fH.length : Int))))
   ((A5 p0.fH v8.2).bind fun v11 =>
   (Eo (v8.1.length + (([v11] : List Int)).length ≤ DU)).bind fun _ =>
   EN N p0 j8 n8 (v8.1 ++ (([v11] : List Int)), (wI .i64 (v8.2 + 1))))
   (j8 v8.1)
def IU (N : Nat) (p0 : Af) : Option ByteArray :=
 (Eo ((0 : Int) ≤ 0 ∧ 0 ≤ (wI .i64 ((wI .i64 (2 * (p0.fG.length : Int))) + (p0.fH.length : Int))) ∧ (wI .i64 ((wI .i64 (2 * (p0.fG.length : Int))) + (p0.fH.length : Int))) ≤ (DU : Int))).bind fun _ =>
 F0 N p0 (fun (v3 : (List Int)) =>
  EN N p0 (fun (v9 : (List Int)) =>
   some ((Do v9))) N (v3, 0)) N (List.replicate (0 : Int).toNat ((0 : Int)), 0)
def FZ (N : Nat) (v1 : (List Ag) × Int) (v4 : Int) (j5 : ((List Ag)) → Option ((List Ag))) : Nat → ((List Ag) × Int) → Option ((List Ag))
 | 0, _ => none
 | n5 + 1, v5 =>
  AU ((decide (v5.2 < v4)))
   ((Eo (v5.1.length + (([(Ag.mk 1 v1.2 v5.2)] : List Ag)).length ≤ DU)).bind fun _ =>
   FZ N v1 v4 j5 n5 (v5.1 ++ (([(Ag.mk 1 v1.2 v5.2)] : List Ag)), (wI .i64 (v5.2 + 1))))
   (j5 v5.1)
def Ej (N : Nat) (p0 : Ac) (j1 : ((List Ag)) → Option ((List Ag))) : Nat → ((List Ag) × Int) → Option ((List Ag))
 | 0, _ => none
 | n1 + 1, v1 =>
  AU ((decide (v1.2 < (p0.fE.length : Int))))
   ((A5 p0.fE v1.2).bind fun v4 =>
   FZ N v1 v4 (fun (v6 : (List Ag)) =>
    Ej N p0 j1 n1 (v6, (wI .i64 (v1.2 + 1)))) N (v1.1, 0))
   (j1 v1.1)
def C4 (N : Nat) (p0 : Ac) (j9 : ((List Ag)) → Option ((List Ag))) : Nat → ((List Ag) × Int) → Option ((List Ag))
 | 0, _ => none
 | n9 + 1, v9 =>
  AU ((decide (v9.2 < (p0.fE.length : Int))))
   ((Eo (v9.1.length + (([(Ag.mk 2 v9.2 0)] : List Ag)).length ≤ DU)).bind fun _ =>
   C4 N p0 j9 n9 (v9.1 ++ (([(Ag.mk 2 v9.2 0)] : List Ag)), (wI .i64 (v9.2 + 1))))
   (j9 v9.1)
def BO (N : Nat) (p0 : Ac) (j13 : ((List Ag)) → Option ((List Ag))) : Nat → ((List Ag) × Int) → Option ((List Ag))
 | 0, _ => none
 | n13 + 1, v13 =>
  AU ((decide (v13.2 < (p0.fF.length : Int))))
   ((Eo (v13.1.length + (([(Ag.mk 3 v13.2 0)] : List Ag)).length ≤ DU)).bind fun _ =>
   BO N p0 j13 n13 (v13.1 ++ (([(Ag.mk 3 v13.2 0)] : List Ag)), (wI .i64 (v13.2 + 1))))
   (j13 v13.1)
def JN (N : Nat) (p0 : Ac) : Option ((List Ag)) :=
 Ej N p0 (fun (v2 : (List Ag)) =>
  C4 N p0 (fun (v10 : (List Ag)) =>
   BO N p0 (fun (v14 : (List Ag)) =>
    some v14) N (v10, 0)) N (v2, 0)) N (([] : List Ag), 0)
def H7 (N : Nat) (p0 : Af) : Option Af :=
 (A8 N p0.fG).bind fun v1 =>
 (A8 N p0.fD).bind fun v2 =>
 (Cs N p0.fH).bind fun v3 =>
 some ((Af.mk v1 v2 v3))
def Hi (_ : Nat) (p0 : An) : Option Bool :=
 Be (fun (v1 : Bool) =>
  some v1)
 fun j1 =>
 AU ((p0.fI == 3))
  (j1 true)
  (j1 (p0.fI == 4))
def EX (N : Nat) (p0 : Ac) (p2 : Ag) (j7 : ((List Int)) → Option (Bool × (List Int) × (List Int))) : Nat → ((List Int) × Int) → Option (Bool × (List Int) × (List Int))
 | 0, _ => none
 | n7 + 1, v7 =>
  AU ((decide (v7.2 < (p0.fF.length : Int))))
   (Be (fun (v10 : (List Int)) =>
    EX N p0 p2 j7 n7 (v10, (wI .i64 (v7.2 + 1))))
   fun j10 =>
   (A5 p0.fF v7.2).bind fun v11 =>
   Be (fun (v12 : Bool) =>
    AU v12
     ((A5 v7.1 v7.2).bind fun v16 =>
     (Eo (0 ≤ p2.fT)).bind fun _ =>
     (A5 v7.1 v7.2).bind fun _ =>
     j10 (v7.1.set ((v7.2).toNat) ((Re .u8 v16 ((DC .u8 1 p2.fT))))))
     (j10 v7.1))
   fun j12 =>
   AU ((v11.fJ == p2.fL))
    ((Hi N v11).bind fun v14 =>
    j12 v14)
    (j12 false))
   (j7 v7.1)
def JH (N : Nat) (p0 : Ac) (p1 : Af) (p2 : Ag) : Option (Bool × (List Int) × (List Int)) :=
 Be (fun (v1 : Bool) =>
  AU v1
   (some (false, p1.fD, p1.fH))
   ((A5 p1.fD p2.fL).bind fun _ =>
   EX N p0 p2 (fun (v8 : (List Int)) =>
    some (true, p1.fD.set ((p2.fL).toNat) p2.fT, v8)) N (p1.fH, 0)))
 fun j1 =>
 (A5 p1.fD p2.fL).bind fun v2 =>
 AU ((decide (0 ≤ v2)))
  (j1 true)
  ((A5 p1.fG p2.fL).bind fun v4 =>
  j1 (v4 == p2.fT))
def HC (_ : Nat) (p0 : Af) (p1 : Int) : Option Int :=
 (A5 p0.fG p1).bind fun v1 =>
 (Eo (0 ≤ v1)).bind fun _ =>
 Be (fun (v3 : Int) =>
  some v3)
 fun j3 =>
 (A5 p0.fD p1).bind fun v4 =>
 AU ((decide (0 ≤ v4)))
  ((A5 p0.fD p1).bind fun v6 =>
  (Eo (0 ≤ v6)).bind fun _ =>
  j3 (Re .u8 ((DC .u8 1 v1)) ((DC .u8 1 v6))))
  (j3 (DC .u8 1 v1))
def D8 (_ : Nat) (p0 : Int) : Option Int :=
 (WK ((⟨⟨(List.append (List.append [8, 0, 1, 0, 2, 0, 1, 0, 3, 0, 1, 0, 2, 0, 1, 0, 4, 0, 1, 0, 2, 0, 1, 0, 3, 0, 1, 0, 2, 0, 1, 0, 5, 0, 1, 0, 2, 0, 1, 0, 3, 0, 1, 0, 2, 0, 1, 0, 4, 0, 1, 0, 2, 0, 1, 0, 3, 0, 1, 0, 2, 0, 1, 0] [6, 0, 1, 0, 2, 0, 1, 0, 3, 0, 1, 0, 2, 0, 1, 0, 4, 0, 1, 0, 2, 0, 1, 0, 3, 0, 1, 0, 2, 0, 1, 0, 5, 0, 1, 0, 2, 0, 1, 0, 3, 0, 1, 0, 2, 0, 1, 0, 4, 0, 1, 0, 2, 0, 1, 0, 3, 0, 1, 0, 2, 0, 1, 0]) (List.append [7, 0, 1, 0, 2, 0, 1, 0, 3, 0, 1, 0, 2, 0, 1, 0, 4, 0, 1, 0, 2, 0, 1, 0, 3, 0, 1, 0, 2, 0, 1, 0, 5, 0, 1, 0, 2, 0, 1, 0, 3, 0, 1, 0, 2, 0, 1, 0, 4, 0, 1, 0, 2, 0, 1, 0, 3, 0, 1, 0, 2, 0, 1, 0] [6, 0, 1, 0, 2, 0, 1, 0, 3, 0, 1, 0, 2, 0, 1, 0, 4, 0, 1, 0, 2, 0, 1, 0, 3, 0, 1, 0, 2, 0, 1, 0, 5, 0, 1, 0, 2, 0, 1, 0, 3, 0, 1, 0, 2, 0, 1, 0, 4, 0, 1, 0, 2, 0, 1, 0, 3, 0, 1, 0, 2, 0, 1, 0]))⟩⟩ : ByteArray)) p0).bind fun v1 =>
 some ((wI .i64 v1))
def EK (N : Nat) (p0 : An) (p2 : Int) (j1 : Unit → Option Bool) : Nat → Int → Option Bool
 | 0, _ => none
 | n1 + 1, v1 =>
  AU ((v1 != 0))
   ((D8 N v1).bind fun v4 =>
   (A5 p0.fQ v4).bind fun v5 =>
   (A5 v5 p2).bind fun v6 =>
   AU ((!v6))
    (some false)
    (EK N p0 p2 j1 n1 (HI .u8 v1 ((wI .u8 (v1 - 1))))))
   (j1 ())
def Hs (N : Nat) (p0 : An) (p1 : Int) (p2 : Int) : Option Bool :=
 EK N p0 p2 (fun (_ : Unit) =>
  some true) N p1
def Ir (N : Nat) (p0 : Ac) (p1 : Af) (p2 : Int) : Option (Bool × (List Int)) :=
 (A5 p0.fF p2).bind fun v1 =>
 (Hi N v1).bind fun v2 =>
 AU ((!v2))
  (some (false, p1.fH))
  ((HC N p1 v1.fJ).bind fun v4 =>
  (A5 p1.fH p2).bind fun v5 =>
  Be (fun (v6 : Bool) =>
   AU v6
    (some (false, p1.fH))
    ((A5 p1.fH p2).bind fun _ =>
    some (true, p1.fH.set ((p2).toNat) v4)))
  fun j6 =>
  (A5 p1.fH p2).bind fun v7 =>
  AU ((v7 == v4))
   (j6 true)
   (AU ((v1.fI == 4))
    ((A5 p1.fG v1.fJ).bind fun v10 =>
    (Hs N v1 ((Er .u8 v5 v4)) v10).bind fun v11 =>
    j6 (!v11))
    (j6 false)))
def Hd (N : Nat) (p0 : Ac) (p1 : Af) (p2 : Ag) : Option (Af × Bool) :=
 (H7 N p1).bind fun v1 =>
 AU ((p2.fI == 1))
  ((JH N p0 v1 p2).bind fun v3 =>
  some ((Af.mk v1.fG v3.2.1 v3.2.2), v3.1))
  (AU ((p2.fI == 3))
   ((Ir N p0 v1 p2.fL).bind fun v5 =>
   some ((Af.mk v1.fG v1.fD v5.2), v5.1))
   ((A5 v1.fD p2.fL).bind fun v6 =>
   AU ((decide (v6 < 0)))
    (some (v1, false))
    ((A5 v1.fD p2.fL).bind fun _ =>
    Be (fun (v9 : (List Int)) =>
     some ((Af.mk v9 (v1.fD.set ((p2.fL).toNat) ((-1))) v1.fH), true))
    fun j9 =>
    AU ((p2.fI == 2))
     ((A5 v1.fG p2.fL).bind fun _ =>
     j9 (v1.fG.set ((p2.fL).toNat) v6))
     (j9 v1.fG))))
def ED (N : Nat) (p0 : Ag) (p1 : List Int) (p2 : List Int) (p3 : List Int) (p4 : List An) (p5 : List Int) (p6 : List Int) (p7 : List Int) : Option Bool :=
 (Hd N ((Ac.mk p1 p2 p3 p4)) ((Af.mk p5 p6 p7)) p0).bind fun v1 =>
 some ((!v1.2))
def Bd (N : Nat) (p0 : List Ag) (p1 : Ag → Option Bool) (j1 : Unit → Option Int) : Nat → Int → Option Int
 | 0, _ => none
 | n1 + 1, v1 =>
  AU ((decide (v1 < (p0.length : Int))))
   ((A5 p0 v1).bind fun v4 =>
   (p1 v4).bind fun v5 =>
   AU v5
    (some v1)
    (Bd N p0 p1 j1 n1 (wI .i64 (v1 + 1))))
   (j1 ())
def Ch (N : Nat) (p0 : List Ag) (p1 : Ag → Option Bool) : Option Int :=
 Bd N p0 p1 (fun (_ : Unit) =>
  some ((-1))) N 0
def A0 (N : Nat) (p1 : Ag → Option Bool) (j3 : ((List Ag) × Int) → Option (Nat × (List Ag))) : Nat → ((List Ag) × Int × Int) → Option (Nat × (List Ag))
 | 0, _ => none
 | n3 + 1, v3 =>
  AU ((decide (v3.2.2 < (v3.1.length : Int))))
   (Be (fun (v6 : (List Ag) × Int) =>
    A0 N p1 j3 n3 (v6.1, v6.2, (wI .i64 (v3.2.2 + 1))))
   fun j6 =>
   (A5 v3.1 v3.2.2).bind fun v7 =>
   (p1 v7).bind fun v8 =>
   AU ((!v8))
    ((A5 v3.1 v3.2.1).bind fun _ =>
    j6 (v3.1.set ((v3.2.1).toNat) v7, (wI .i64 (v3.2.1 + 1))))
    (j6 (v3.1, v3.2.1)))
   (j3 (v3.1, v3.2.1))
def Ca (N : Nat) (p0 : List Ag) (p1 : Ag → Option Bool) : Option (Nat × (List Ag)) :=
 (Ch N p0 p1).bind fun v1 =>
 AU ((v1 == (-1)))
  (some (p0.length, p0))
  (A0 N p1 (fun (v4 : (List Ag) × Int) =>
   (Eo ((0 : Int) ≤ v4.2 ∧ (v4.2).toNat ≤ v4.1.length ∧ v4.1.length ≤ v4.1.length)).bind fun _ =>
   (Eo ((0 : Int) ≤ v4.2 ∧ 0 ≤ (v4.2).toNat ∧ (v4.2).toNat ≤ (HP v4.1 ((v4.2).toNat) (List.replicate ((v4.1.length - (v4.2).toNat)) ((Ag.mk 0 0 0)))).length)).bind fun _ =>
   some ((v4.2).toNat, HP v4.1 ((v4.2).toNat) (List.replicate ((v4.1.length - (v4.2).toNat)) ((Ag.mk 0 0 0))))) N (p0, v1, (wI .i64 (v1 + 1))))
def Hz (N : Nat) (p0 : Ac) (p1 : Af) : Option ((List Ag) × Int) :=
 (GY N p0 p1).bind fun v1 =>
 AU ((v1 != 0))
  (some (([] : List Ag), v1))
  ((JN N p0).bind fun v3 =>
  (Ca N v3 ((fun (x : Ag) => ED N x p0.fE p0.fK p0.fP p0.fF p1.fG p1.fD p1.fH))).bind fun v4 =>
  (Eo (v4.1 ≤ v4.2.length)).bind fun _ =>
  some (v4.2.take v4.1, 0))
def IC (_ : Nat) (p0 : Ag) : Option Bool :=
 Be (fun (v1 : Bool) =>
  AU v1
   (some false)
   (Be (fun (v5 : Bool) =>
    some v5)
   fun j5 =>
   AU ((p0.fI == 1))
    (j5 true)
    (j5 (p0.fT == 0))))
 fun j1 =>
 AU ((decide ((Y4 p0.fL p0.fT) < 0)))
  (j1 true)
  (AU ((decide (p0.fI < 1)))
   (j1 true)
   (j1 (decide (4 < p0.fI))))
def H2 (_ : Nat) (p0 : Ac) (p1 : Ag) : Option Bool :=
 AU ((p1.fI == 3))
  (some ((decide (p1.fL < (p0.fF.length : Int)))))
  (Be (fun (v2 : Bool) =>
   some v2)
  fun j2 =>
  AU ((decide (p1.fL < (p0.fE.length : Int))))
   (AU ((p1.fI != 1))
    (j2 true)
    ((A5 p0.fE p1.fL).bind fun v5 =>
    j2 (decide (p1.fT < v5))))
   (j2 false))
def Iy (N : Nat) (p0 : Ac) (p1 : Af) (p2 : Ag) : Option (Af × Int) :=
 (IC N p2).bind fun v1 =>
 AU ((!v1))
  (some ((Af.mk (([] : List Int)) (([] : List Int)) (([] : List Int))), 1))
  ((H2 N p0 p2).bind fun v3 =>
  AU ((!v3))
   (some ((Af.mk (([] : List Int)) (([] : List Int)) (([] : List Int))), 4))
   ((Hd N p0 p1 p2).bind fun v5 =>
   AU ((!v5.2))
    (some ((Af.mk (([] : List Int)) (([] : List Int)) (([] : List Int))), 11))
    (some (v5.1, 0))))
def ID (N : Nat) (p0 : Ac) (p1 : Af) (p2 : Ag) : Option (Af × Int) :=
 (GY N p0 p1).bind fun v1 =>
 AU ((v1 != 0))
  (some ((Af.mk (([] : List Int)) (([] : List Int)) (([] : List Int))), v1))
  ((Iy N p0 p1 p2).bind fun v3 =>
  some (v3.1, v3.2))
def C2 (N : Nat) (p0 : Ac) (v2 : (List AH) × (List (ByteArray × Int)) × Int) (v6 : (List Ag) × Int) (j8 : ((List AH) × (List (ByteArray × Int))) → Option ((List AH) × Int)) : Nat → ((List AH) × (List (ByteArray × Int)) × Int) → Option ((List AH) × Int)
 | 0, _ => none
 | n8 + 1, v8 =>
  AU ((decide (v8.2.2 < (v6.1.length : Int))))
   ((A5 v6.1 v8.2.2).bind fun v11 =>
   (A5 v8.1 v2.2.2).bind fun v12 =>
   (ID N p0 ((Af.mk v12.fS.fG v12.fS.fD v12.fS.fH)) v11).bind fun v13 =>
   AU ((v13.2 != 0))
    (some (([] : List AH), v13.2))
    ((IU N v13.1).bind fun v15 =>
    Be (fun (v16 : (List AH) × (List (ByteArray × Int)) × Int) =>
     Be (fun (v24 : (List AH)) =>
      AU ((decide (20000 < (v24.length : Int))))
       (some (([] : List AH), 3))
       (C2 N p0 v2 v6 j8 n8 (v24, v16.2.1, (wI .i64 (v8.2.2 + 1)))))
     fun j24 =>
     AU ((decide (0 ≤ v16.2.2)))
      ((A5 v16.1 v2.2.2).bind fun v26 =>
      (Eo (v26.fD.length + (([v16.2.2] : List Int)).length ≤ DU)).bind fun _ =>
      (A5 v16.1 v2.2.2).bind fun v28 =>
      j24 (v16.1.set ((v2.2.2).toNat) ((AH.mk ((Af.mk v28.fS.fG v28.fS.fD v28.fS.fH)) v28.fJ ((Ag.mk v28.fU.fI v28.fU.fL v28.fU.fT)) (v26.fD ++ (([v16.2.2] : List Int)))))))
      (j24 v16.1))
    fun j16 =>
    AU ((!((MT v15 v8.2.1).isSome)))
     (Be (fun (v18 : (List AH) × Int) =>
      j16 (v18.1, Ox v15 v18.2 v8.2.1, v18.2))
     fun j18 =>
     (HE N p0 v13.1).bind fun v19 =>
     Be (fun (v20 : Bool) =>
      AU v20
       (j18 (v8.1, (-1)))
       ((Eo (v8.1.length + (([(AH.mk v13.1 v2.2.2 v11 (([] : List Int)))] : List AH)).length ≤ DU)).bind fun _ =>
       j18 (v8.1 ++ (([(AH.mk v13.1 v2.2.2 v11 (([] : List Int)))] : List AH)), (v8.1.length : Int))))
     fun j20 =>
     AU ((v19.2 != 0))
      (j20 true)
      (j20 (!v19.1)))
     (j16 (v8.1, v8.2.1, ((MT v15 v8.2.1).getD 0)))))
   (j8 (v8.1, v8.2.1))
def EE (N : Nat) (p0 : Ac) (j2 : ((List AH)) → Option ((List AH) × Int)) : Nat → ((List AH) × (List (ByteArray × Int)) × Int) → Option ((List AH) × Int)
 | 0, _ => none
 | n2 + 1, v2 =>
  AU ((decide (v2.2.2 < (v2.1.length : Int))))
   ((A5 v2.1 v2.2.2).bind fun v5 =>
   (Hz N p0 ((Af.mk v5.fS.fG v5.fS.fD v5.fS.fH))).bind fun v6 =>
   AU ((v6.2 != 0))
    (some (([] : List AH), v6.2))
    (C2 N p0 v2 v6 (fun (v9 : (List AH) × (List (ByteArray × Int))) =>
     EE N p0 j2 n2 (v9.1, v9.2, (wI .i64 (v2.2.2 + 1)))) N (v2.1, v2.2.1, 0)))
   (j2 v2.1)
def HU (N : Nat) (p0 : Ac) (p1 : Af) : Option ((List AH) × Int) :=
 (IU N p1).bind fun v1 =>
 EE N p0 (fun (v3 : (List AH)) =>
  some (v3, 0)) N (([(AH.mk p1 ((-1)) ((Ag.mk 0 0 0)) (([] : List Int)))] : List AH), Ox v1 0 (([] : List (ByteArray × Int))), 0)
def CM (N : Nat) (p0 : List Int) (p1 : List Int) (j2 : Unit → Option Bool) : Nat → Int → Option Bool
 | 0, _ => none
 | n2 + 1, v2 =>
  AU ((decide (v2 < (p0.length : Int))))
   ((A5 p0 v2).bind fun v5 =>
   (A5 p1 v2).bind fun v6 =>
   AU ((v5 != v6))
    (some false)
    (CM N p0 p1 j2 n2 (wI .i64 (v2 + 1))))
   (j2 ())
def Fb (N : Nat) (p0 : List Int) (p1 : List Int) : Option Bool :=
 AU (((p0.length : Int) != (p1.length : Int)))
  (some false)
  (CM N p0 p1 (fun (_ : Unit) =>
   some true) N 0)
def BE (N : Nat) (p0 : List Int) (p1 : Int → Option Bool) (j1 : Unit → Option Int) : Nat → Int → Option Int
 | 0, _ => none
 | n1 + 1, v1 =>
  AU ((decide (v1 < (p0.length : Int))))
   ((A5 p0 v1).bind fun v4 =>
   (p1 v4).bind fun v5 =>
   AU v5
    (some v1)
    (BE N p0 p1 j1 n1 (wI .i64 (v1 + 1))))
   (j1 ())
def Fd (N : Nat) (p0 : List Int) (p1 : Int → Option Bool) : Option Int :=
 BE N p0 p1 (fun (_ : Unit) =>
  some ((-1))) N 0
def Dq (N : Nat) (p0 : List Int) (p1 : Int → Option Bool) : Option Bool :=
 (Fd N p0 p1).bind fun v1 =>
 some ((decide (0 ≤ v1)))
def IB (_ : Nat) (p0 : Int) : Option Bool :=
 some ((decide (0 ≤ p0)))
def JO (N : Nat) (p0 : Ac) (p1 : Af) : Option Bool :=
 Be (fun (v1 : Bool) =>
  some v1)
 fun j1 =>
 (GY N p0 p1).bind fun v2 =>
 AU ((v2 == 0))
  ((Fb N p1.fG p0.fP).bind fun v4 =>
  AU v4
   ((Dq N p1.fD ((fun (x : Int) => IB N x))).bind fun v6 =>
   j1 (!v6))
   (j1 false))
  (j1 false)
def FX (N : Nat) (p0 : AH) (p1 : List Int) (p2 : List Int) (p3 : List Int) (p4 : List An) : Option Bool :=
 (JO N ((Ac.mk p1 p2 p3 p4)) ((Af.mk p0.fS.fG p0.fS.fD p0.fS.fH))).bind fun v1 =>
 some v1
def AZ (N : Nat) (p0 : List AH) (p1 : AH → Option Bool) (j1 : Unit → Option Int) : Nat → Int → Option Int
 | 0, _ => none
 | n1 + 1, v1 =>
  AU ((decide (v1 < (p0.length : Int))))
   ((A5 p0 v1).bind fun v4 =>
   (p1 ((AH.mk ((Af.mk v4.fS.fG v4.fS.fD v4.fS.fH)) v4.fJ ((Ag.mk v4.fU.fI v4.fU.fL v4.fU.fT)) v4.fD))).bind fun v5 =>
   AU v5
    (some v1)
    (AZ N p0 p1 j1 n1 (wI .i64 (v1 + 1))))
   (j1 ())
def CW (N : Nat) (p0 : List AH) (p1 : AH → Option Bool) : Option Int :=
 AZ N p0 p1 (fun (_ : Unit) =>
  some ((-1))) N 0
def BB (N : Nat) (j1 : ((List Ag)) → Option ((List Ag))) : Nat → ((List Ag) × Int × Int) → Option ((List Ag))
 | 0, _ => none
 | n1 + 1, v1 =>
  AU ((decide (v1.2.1 < v1.2.2)))
   ((A5 v1.1 v1.2.2).bind fun v4 =>
   (A5 v1.1 v1.2.1).bind fun v5 =>
   (A5 v1.1 v1.2.1).bind fun _ =>
   (A5 (v1.1.set ((v1.2.1).toNat) v4) v1.2.2).bind fun _ =>
   BB N j1 n1 ((v1.1.set ((v1.2.1).toNat) v4).set ((v1.2.2).toNat) v5, (wI .i64 (v1.2.1 + 1)), (wI .i64 (v1.2.2 - 1))))
   (j1 v1.1)
def BP (N : Nat) (p0 : List Ag) : Option ((List Ag)) :=
 BB N (fun (v2 : (List Ag)) =>
  some v2) N (p0, 0, (wI .i64 ((p0.length : Int) - 1)))
def Hk (N : Nat) (p0 : List AH) (j1 : ((List Ag)) → Option ((List Ag))) : Nat → (Int × (List Ag)) → Option ((List Ag))
 | 0, _ => none
 | n1 + 1, v1 =>
  (A5 p0 v1.1).bind fun v3 =>
  AU ((decide (0 ≤ v3.fJ)))
   ((A5 p0 v1.1).bind fun v5 =>
   (Eo (v1.2.length + (([(Ag.mk v5.fU.fI v5.fU.fL v5.fU.fT)] : List Ag)).length ≤ DU)).bind fun _ =>
   (A5 p0 v1.1).bind fun v7 =>
   Hk N p0 j1 n1 (v7.fJ, v1.2 ++ (([(Ag.mk v5.fU.fI v5.fU.fL v5.fU.fT)] : List Ag))))
   (j1 v1.2)
def KW (N : Nat) (p0 : List AH) (p1 : Int) : Option ((List Ag)) :=
 Hk N p0 (fun (v2 : (List Ag)) =>
  (BP N v2).bind fun v8 =>
  some v8) N (p1, ([] : List Ag))
def GR (N : Nat) (p0 : Ac) (p1 : Af) : Option ((List Ag) × Int) :=
 (HE N p0 p1).bind fun v1 =>
 AU ((v1.2 != 0))
  (some (([] : List Ag), v1.2))
  (AU ((!v1.1))
   (some (([] : List Ag), 13))
   ((HU N p0 p1).bind fun v4 =>
   AU ((v4.2 != 0))
    (some (([] : List Ag), v4.2))
    ((CW N v4.1 ((fun (x : AH) => FX N x p0.fE p0.fK p0.fP p0.fF))).bind fun v6 =>
    AU ((decide (v6 < 0)))
     (some (([] : List Ag), 14))
     ((KW N v4.1 v6).bind fun v8 =>
     some (v8, 0)))))
def Gi (N : Nat) (p0 : Ac) : Option ((List Ag) × Int) :=
 (Ja N p0).bind fun v1 =>
 AU ((v1.2 != 0))
  (some (([] : List Ag), v1.2))
  ((GR N p0 v1.1).bind fun v3 =>
  some (v3.1, v3.2))
def ER (N : Nat) (p0 : Ac) (p1 : List Aa) : Option (Bool × Int) :=
 (GM N p0 p1).bind fun v1 =>
 (Gi N v1).bind fun v2 =>
 AU ((v2.2 == 3))
  (some (false, v2.2))
  (some ((v2.2 == 0), 0))
def EI (N : Nat) (p0 : Ac) (v7 : (List (List Aa))) (j8 : ((List (List Aa))) → Option ((List (List Aa)) × Int)) : Nat → ((List (List Aa)) × Int) → Option ((List (List Aa)) × Int)
 | 0, _ => none
 | n8 + 1, v8 =>
  AU ((decide (v8.2 < (v7.length : Int))))
   (Be (fun (v11 : (List (List Aa))) =>
    EI N p0 v7 j8 n8 (v11, (wI .i64 (v8.2 + 1))))
   fun j11 =>
   (A5 v7 v8.2).bind fun v12 =>
   (ER N p0 v12).bind fun v13 =>
   AU ((v13.2 != 0))
    (some (([] : List (List Aa)), v13.2))
    (AU v13.1
     ((Eo (v8.1.length + (([v12] : List (List Aa))).length ≤ DU)).bind fun _ =>
     j11 (v8.1 ++ (([v12] : List (List Aa)))))
     (j11 v8.1)))
   (j8 v8.1)
def Fh (N : Nat) (p0 : Ac) (j4 : Unit → Option ((List (List Aa)) × Int)) : Nat → ((List Aa) × Int) → Option ((List (List Aa)) × Int)
 | 0, _ => none
 | n4 + 1, v4 =>
  AU ((decide (v4.2 ≤ 3)))
   ((JY N v4.1 v4.2).bind fun v7 =>
   EI N p0 v7 (fun (v9 : (List (List Aa))) =>
    AU ((decide (0 < (v9.length : Int))))
     (some (v9, 0))
     (Fh N p0 j4 n4 (v4.1, (wI .i64 (v4.2 + 1))))) N (([] : List (List Aa)), 0))
   (j4 ())
def GA (N : Nat) (p0 : Ac) : Option ((List (List Aa)) × Int) :=
 (FQ N p0).bind fun v1 =>
 AU ((v1.2 != 0))
  (some (([] : List (List Aa)), v1.2))
  (AU ((decide (24 < (v1.1.length : Int))))
   (some (([] : List (List Aa)), 3))
   (Fh N p0 (fun (_ : Unit) =>
    some (([] : List (List Aa)), 14)) N (v1.1, 0)))
def A3 (N : Nat) (p0 : List Aa) (p1 : Aa) (j1 : Unit → Option Int) : Nat → Int → Option Int
 | 0, _ => none
 | n1 + 1, v1 =>
  AU ((decide (v1 < (p0.length : Int))))
   ((A5 p0 v1).bind fun v4 =>
   AU (((p1.fX == v4.fX) && ((p1.fW == v4.fW) && ((p1.fV == v4.fV) && true))))
    (some v1)
    (A3 N p0 p1 j1 n1 (wI .i64 (v1 + 1))))
   (j1 ())
def CI (N : Nat) (p0 : List Aa) (p1 : Aa) : Option Int :=
 A3 N p0 p1 (fun (_ : Unit) =>
  some ((-1))) N 0
def BG (N : Nat) (p0 : List Aa) (p1 : Aa) : Option Bool :=
 (CI N p0 p1).bind fun v1 =>
 some ((decide (0 ≤ v1)))
def Fs (N : Nat) (p1 : List Aa) (v3 : (List Aa)) (j4 : Unit → Option Int) : Nat → Int → Option Int
 | 0, _ => none
 | n4 + 1, v4 =>
  AU ((decide (v4 < (p1.length : Int))))
   ((A5 p1 v4).bind fun v7 =>
   (BG N v3 v7).bind fun v8 =>
   AU ((!v8))
    (some 4)
    (Fs N p1 v3 j4 n4 (wI .i64 (v4 + 1))))
   (j4 ())
def Gu (N : Nat) (p0 : Ac) (p1 : List Aa) : Option Int :=
 (BU N p0).bind fun v1 =>
 AU ((v1 != 0))
  (some v1)
  ((EV N p0).bind fun v3 =>
  Fs N p1 v3 (fun (_ : Unit) =>
   some 0) N 0)
def Bb (_ : Nat) (p0 : List Aa) : Option ((List Aa)) :=
 (Eo ((([] : List Aa)).length + p0.length ≤ DU)).bind fun _ =>
 some ((([] : List Aa)) ++ p0)
def II (_ : Nat) (p0 : Int) : Option Int :=
 Be (fun (v1 : Int × Int) =>
  Be (fun (v3 : Int × Int) =>
   (WK ((⟨⟨(List.append (List.append [0, 1, 2, 2, 3, 3, 3, 3, 4, 4, 4, 4, 4, 4, 4, 4, 5, 5, 5, 5, 5, 5, 5, 5, 5, 5, 5, 5, 5, 5, 5, 5, 6, 6, 6, 6, 6, 6, 6, 6, 6, 6, 6, 6, 6, 6, 6, 6, 6, 6, 6, 6, 6, 6, 6, 6, 6, 6, 6, 6, 6, 6, 6, 6] [7, 7, 7, 7, 7, 7, 7, 7, 7, 7, 7, 7, 7, 7, 7, 7, 7, 7, 7, 7, 7, 7, 7, 7, 7, 7, 7, 7, 7, 7, 7, 7, 7, 7, 7, 7, 7, 7, 7, 7, 7, 7, 7, 7, 7, 7, 7, 7, 7, 7, 7, 7, 7, 7, 7, 7, 7, 7, 7, 7, 7, 7, 7, 7]) (List.append [8, 8, 8, 8, 8, 8, 8, 8, 8, 8, 8, 8, 8, 8, 8, 8, 8, 8, 8, 8, 8, 8, 8, 8, 8, 8, 8, 8, 8, 8, 8, 8, 8, 8, 8, 8, 8, 8, 8, 8, 8, 8, 8, 8, 8, 8, 8, 8, 8, 8, 8, 8, 8, 8, 8, 8, 8, 8, 8, 8, 8, 8, 8, 8] [8, 8, 8, 8, 8, 8, 8, 8, 8, 8, 8, 8, 8, 8, 8, 8, 8, 8, 8, 8, 8, 8, 8, 8, 8, 8, 8, 8, 8, 8, 8, 8, 8, 8, 8, 8, 8, 8, 8, 8, 8, 8, 8, 8, 8, 8, 8, 8, 8, 8, 8, 8, 8, 8, 8, 8, 8, 8, 8, 8, 8, 8, 8, 8]))⟩⟩ : ByteArray)) ((wI .u8 v3.1))).bind fun v5 =>
   some ((wI .i64 (v3.2 + (wI .i64 v5)))))
  fun j3 =>
  AU ((decide (256 ≤ v1.1)))
   (j3 ((FU .u32 v1.1 8), (wI .i64 (v1.2 + 8))))
   (j3 (v1.1, v1.2)))
 fun j1 =>
 AU ((decide (65536 ≤ p0)))
  (j1 ((FU .u32 p0 16), 16))
  (j1 (p0, 0))
def IJ (_ : Nat) (p0 : Int) : Option Int :=
 Be (fun (v1 : Int × Int) =>
  Be (fun (v3 : Int × Int) =>
   Be (fun (v5 : Int × Int) =>
    (WK ((⟨⟨(List.append (List.append [0, 1, 2, 2, 3, 3, 3, 3, 4, 4, 4, 4, 4, 4, 4, 4, 5, 5, 5, 5, 5, 5, 5, 5, 5, 5, 5, 5, 5, 5, 5, 5, 6, 6, 6, 6, 6, 6, 6, 6, 6, 6, 6, 6, 6, 6, 6, 6, 6, 6, 6, 6, 6, 6, 6, 6, 6, 6, 6, 6, 6, 6, 6, 6] [7, 7, 7, 7, 7, 7, 7, 7, 7, 7, 7, 7, 7, 7, 7, 7, 7, 7, 7, 7, 7, 7, 7, 7, 7, 7, 7, 7, 7, 7, 7, 7, 7, 7, 7, 7, 7, 7, 7, 7, 7, 7, 7, 7, 7, 7, 7, 7, 7, 7, 7, 7, 7, 7, 7, 7, 7, 7, 7, 7, 7, 7, 7, 7]) (List.append [8, 8, 8, 8, 8, 8, 8, 8, 8, 8, 8, 8, 8, 8, 8, 8, 8, 8, 8, 8, 8, 8, 8, 8, 8, 8, 8, 8, 8, 8, 8, 8, 8, 8, 8, 8, 8, 8, 8, 8, 8, 8, 8, 8, 8, 8, 8, 8, 8, 8, 8, 8, 8, 8, 8, 8, 8, 8, 8, 8, 8, 8, 8, 8] [8, 8, 8, 8, 8, 8, 8, 8, 8, 8, 8, 8, 8, 8, 8, 8, 8, 8, 8, 8, 8, 8, 8, 8, 8, 8, 8, 8, 8, 8, 8, 8, 8, 8, 8, 8, 8, 8, 8, 8, 8, 8, 8, 8, 8, 8, 8, 8, 8, 8, 8, 8, 8, 8, 8, 8, 8, 8, 8, 8, 8, 8, 8, 8]))⟩⟩ : ByteArray)) ((wI .u8 v5.1))).bind fun v7 =>
    some ((wI .i64 (v5.2 + (wI .i64 v7)))))
   fun j5 =>
   AU ((decide (256 ≤ v3.1)))
    (j5 ((FU .u64 v3.1 8), (wI .i64 (v3.2 + 8))))
    (j5 (v3.1, v3.2)))
  fun j3 =>
  AU ((decide (65536 ≤ v1.1)))
   (j3 ((FU .u64 v1.1 16), (wI .i64 (v1.2 + 16))))
   (j3 (v1.1, v1.2)))
 fun j1 =>
 AU ((decide (4294967296 ≤ p0)))
  (j1 ((FU .u64 p0 32), 32))
  (j1 (p0, 0))
def H8 (N : Nat) (p0 : Int) : Option Int :=
 AU false
  ((II N ((wI .u32 p0))).bind fun v2 =>
  some v2)
  ((IJ N p0).bind fun v3 =>
  some v3)
def B4 (N : Nat) (p1 : Int) (p3 : (Aa × Aa) → Option Int) (j4 : ((List Aa)) → Option ((List Aa))) : Nat → ((List Aa) × Int) → Option ((List Aa))
 | 0, _ => none
 | n4 + 1, v4 =>
  Be (fun (v6 : Bool) =>
   AU v6
    ((A5 v4.1 ((wI .i64 (v4.2 - 1)))).bind fun v12 =>
    (A5 v4.1 v4.2).bind fun v13 =>
    (A5 v4.1 v4.2).bind fun _ =>
    (A5 (v4.1.set ((v4.2).toNat) v12) ((wI .i64 (v4.2 - 1)))).bind fun _ =>
    B4 N p1 p3 j4 n4 ((v4.1.set ((v4.2).toNat) v12).set (((wI .i64 (v4.2 - 1))).toNat) v13, (wI .i64 (v4.2 - 1))))
    (j4 v4.1))
  fun j6 =>
  AU ((decide (p1 < v4.2)))
   ((A5 v4.1 v4.2).bind fun v8 =>
   (A5 v4.1 ((wI .i64 (v4.2 - 1)))).bind fun v9 =>
   (p3 ((v8, v9))).bind fun v10 =>
   j6 (decide (v10 < 0)))
   (j6 false)
def B5 (N : Nat) (p1 : Int) (p2 : Int) (p3 : (Aa × Aa) → Option Int) (j1 : ((List Aa)) → Option ((List Aa))) : Nat → ((List Aa) × Int) → Option ((List Aa))
 | 0, _ => none
 | n1 + 1, v1 =>
  AU ((decide (v1.2 < p2)))
   (B4 N p1 p3 (fun (v5 : (List Aa)) =>
    B5 N p1 p2 p3 j1 n1 (v5, (wI .i64 (v1.2 + 1)))) N (v1.1, v1.2))
   (j1 v1.1)
def DH (N : Nat) (p0 : List Aa) (p1 : Int) (p2 : Int) (p3 : (Aa × Aa) → Option Int) : Option ((List Aa)) :=
 B5 N p1 p2 p3 (fun (v2 : (List Aa)) =>
  some v2) N (p0, (wI .i64 (p1 + 1)))
def CH (N : Nat) (p2 : Int) (p3 : Int) (p4 : (Aa × Aa) → Option Int) (j1 : ((List Aa)) → Option ((List Aa))) : Nat → ((List Aa) × Int) → Option ((List Aa))
 | 0, _ => none
 | n1 + 1, v1 =>
  AU ((decide (p2 ≤ (wI .i64 ((wI .i64 (2 * v1.2)) + 1)))))
   (j1 v1.1)
   (Be (fun (v4 : Int) =>
    (A5 v1.1 ((wI .i64 (p3 + v1.2)))).bind fun v11 =>
    (A5 v1.1 ((wI .i64 (p3 + v4)))).bind fun v12 =>
    (p4 ((v11, v12))).bind fun v13 =>
    AU ((!((decide (v13 < 0)))))
     (some v1.1)
     ((A5 v1.1 ((wI .i64 (p3 + v4)))).bind fun v15 =>
     (A5 v1.1 ((wI .i64 (p3 + v1.2)))).bind fun v16 =>
     (A5 v1.1 ((wI .i64 (p3 + v1.2)))).bind fun _ =>
     (A5 (v1.1.set (((wI .i64 (p3 + v1.2))).toNat) v15) ((wI .i64 (p3 + v4)))).bind fun _ =>
     CH N p2 p3 p4 j1 n1 ((v1.1.set (((wI .i64 (p3 + v1.2))).toNat) v15).set (((wI .i64 (p3 + v4))).toNat) v16, v4)))
   fun j4 =>
   Be (fun (v5 : Bool) =>
    AU v5
     (j4 (wI .i64 ((wI .i64 ((wI .i64 (2 * v1.2)) + 1)) + 1)))
     (j4 (wI .i64 ((wI .i64 (2 * v1.2)) + 1))))
   fun j5 =>
   AU ((decide ((wI .i64 ((wI .i64 ((wI .i64 (2 * v1.2)) + 1)) + 1)) < p2)))
    ((A5 v1.1 ((wI .i64 (p3 + (wI .i64 ((wI .i64 (2 * v1.2)) + 1)))))).bind fun v7 =>
    (A5 v1.1 ((wI .i64 ((wI .i64 (p3 + (wI .i64 ((wI .i64 (2 * v1.2)) + 1)))) + 1)))).bind fun v8 =>
    (p4 ((v7, v8))).bind fun v9 =>
    j5 (decide (v9 < 0)))
    (j5 false))
def C3 (N : Nat) (p0 : List Aa) (p1 : Int) (p2 : Int) (p3 : Int) (p4 : (Aa × Aa) → Option Int) : Option ((List Aa)) :=
 CH N p2 p3 p4 (fun (v2 : (List Aa)) =>
  some v2) N (p0, p1)
def CF (N : Nat) (p1 : Int) (p2 : Int) (p3 : (Aa × Aa) → Option Int) (j1 : ((List Aa)) → Option ((List Aa))) : Nat → ((List Aa) × Int) → Option ((List Aa))
 | 0, _ => none
 | n1 + 1, v1 =>
  AU ((decide (0 ≤ v1.2)))
   ((C3 N v1.1 v1.2 ((wI .i64 (p2 - p1))) p1 p3).bind fun v4 =>
   CF N p1 p2 p3 j1 n1 (v4, (wI .i64 (v1.2 - 1))))
   (j1 v1.1)
def CG (N : Nat) (p1 : Int) (p3 : (Aa × Aa) → Option Int) (j5 : ((List Aa)) → Option ((List Aa))) : Nat → ((List Aa) × Int) → Option ((List Aa))
 | 0, _ => none
 | n5 + 1, v5 =>
  AU ((decide (0 ≤ v5.2)))
   ((A5 v5.1 ((wI .i64 (p1 + v5.2)))).bind fun v8 =>
   (A5 v5.1 p1).bind fun v9 =>
   (A5 v5.1 p1).bind fun _ =>
   (A5 (v5.1.set ((p1).toNat) v8) ((wI .i64 (p1 + v5.2)))).bind fun _ =>
   (C3 N ((v5.1.set ((p1).toNat) v8).set (((wI .i64 (p1 + v5.2))).toNat) v9) 0 v5.2 p1 p3).bind fun v12 =>
   CG N p1 p3 j5 n5 (v12, (wI .i64 (v5.2 - 1))))
   (j5 v5.1)
def Eg (N : Nat) (p0 : List Aa) (p1 : Int) (p2 : Int) (p3 : (Aa × Aa) → Option Int) : Option ((List Aa)) :=
 CF N p1 p2 p3 (fun (v2 : (List Aa)) =>
  CG N p1 p3 (fun (v6 : (List Aa)) =>
   some v6) N (v2, (wI .i64 ((wI .i64 (p2 - p1)) - 1)))) N (p0, (wI .i64 (Int.tdiv ((wI .i64 ((wI .i64 (p2 - p1)) - 1))) 2)))
def G9 (N : Nat) (p0 : Int) : Option Int :=
 (H8 N ((wI .u64 p0))).bind fun v1 =>
 (Eo (0 ≤ v1)).bind fun _ =>
 some ((DC .u64 1 v1))
def Hh (_ : Nat) (p0 : Int) : Option (Int × Int) :=
 some ((IR .u64 ((IR .u64 ((IR .u64 p0 ((DC .u64 p0 13)))) ((FU .u64 ((IR .u64 p0 ((DC .u64 p0 13)))) 7)))) ((DC .u64 ((IR .u64 ((IR .u64 p0 ((DC .u64 p0 13)))) ((FU .u64 ((IR .u64 p0 ((DC .u64 p0 13)))) 7)))) 17))), (IR .u64 ((IR .u64 ((IR .u64 p0 ((DC .u64 p0 13)))) ((FU .u64 ((IR .u64 p0 ((DC .u64 p0 13)))) 7)))) ((DC .u64 ((IR .u64 ((IR .u64 p0 ((DC .u64 p0 13)))) ((FU .u64 ((IR .u64 p0 ((DC .u64 p0 13)))) 7)))) 17))))
def B6 (N : Nat) (p1 : Int) (p2 : Int) (v2 : Int) (j3 : ((List Aa)) → Option ((List Aa))) : Nat → ((List Aa) × Int × Int) → Option ((List Aa))
 | 0, _ => none
 | n3 + 1, v3 =>
  AU ((decide (v3.2.2 ≤ (wI .i64 ((wI .i64 (p1 + (wI .i64 ((wI .i64 (Int.tdiv ((wI .i64 (p2 - p1))) 4)) * 2)))) + 1)))))
   ((Hh N v3.2.1).bind fun v6 =>
   Be (fun (v7 : Int) =>
    (A5 v3.1 ((wI .i64 (p1 + v7)))).bind fun v9 =>
    (A5 v3.1 v3.2.2).bind fun v10 =>
    (A5 v3.1 v3.2.2).bind fun _ =>
    (A5 (v3.1.set ((v3.2.2).toNat) v9) ((wI .i64 (p1 + v7)))).bind fun _ =>
    B6 N p1 p2 v2 j3 n3 ((v3.1.set ((v3.2.2).toNat) v9).set (((wI .i64 (p1 + v7))).toNat) v10, v6.2, (wI .i64 (v3.2.2 + 1))))
   fun j7 =>
   AU ((decide ((wI .i64 (p2 - p1)) ≤ (wI .i64 ((HI .u64 v6.1 ((wI .u64 (v2 - 1)))))))))
    (j7 (wI .i64 ((wI .i64 ((HI .u64 v6.1 ((wI .u64 (v2 - 1)))))) - (wI .i64 (p2 - p1)))))
    (j7 (wI .i64 ((HI .u64 v6.1 ((wI .u64 (v2 - 1))))))))
   (j3 v3.1)
def DE (N : Nat) (p0 : List Aa) (p1 : Int) (p2 : Int) (_ : (Aa × Aa) → Option Int) : Option ((List Aa)) :=
 AU ((decide (8 ≤ (wI .i64 (p2 - p1)))))
  ((G9 N ((wI .i64 (p2 - p1)))).bind fun v2 =>
  B6 N p1 p2 v2 (fun (v4 : (List Aa)) =>
   some v4) N (p0, (wI .u64 ((wI .i64 (p2 - p1)))), (wI .i64 ((wI .i64 (p1 + (wI .i64 ((wI .i64 (Int.tdiv ((wI .i64 (p2 - p1))) 4)) * 2)))) - 1))))
  (some p0)
def Cr (_ : Nat) (p0 : List Aa) (p1 : Int) (p2 : Int) (p3 : Int) (p4 : (Aa × Aa) → Option Int) : Option (Int × Int × Int) :=
 (A5 p0 p2).bind fun v1 =>
 (A5 p0 p1).bind fun v2 =>
 (p4 ((v1, v2))).bind fun v3 =>
 AU ((decide (v3 < 0)))
  (some (p2, p1, (wI .i64 (p3 + 1))))
  (some (p1, p2, p3))
def Dn (N : Nat) (p0 : List Aa) (p1 : Int) (p2 : Int) (p3 : Int) (p4 : Int) (p5 : (Aa × Aa) → Option Int) : Option (Int × Int) :=
 (Cr N p0 p1 p2 p4 p5).bind fun v1 =>
 (Cr N p0 v1.2.1 p3 v1.2.2 p5).bind fun v2 =>
 (Cr N p0 v1.1 v2.1 v2.2.2 p5).bind fun v3 =>
 some (v3.2.1, v3.2.2)
def BC (N : Nat) (p0 : List Aa) (p1 : Int) (p2 : Int) (p3 : (Aa × Aa) → Option Int) : Option (Int × Int) :=
 (Dn N p0 ((wI .i64 (p1 - 1))) p1 ((wI .i64 (p1 + 1))) p2 p3).bind fun v1 =>
 some (v1.1, v1.2)
def DW (N : Nat) (p0 : List Aa) (p1 : Int) (p2 : Int) (p3 : (Aa × Aa) → Option Int) : Option (Int × Int) :=
 Be (fun (v1 : Int × Int) =>
  AU ((v1.1 == 0))
   (some (v1.2, 1))
   (AU ((v1.1 == 12))
    (some (v1.2, 2))
    (some (v1.2, 0))))
 fun j1 =>
 AU ((decide (8 ≤ (wI .i64 (p2 - p1)))))
  (Be (fun (v3 : Int × Int × Int × Int) =>
   (Dn N p0 v3.2.1 v3.2.2.1 v3.2.2.2 v3.1 p3).bind fun v8 =>
   j1 (v8.2, v8.1))
  fun j3 =>
  AU ((decide (50 ≤ (wI .i64 (p2 - p1)))))
   ((BC N p0 ((wI .i64 (p1 + (wI .i64 ((wI .i64 (Int.tdiv ((wI .i64 (p2 - p1))) 4)) * 1))))) 0 p3).bind fun v5 =>
   (BC N p0 ((wI .i64 (p1 + (wI .i64 ((wI .i64 (Int.tdiv ((wI .i64 (p2 - p1))) 4)) * 2))))) v5.2 p3).bind fun v6 =>
   (BC N p0 ((wI .i64 (p1 + (wI .i64 ((wI .i64 (Int.tdiv ((wI .i64 (p2 - p1))) 4)) * 3))))) v6.2 p3).bind fun v7 =>
   j3 (v7.2, v5.1, v6.1, v7.1))
   (j3 (0, (wI .i64 (p1 + (wI .i64 ((wI .i64 (Int.tdiv ((wI .i64 (p2 - p1))) 4)) * 1)))), (wI .i64 (p1 + (wI .i64 ((wI .i64 (Int.tdiv ((wI .i64 (p2 - p1))) 4)) * 2)))), (wI .i64 (p1 + (wI .i64 ((wI .i64 (Int.tdiv ((wI .i64 (p2 - p1))) 4)) * 3)))))))
  (j1 (0, (wI .i64 (p1 + (wI .i64 ((wI .i64 (Int.tdiv ((wI .i64 (p2 - p1))) 4)) * 2))))))
def Cc (N : Nat) (j1 : ((List Aa)) → Option ((List Aa))) : Nat → ((List Aa) × Int × Int) → Option ((List Aa))
 | 0, _ => none
 | n1 + 1, v1 =>
  AU ((decide (v1.2.1 < v1.2.2)))
   ((A5 v1.1 v1.2.2).bind fun v4 =>
   (A5 v1.1 v1.2.1).bind fun v5 =>
   (A5 v1.1 v1.2.1).bind fun _ =>
   (A5 (v1.1.set ((v1.2.1).toNat) v4) v1.2.2).bind fun _ =>
   Cc N j1 n1 ((v1.1.set ((v1.2.1).toNat) v4).set ((v1.2.2).toNat) v5, (wI .i64 (v1.2.1 + 1)), (wI .i64 (v1.2.2 - 1))))
   (j1 v1.1)
def DS (N : Nat) (p0 : List Aa) (p1 : Int) (p2 : Int) (_ : (Aa × Aa) → Option Int) : Option ((List Aa)) :=
 Cc N (fun (v2 : (List Aa)) =>
  some v2) N (p0, p1, (wI .i64 (p2 - 1)))
def BA (N : Nat) (p2 : Int) (p3 : (Aa × Aa) → Option Int) (v1 : (List Aa) × Int × Int) (j5 : Int → Option (Bool × (List Aa))) : Nat → Int → Option (Bool × (List Aa))
 | 0, _ => none
 | n5 + 1, v5 =>
  Be (fun (v7 : Bool) =>
   AU v7
    (BA N p2 p3 v1 j5 n5 (wI .i64 (v5 + 1)))
    (j5 v5))
  fun j7 =>
  AU ((decide (v5 < p2)))
   ((A5 v1.1 v5).bind fun v9 =>
   (A5 v1.1 ((wI .i64 (v5 - 1)))).bind fun v10 =>
   (p3 ((v9, v10))).bind fun v11 =>
   j7 (!((decide (v11 < 0)))))
   (j7 false)
def Bu (N : Nat) (p3 : (Aa × Aa) → Option Int) (j21 : ((List Aa)) → Option (Bool × (List Aa))) : Nat → ((List Aa) × Int) → Option (Bool × (List Aa))
 | 0, _ => none
 | n21 + 1, v21 =>
  AU ((decide (1 ≤ v21.2)))
   ((A5 v21.1 v21.2).bind fun v24 =>
   (A5 v21.1 ((wI .i64 (v21.2 - 1)))).bind fun v25 =>
   (p3 ((v24, v25))).bind fun v26 =>
   AU ((!((decide (v26 < 0)))))
    (j21 v21.1)
    ((A5 v21.1 ((wI .i64 (v21.2 - 1)))).bind fun v28 =>
    (A5 v21.1 v21.2).bind fun v29 =>
    (A5 v21.1 v21.2).bind fun _ =>
    (A5 (v21.1.set ((v21.2).toNat) v28) ((wI .i64 (v21.2 - 1)))).bind fun _ =>
    Bu N p3 j21 n21 ((v21.1.set ((v21.2).toNat) v28).set (((wI .i64 (v21.2 - 1))).toNat) v29, (wI .i64 (v21.2 - 1)))))
   (j21 v21.1)
def Bt (N : Nat) (p2 : Int) (p3 : (Aa × Aa) → Option Int) (j33 : ((List Aa)) → Option (Bool × (List Aa))) : Nat → ((List Aa) × Int) → Option (Bool × (List Aa))
 | 0, _ => none
 | n33 + 1, v33 =>
  AU ((decide (v33.2 < p2)))
   ((A5 v33.1 v33.2).bind fun v36 =>
   (A5 v33.1 ((wI .i64 (v33.2 - 1)))).bind fun v37 =>
   (p3 ((v36, v37))).bind fun v38 =>
   AU ((!((decide (v38 < 0)))))
    (j33 v33.1)
    ((A5 v33.1 ((wI .i64 (v33.2 - 1)))).bind fun v40 =>
    (A5 v33.1 v33.2).bind fun v41 =>
    (A5 v33.1 v33.2).bind fun _ =>
    (A5 (v33.1.set ((v33.2).toNat) v40) ((wI .i64 (v33.2 - 1)))).bind fun _ =>
    Bt N p2 p3 j33 n33 ((v33.1.set ((v33.2).toNat) v40).set (((wI .i64 (v33.2 - 1))).toNat) v41, (wI .i64 (v33.2 + 1)))))
   (j33 v33.1)
def Bz (N : Nat) (p1 : Int) (p2 : Int) (p3 : (Aa × Aa) → Option Int) (j1 : ((List Aa)) → Option (Bool × (List Aa))) : Nat → ((List Aa) × Int × Int) → Option (Bool × (List Aa))
 | 0, _ => none
 | n1 + 1, v1 =>
  AU ((decide (v1.2.2 < 5)))
   (Be (fun (v4 : (List Aa) × Int) =>
    Bz N p1 p2 p3 j1 n1 (v4.1, v4.2, (wI .i64 (v1.2.2 + 1))))
   fun j4 =>
   BA N p2 p3 v1 (fun (v6 : Int) =>
    AU ((v6 == p2))
     (some (true, v1.1))
     (AU ((decide ((wI .i64 (p2 - p1)) < 50)))
      (some (false, v1.1))
      ((A5 v1.1 ((wI .i64 (v6 - 1)))).bind fun v15 =>
      (A5 v1.1 v6).bind fun v16 =>
      (A5 v1.1 v6).bind fun _ =>
      (A5 (v1.1.set ((v6).toNat) v15) ((wI .i64 (v6 - 1)))).bind fun _ =>
      Be (fun (v19 : (List Aa)) =>
       AU ((decide (2 ≤ (wI .i64 (p2 - v6)))))
        (Bt N p2 p3 (fun (v34 : (List Aa)) =>
         j4 (v34, v6)) N (v19, (wI .i64 (v6 + 1))))
        (j4 (v19, v6)))
      fun j19 =>
      AU ((decide (2 ≤ (wI .i64 (v6 - p1)))))
       (Bu N p3 (fun (v22 : (List Aa)) =>
        j19 v22) N ((v1.1.set ((v6).toNat) v15).set (((wI .i64 (v6 - 1))).toNat) v16, (wI .i64 (v6 - 1))))
       (j19 ((v1.1.set ((v6).toNat) v15).set (((wI .i64 (v6 - 1))).toNat) v16))))) N v1.2.1)
   (j1 v1.1)
def CK (N : Nat) (p0 : List Aa) (p1 : Int) (p2 : Int) (p3 : (Aa × Aa) → Option Int) : Option (Bool × (List Aa)) :=
 Bz N p1 p2 p3 (fun (v2 : (List Aa)) =>
  some (false, v2)) N (p0, (wI .i64 (p1 + 1)), 0)
def BX (N : Nat) (p1 : Int) (p4 : (Aa × Aa) → Option Int) (v5 : (List Aa) × Int × Int) (j7 : Int → Option (Int × (List Aa))) : Nat → Int → Option (Int × (List Aa))
 | 0, _ => none
 | n7 + 1, v7 =>
  Be (fun (v9 : Bool) =>
   AU v9
    (BX N p1 p4 v5 j7 n7 (wI .i64 (v7 + 1)))
    (j7 v7))
  fun j9 =>
  AU ((decide (v7 ≤ v5.2.2)))
   ((A5 v5.1 p1).bind fun v11 =>
   (A5 v5.1 v7).bind fun v12 =>
   (p4 ((v11, v12))).bind fun v13 =>
   j9 (!((decide (v13 < 0)))))
   (j9 false)
def BS (N : Nat) (p1 : Int) (p4 : (Aa × Aa) → Option Int) (v5 : (List Aa) × Int × Int) (v8 : Int) (j15 : Int → Option (Int × (List Aa))) : Nat → Int → Option (Int × (List Aa))
 | 0, _ => none
 | n15 + 1, v15 =>
  Be (fun (v17 : Bool) =>
   AU v17
    (BS N p1 p4 v5 v8 j15 n15 (wI .i64 (v15 - 1)))
    (j15 v15))
  fun j17 =>
  AU ((decide (v8 ≤ v15)))
   ((A5 v5.1 p1).bind fun v19 =>
   (A5 v5.1 v15).bind fun v20 =>
   (p4 ((v19, v20))).bind fun v21 =>
   j17 (decide (v21 < 0)))
   (j17 false)
def B0 (N : Nat) (p1 : Int) (p4 : (Aa × Aa) → Option Int) (j5 : ((List Aa) × Int) → Option (Int × (List Aa))) : Nat → ((List Aa) × Int × Int) → Option (Int × (List Aa))
 | 0, _ => none
 | n5 + 1, v5 =>
  BX N p1 p4 v5 (fun (v8 : Int) =>
   BS N p1 p4 v5 v8 (fun (v16 : Int) =>
    AU ((decide (v16 < v8)))
     (j5 (v5.1, v8))
     ((A5 v5.1 v16).bind fun v24 =>
     (A5 v5.1 v8).bind fun v25 =>
     (A5 v5.1 v8).bind fun _ =>
     (A5 (v5.1.set ((v8).toNat) v24) v16).bind fun _ =>
     B0 N p1 p4 j5 n5 ((v5.1.set ((v8).toNat) v24).set ((v16).toNat) v25, (wI .i64 (v8 + 1)), (wI .i64 (v16 - 1))))) N v5.2.2) N v5.2.1
def Dx (N : Nat) (p0 : List Aa) (p1 : Int) (p2 : Int) (p3 : Int) (p4 : (Aa × Aa) → Option Int) : Option (Int × (List Aa)) :=
 (A5 p0 p3).bind fun v1 =>
 (A5 p0 p1).bind fun v2 =>
 (A5 p0 p1).bind fun _ =>
 (A5 (p0.set ((p1).toNat) v1) p3).bind fun _ =>
 B0 N p1 p4 (fun (v6 : (List Aa) × Int) =>
  some (v6.2, v6.1)) N ((p0.set ((p1).toNat) v1).set ((p3).toNat) v2, (wI .i64 (p1 + 1)), (wI .i64 (p2 - 1)))
def Cw (N : Nat) (p0 : List Aa) (p1 : Int) (p2 : Int) (p3 : Int) (p4 : (Aa × Aa) → Option Int) (v1 : Aa) (v2 : Aa) (j5 : Int → Option (Int × Bool × (List Aa))) : Nat → Int → Option (Int × Bool × (List Aa))
 | 0, _ => none
 | n5 + 1, v5 =>
  Be (fun (v7 : Bool) =>
   AU v7
    (Cw N p0 p1 p2 p3 p4 v1 v2 j5 n5 (wI .i64 (v5 + 1)))
    (j5 v5))
  fun j7 =>
  AU ((decide (v5 ≤ (wI .i64 (p2 - 1)))))
   ((A5 ((p0.set ((p1).toNat) v1).set ((p3).toNat) v2) v5).bind fun v9 =>
   (A5 ((p0.set ((p1).toNat) v1).set ((p3).toNat) v2) p1).bind fun v10 =>
   (p4 ((v9, v10))).bind fun v11 =>
   j7 (decide (v11 < 0)))
   (j7 false)
def Cn (N : Nat) (p0 : List Aa) (p1 : Int) (p3 : Int) (p4 : (Aa × Aa) → Option Int) (v1 : Aa) (v2 : Aa) (v6 : Int) (j13 : Int → Option (Int × Bool × (List Aa))) : Nat → Int → Option (Int × Bool × (List Aa))
 | 0, _ => none
 | n13 + 1, v13 =>
  Be (fun (v15 : Bool) =>
   AU v15
    (Cn N p0 p1 p3 p4 v1 v2 v6 j13 n13 (wI .i64 (v13 - 1)))
    (j13 v13))
  fun j15 =>
  AU ((decide (v6 ≤ v13)))
   ((A5 ((p0.set ((p1).toNat) v1).set ((p3).toNat) v2) v13).bind fun v17 =>
   (A5 ((p0.set ((p1).toNat) v1).set ((p3).toNat) v2) p1).bind fun v18 =>
   (p4 ((v17, v18))).bind fun v19 =>
   j15 (!((decide (v19 < 0)))))
   (j15 false)
def Co (N : Nat) (p1 : Int) (p4 : (Aa × Aa) → Option Int) (v30 : (List Aa) × Int × Int) (j32 : Int → Option (Int × Bool × (List Aa))) : Nat → Int → Option (Int × Bool × (List Aa))
 | 0, _ => none
 | n32 + 1, v32 =>
  Be (fun (v34 : Bool) =>
   AU v34
    (Co N p1 p4 v30 j32 n32 (wI .i64 (v32 + 1)))
    (j32 v32))
  fun j34 =>
  AU ((decide (v32 ≤ v30.2.2)))
   ((A5 v30.1 v32).bind fun v36 =>
   (A5 v30.1 p1).bind fun v37 =>
   (p4 ((v36, v37))).bind fun v38 =>
   j34 (decide (v38 < 0)))
   (j34 false)
def Cp (N : Nat) (p1 : Int) (p4 : (Aa × Aa) → Option Int) (v30 : (List Aa) × Int × Int) (v33 : Int) (j40 : Int → Option (Int × Bool × (List Aa))) : Nat → Int → Option (Int × Bool × (List Aa))
 | 0, _ => none
 | n40 + 1, v40 =>
  Be (fun (v42 : Bool) =>
   AU v42
    (Cp N p1 p4 v30 v33 j40 n40 (wI .i64 (v40 - 1)))
    (j40 v40))
  fun j42 =>
  AU ((decide (v33 ≤ v40)))
   ((A5 v30.1 v40).bind fun v44 =>
   (A5 v30.1 p1).bind fun v45 =>
   (p4 ((v44, v45))).bind fun v46 =>
   j42 (!((decide (v46 < 0)))))
   (j42 false)
def Cq (N : Nat) (p1 : Int) (p4 : (Aa × Aa) → Option Int) (j30 : ((List Aa) × Int) → Option (Int × Bool × (List Aa))) : Nat → ((List Aa) × Int × Int) → Option (Int × Bool × (List Aa))
 | 0, _ => none
 | n30 + 1, v30 =>
  Co N p1 p4 v30 (fun (v33 : Int) =>
   Cp N p1 p4 v30 v33 (fun (v41 : Int) =>
    AU ((decide (v41 < v33)))
     (j30 (v30.1, v41))
     ((A5 v30.1 v41).bind fun v49 =>
     (A5 v30.1 v33).bind fun v50 =>
     (A5 v30.1 v33).bind fun _ =>
     (A5 (v30.1.set ((v33).toNat) v49) v41).bind fun _ =>
     Cq N p1 p4 j30 n30 ((v30.1.set ((v33).toNat) v49).set ((v41).toNat) v50, (wI .i64 (v33 + 1)), (wI .i64 (v41 - 1))))) N v30.2.2) N v30.2.1
def Eb (N : Nat) (p0 : List Aa) (p1 : Int) (p2 : Int) (p3 : Int) (p4 : (Aa × Aa) → Option Int) : Option (Int × Bool × (List Aa)) :=
 (A5 p0 p3).bind fun v1 =>
 (A5 p0 p1).bind fun v2 =>
 (A5 p0 p1).bind fun _ =>
 (A5 (p0.set ((p1).toNat) v1) p3).bind fun _ =>
 Cw N p0 p1 p2 p3 p4 v1 v2 (fun (v6 : Int) =>
  Cn N p0 p1 p3 p4 v1 v2 v6 (fun (v14 : Int) =>
   AU ((decide (v14 < v6)))
    ((A5 ((p0.set ((p1).toNat) v1).set ((p3).toNat) v2) p1).bind fun v22 =>
    (A5 ((p0.set ((p1).toNat) v1).set ((p3).toNat) v2) v14).bind fun v23 =>
    (A5 ((p0.set ((p1).toNat) v1).set ((p3).toNat) v2) v14).bind fun _ =>
    (A5 (((p0.set ((p1).toNat) v1).set ((p3).toNat) v2).set ((v14).toNat) v22) p1).bind fun _ =>
    some (v14, true, (((p0.set ((p1).toNat) v1).set ((p3).toNat) v2).set ((v14).toNat) v22).set ((p1).toNat) v23))
    ((A5 ((p0.set ((p1).toNat) v1).set ((p3).toNat) v2) v14).bind fun v26 =>
    (A5 ((p0.set ((p1).toNat) v1).set ((p3).toNat) v2) v6).bind fun v27 =>
    (A5 ((p0.set ((p1).toNat) v1).set ((p3).toNat) v2) v6).bind fun _ =>
    (A5 (((p0.set ((p1).toNat) v1).set ((p3).toNat) v2).set ((v6).toNat) v26) v14).bind fun _ =>
    Cq N p1 p4 (fun (v31 : (List Aa) × Int) =>
     (A5 v31.1 p1).bind fun v53 =>
     (A5 v31.1 v31.2).bind fun v54 =>
     (A5 v31.1 v31.2).bind fun _ =>
     (A5 (v31.1.set ((v31.2).toNat) v53) p1).bind fun _ =>
     some (v31.2, false, (v31.1.set ((v31.2).toNat) v53).set ((p1).toNat) v54)) N ((((p0.set ((p1).toNat) v1).set ((p3).toNat) v2).set ((v6).toNat) v26).set ((v14).toNat) v27, (wI .i64 (v6 + 1)), (wI .i64 (v14 - 1))))) N (wI .i64 (p2 - 1))) N (wI .i64 (p1 + 1))
def Bq (N : Nat) (p4 : (Aa × Aa) → Option Int) (rc : (List Aa) → Int → Int → Int → ((Aa × Aa) → Option Int) → Option ((List Aa))) (j1 : Unit → Option ((List Aa))) : Nat → ((List Aa) × Int × Int × Int × Bool × Bool) → Option ((List Aa))
 | 0, _ => none
 | n1 + 1, v1 =>
  AU ((decide ((wI .i64 (v1.2.2.1 - v1.2.1)) ≤ 12)))
   ((DH N v1.1 v1.2.1 v1.2.2.1 p4).bind fun v4 =>
   some v4)
   (AU ((v1.2.2.2.1 == 0))
    ((Eg N v1.1 v1.2.1 v1.2.2.1 p4).bind fun v6 =>
    some v6)
    (Be (fun (v7 : (List Aa) × Int) =>
     (DW N v7.1 v1.2.1 v1.2.2.1 p4).bind fun v10 =>
     Be (fun (v11 : (List Aa) × Int × Int) =>
      Be (fun (v14 : (List Aa)) =>
       Be (fun (v21 : Bool) =>
        AU v21
         ((Dx N v14 v1.2.1 v1.2.2.1 v11.2.1 p4).bind fun v27 =>
         Bq N p4 rc j1 n1 (v27.2, v27.1, v1.2.2.1, v7.2, v1.2.2.2.2.1, v1.2.2.2.2.2))
         ((Eb N v14 v1.2.1 v1.2.2.1 v11.2.1 p4).bind fun v28 =>
         AU ((decide ((wI .i64 (v28.1 - v1.2.1)) < (wI .i64 (v1.2.2.1 - v28.1)))))
          ((rc v28.2.2 v1.2.1 v28.1 v7.2 p4).bind fun v30 =>
          Bq N p4 rc j1 n1 (v30, (wI .i64 (v28.1 + 1)), v1.2.2.1, v7.2, (decide ((wI .i64 (Int.tdiv ((wI .i64 (v1.2.2.1 - v1.2.1))) 8)) ≤ (wI .i64 (v28.1 - v1.2.1)))), v28.2.1))
          ((rc v28.2.2 ((wI .i64 (v28.1 + 1))) v1.2.2.1 v7.2 p4).bind fun v31 =>
          Bq N p4 rc j1 n1 (v31, v1.2.1, v28.1, v7.2, (decide ((wI .i64 (Int.tdiv ((wI .i64 (v1.2.2.1 - v1.2.1))) 8)) ≤ (wI .i64 (v1.2.2.1 - v28.1)))), v28.2.1))))
       fun j21 =>
       AU ((decide (0 < v1.2.1)))
        ((A5 v14 ((wI .i64 (v1.2.1 - 1)))).bind fun v23 =>
        (A5 v14 v11.2.1).bind fun v24 =>
        (p4 ((v23, v24))).bind fun v25 =>
        j21 (!((decide (v25 < 0)))))
        (j21 false))
      fun j14 =>
      Be (fun (v15 : Bool) =>
       AU v15
        ((CK N v11.1 v1.2.1 v1.2.2.1 p4).bind fun v19 =>
        AU v19.1
         (some v19.2)
         (j14 v19.2))
        (j14 v11.1))
      fun j15 =>
      AU v1.2.2.2.2.1
       (AU v1.2.2.2.2.2
        (j15 (v11.2.2 == 1))
        (j15 false))
       (j15 false))
     fun j11 =>
     AU ((v10.2 == 2))
      ((DS N v7.1 v1.2.1 v1.2.2.1 p4).bind fun v13 =>
      j11 (v13, (wI .i64 ((wI .i64 (v1.2.2.1 - 1)) - (wI .i64 (v10.1 - v1.2.1)))), 1))
      (j11 (v7.1, v10.1, v10.2)))
    fun j7 =>
    AU ((!v1.2.2.2.2.1))
     ((DE N v1.1 v1.2.1 v1.2.2.1 p4).bind fun v9 =>
     j7 (v9, (wI .i64 (v1.2.2.2.1 - 1))))
     (j7 (v1.1, v1.2.2.2.1))))
def Ec (N : Nat) (rc : (List Aa) → Int → Int → Int → ((Aa × Aa) → Option Int) → Option ((List Aa))) (p0 : List Aa) (p1 : Int) (p2 : Int) (p3 : Int) (p4 : (Aa × Aa) → Option Int) : Option ((List Aa)) :=
 Bq N p4 rc (fun (_ : Unit) =>
  none) N (p0, p1, p2, p3, true, true)
def CX (N : Nat) : Nat → (List Aa) → Int → Int → Int → ((Aa × Aa) → Option Int) → Option ((List Aa))
 | 0, _, _, _, _, _ => none
 | k + 1, p0, p1, p2, p3, p4 => Ec N (CX N k) p0 p1 p2 p3 p4
def F9 (N : Nat) (p0 : List Aa) (p1 : Int) (p2 : Int) (p3 : Int) (p4 : (Aa × Aa) → Option Int) : Option ((List Aa)) := CX N N p0 p1 p2 p3 p4
def Du (N : Nat) (p0 : List Aa) (p1 : (Aa × Aa) → Option Int) : Option ((List Aa)) :=
 (H8 N ((wI .u64 ((p0.length : Int))))).bind fun v1 =>
 (F9 N p0 0 ((p0.length : Int)) v1 p1).bind fun v2 =>
 some v2
def Ie (_ : Nat) (p0 : Int) : Option Bool :=
 some ((p0 != p0))
def GC (N : Nat) (p0 : Int) (p1 : Int) : Option Int :=
 (Ie N p0).bind fun v1 =>
 (Ie N p1).bind fun v2 =>
 AU v1
  (AU v2
   (some 0)
   (some ((-1))))
  (AU v2
   (some 1)
   (AU ((decide (p0 < p1)))
    (some ((-1)))
    (AU ((decide (p1 < p0)))
     (some 1)
     (some 0))))
def H9 (N : Nat) (p0 : List Int) (j1 : Unit → Option Int) : Nat → Int → Option Int
 | 0, _ => none
 | n1 + 1, v1 =>
  AU ((decide (v1 < (p0.length : Int))))
   ((A5 p0 v1).bind fun v4 =>
   AU ((v4 != 0))
    (some v4)
    (H9 N p0 j1 n1 (wI .i64 (v1 + 1))))
   (j1 ())
def Lf (N : Nat) (p0 : List Int) : Option Int :=
 H9 N p0 (fun (_ : Unit) =>
  some 0) N 0
def Hv (N : Nat) (p0 : Aa) (p1 : Aa) : Option Int :=
 (GC N p0.fX p1.fX).bind fun v1 =>
 (GC N p0.fW p1.fW).bind fun v2 =>
 (GC N p0.fV p1.fV).bind fun v3 =>
 (Lf N (([v1, v2, v3] : List Int))).bind fun v4 =>
 some v4
def BY (N : Nat) (p0 : List Aa) (v2 : Int) (j10 : ((List Aa) × Int) → Option (Nat × (List Aa))) : Nat → ((List Aa) × Int × Int) → Option (Nat × (List Aa))
 | 0, _ => none
 | n10 + 1, v10 =>
  AU ((decide (v10.2.2 < ((((p0.length - (v2).toNat)) : Nat) : Int))))
   (Be (fun (v13 : (List Aa) × Int) =>
    BY N p0 v2 j10 n10 (v13.1, v13.2, (wI .i64 (v10.2.2 + 1))))
   fun j13 =>
   (Eo (((v2).toNat) + ((p0.length - (v2).toNat)) ≤ v10.1.length)).bind fun _ =>
   (A5 (((v10.1.drop ((v2).toNat)).take ((p0.length - (v2).toNat)))) v10.2.2).bind fun v14 =>
   (A5 (((v10.1.drop ((v2).toNat)).take ((p0.length - (v2).toNat)))) ((wI .i64 (v10.2.2 - 1)))).bind fun v16 =>
   AU ((!((v14.fX == v16.fX) && ((v14.fW == v16.fW) && ((v14.fV == v16.fV) && true)))))
    ((A5 (((v10.1.drop ((v2).toNat)).take ((p0.length - (v2).toNat)))) v10.2.2).bind fun v18 =>
    (A5 v10.1 v10.2.1).bind fun _ =>
    j13 (v10.1.set ((v10.2.1).toNat) v18, (wI .i64 (v10.2.1 + 1))))
    (j13 (v10.1, v10.2.1)))
   (j10 (v10.1, v10.2.1))
def B3 (N : Nat) (p0 : List Aa) (j2 : Unit → Option (Nat × (List Aa))) : Nat → Int → Option (Nat × (List Aa))
 | 0, _ => none
 | n2 + 1, v2 =>
  AU ((decide (v2 < (p0.length : Int))))
   ((A5 p0 v2).bind fun v5 =>
   (A5 p0 ((wI .i64 (v2 - 1)))).bind fun v6 =>
   AU (((v5.fX == v6.fX) && ((v5.fW == v6.fW) && ((v5.fV == v6.fV) && true))))
    ((Eo ((0 : Int) ≤ v2 ∧ (v2).toNat ≤ p0.length ∧ p0.length ≤ p0.length)).bind fun _ =>
    BY N p0 v2 (fun (v11 : (List Aa) × Int) =>
     (Eo ((0 : Int) ≤ v11.2 ∧ (v11.2).toNat ≤ v11.1.length ∧ v11.1.length ≤ v11.1.length)).bind fun _ =>
     (Eo ((0 : Int) ≤ v11.2 ∧ 0 ≤ (v11.2).toNat ∧ (v11.2).toNat ≤ (HP v11.1 ((v11.2).toNat) (List.replicate ((v11.1.length - (v11.2).toNat)) ((Aa.mk 0 0 0)))).length)).bind fun _ =>
     some ((v11.2).toNat, HP v11.1 ((v11.2).toNat) (List.replicate ((v11.1.length - (v11.2).toNat)) ((Aa.mk 0 0 0))))) N (p0, v2, 1))
    (B3 N p0 j2 n2 (wI .i64 (v2 + 1))))
   (j2 ())
def DG (N : Nat) (p0 : List Aa) : Option (Nat × (List Aa)) :=
 AU ((decide ((p0.length : Int) < 2)))
  (some (p0.length, p0))
  (B3 N p0 (fun (_ : Unit) =>
   some (p0.length, p0)) N 1)
def Bm (_ : Nat) (p0 : List Aa) (p1 : Int) (p2 : Int) : Option (Nat × (List Aa)) :=
 (Eo ((0 : Int) ≤ p1 ∧ (p1).toNat ≤ (p2).toNat ∧ 0 ≤ p2 ∧ (p2).toNat ≤ ((p0.length : Int)).toNat ∧ 0 ≤ (p0.length : Int) ∧ ((p0.length : Int)).toNat ≤ p0.length)).bind fun _ =>
 AU ((p1 == p2))
  (some (p0.length, p0))
  ((Eo ((0 : Int) ≤ p1 ∧ 0 ≤ (p1).toNat ∧ (p1).toNat ≤ p0.length)).bind fun _ =>
  (Eo ((0 : Int) ≤ p2 ∧ (p2).toNat ≤ p0.length ∧ p0.length ≤ p0.length)).bind fun _ =>
  (Eo ((p1).toNat + (((p0.drop ((p2).toNat)).take ((p0.length - (p2).toNat)))).length ≤ p0.length)).bind fun _ =>
  (Eo ((0 : Int) ≤ (((((p1).toNat + (((p0.drop ((p2).toNat)).take ((p0.length - (p2).toNat)))).length)) : Nat) : Int) ∧ (0 : Int) ≤ (p0.length : Int) ∧ ((((((p1).toNat + (((p0.drop ((p2).toNat)).take ((p0.length - (p2).toNat)))).length)) : Nat) : Int)).toNat ≤ ((p0.length : Int)).toNat ∧ ((p0.length : Int)).toNat ≤ (HP p0 (0 + ((p1).toNat)) (((p0.drop ((p2).toNat)).take ((p0.length - (p2).toNat))))).length)).bind fun _ =>
  some (((p1).toNat + (((p0.drop ((p2).toNat)).take ((p0.length - (p2).toNat)))).length), HP (HP p0 (0 + ((p1).toNat)) (((p0.drop ((p2).toNat)).take ((p0.length - (p2).toNat))))) (((((((p1).toNat + (((p0.drop ((p2).toNat)).take ((p0.length - (p2).toNat)))).length)) : Nat) : Int)).toNat) (List.replicate ((((p0.length : Int)).toNat - ((((((p1).toNat + (((p0.drop ((p2).toNat)).take ((p0.length - (p2).toNat)))).length)) : Nat) : Int)).toNat)) ((Aa.mk 0 0 0)))))
def Gl (N : Nat) (p0 : Ac) (v5 : Nat × (List Aa)) (j14 : Bool → Option (Bool × Int)) : Nat → (Bool × Int) → Option (Bool × Int)
 | 0, _ => none
 | n14 + 1, v14 =>
  AU ((decide (v14.2 < ((v5.2.take v5.1).length : Int))))
   (Be (fun (v17 : Bool) =>
    Gl N p0 v5 j14 n14 (v17, (wI .i64 (v14.2 + 1))))
   fun j17 =>
   (Bb N (v5.2.take v5.1)).bind fun v18 =>
   (Bm N v18 v14.2 ((wI .i64 (v14.2 + 1)))).bind fun v19 =>
   (Eo (v19.1 ≤ v19.2.length)).bind fun _ =>
   (ER N p0 (((v19.2.drop 0).take v19.1))).bind fun v22 =>
   AU ((v22.2 != 0))
    (some (false, v22.2))
    (AU v14.1
     (j17 (!v22.1))
     (j17 false)))
   (j14 v14.1)
def IH (N : Nat) (p0 : Ac) (p1 : List Aa) : Option (Bool × Int) :=
 (Gu N p0 p1).bind fun v1 =>
 AU ((v1 != 0))
  (some (false, v1))
  ((Bb N p1).bind fun v3 =>
  (Du N v3 ((fun (x : Aa × Aa) => Hv N x.1 x.2))).bind fun v4 =>
  (DG N v4).bind fun v5 =>
  (Eo (v5.1 ≤ v5.2.length)).bind fun _ =>
  Be (fun (v8 : Bool) =>
   AU v8
    (some (false, 3))
    ((ER N p0 (v5.2.take v5.1)).bind fun v12 =>
    AU ((v12.2 != 0))
     (some (false, v12.2))
     (Gl N p0 v5 (fun (v15 : Bool) =>
      some (v15, 0)) N (v12.1, 0))))
  fun j8 =>
  (EV N p0).bind fun v9 =>
  AU ((decide (24 < (v9.length : Int))))
   (j8 true)
   (j8 (decide (3 < ((v5.2.take v5.1).length : Int)))))
def Ju (N : Nat) (p0 : Ac) : Option ((List Aa) × Int) :=
 (GA N p0).bind fun v1 =>
 AU ((v1.2 != 0))
  (some (([] : List Aa), v1.2))
  ((A5 v1.1 0).bind fun v3 =>
  some (v3, 0))
def F3 (N : Nat) : Option Bool :=
 (Es N).bind fun v1 =>
 (GA N v1).bind fun v2 =>
 (Es N).bind fun v3 =>
 (FQ N v3).bind fun v4 =>
 (Es N).bind fun v5 =>
 (IH N v5 v4.1).bind fun v6 =>
 (Es N).bind fun v7 =>
 (Ju N v7).bind fun v8 =>
 Be (fun (v9 : Bool) =>
  some v9)
 fun j9 =>
 AU ((v2.2 == 0))
  (AU ((v4.2 == 0))
   (AU ((v6.2 == 0))
    (AU ((v8.2 == 0))
     (AU (((v2.1.length : Int) == 2))
      (AU (((v4.1.length : Int) == 2))
       ((A5 v4.1 0).bind fun v16 =>
       AU (((v16.fX == 0) && ((v16.fW == 0) && ((v16.fV == 1) && true))))
        (AU ((!v6.1))
         (AU (((v8.1.length : Int) == 1))
          ((A5 v8.1 0).bind fun v20 =>
          j9 ((v20.fX == 0) && ((v20.fW == 0) && ((v20.fV == 1) && true))))
          (j9 false))
         (j9 false))
        (j9 false))
       (j9 false))
      (j9 false))
     (j9 false))
    (j9 false))
   (j9 false))
  (j9 false)
def GI (N : Nat) (p0 : Ac) (p1 : List Aa) : Option (Ac × Int) :=
 (Gu N p0 p1).bind fun v1 =>
 AU ((v1 != 0))
  (some ((Ac.mk (([] : List Int)) (([] : List Int)) (([] : List Int)) (([] : List An))), v1))
  ((GM N p0 p1).bind fun v3 =>
  some (v3, 0))
def GD (N : Nat) (p0 : Ac) (p1 : Af) : Option ((List Af) × Int) :=
 (Em N p0 p1).bind fun v1 =>
 AU ((v1 != 0))
  (some (([] : List Af), v1))
  ((ES N p1).bind fun v3 =>
  some (v3, 0))
def Dv (N : Nat) (p0 : Ac) (v1 : (List Af) × Int) (j3 : Unit → Option (Af × Aa × Int)) : Nat → Int → Option (Af × Aa × Int)
 | 0, _ => none
 | n3 + 1, v3 =>
  AU ((decide (v3 < (v1.1.length : Int))))
   ((A5 v1.1 v3).bind fun v6 =>
   (E0 N p0 v6).bind fun v7 =>
   AU ((decide (0 < (v7.length : Int))))
    ((A5 v1.1 v3).bind fun v9 =>
    (A5 v7 0).bind fun v10 =>
    some (v9, v10, 0))
    (Dv N p0 v1 j3 n3 (wI .i64 (v3 + 1))))
   (j3 ())
def FW (N : Nat) (p0 : Ac) (p1 : Af) : Option (Af × Aa × Int) :=
 (GD N p0 p1).bind fun v1 =>
 AU ((v1.2 != 0))
  (some ((Af.mk (([] : List Int)) (([] : List Int)) (([] : List Int))), (Aa.mk 0 0 0), v1.2))
  (Dv N p0 v1 (fun (_ : Unit) =>
   some ((Af.mk (([] : List Int)) (([] : List Int)) (([] : List Int))), (Aa.mk 0 0 0), 15)) N 0)
def DO (N : Nat) (p0 : Ac) (p1 : Af) (j3 : Unit → Option Bool) : Nat → Int → Option Bool
 | 0, _ => none
 | n3 + 1, v3 =>
  AU ((decide (v3 < (p1.fG.length : Int))))
   (Be (fun (v6 : Bool) =>
    AU v6
     (some false)
     (DO N p0 p1 j3 n3 (wI .i64 (v3 + 1))))
   fun j6 =>
   (A5 p1.fD v3).bind fun v7 =>
   AU ((decide (0 ≤ v7)))
    (j6 true)
    ((A5 p1.fG v3).bind fun v9 =>
    (A5 p0.fP v3).bind fun v10 =>
    j6 (v9 != v10)))
   (j3 ())
def Fp (N : Nat) (p0 : Ac) (p1 : Af) : Option Bool :=
 (Em N p0 p1).bind fun v1 =>
 AU ((v1 != 0))
  (some false)
  (DO N p0 p1 (fun (_ : Unit) =>
   some true) N 0)
def CZ (N : Nat) (p0 : Ac) (p1 : List Ag) (j3 : Af → Option (Int × Af × Aa × Int)) : Nat → ((List Int) × (List Int) × (List Int) × Int) → Option (Int × Af × Aa × Int)
 | 0, _ => none
 | n3 + 1, v3 =>
  AU ((decide (v3.2.2.2 < (p1.length : Int))))
   (Be (fun (v6 : (List Int) × (List Int) × (List Int)) =>
    (FW N p0 ((Af.mk v6.1 v6.2.1 v6.2.2))).bind fun v14 =>
    AU ((v14.2.2 == 0))
     (some (v3.2.2.2, v14.1, v14.2.1, 0))
     (CZ N p0 p1 j3 n3 (v6.1, v6.2.1, v6.2.2, (wI .i64 (v3.2.2.2 + 1)))))
   fun j6 =>
   AU ((decide (0 ≤ v3.2.2.2)))
    ((A5 p1 v3.2.2.2).bind fun v8 =>
    (E5 N p0 ((Af.mk v3.1 v3.2.1 v3.2.2.1)) v8).bind fun v9 =>
    Be (fun (v10 : Bool) =>
     AU v10
      (some (v3.2.2.2, (Af.mk (([] : List Int)) (([] : List Int)) (([] : List Int))), (Aa.mk 0 0 0), 0))
      (j6 (v9.1.fG, v9.1.fD, v9.1.fH)))
    fun j10 =>
    AU ((v9.2 != 0))
     (j10 true)
     ((A5 p1 v3.2.2.2).bind fun v12 =>
     j10 (v12.fI == 4)))
    (j6 (v3.1, v3.2.1, v3.2.2.1)))
   (j3 (Af.mk v3.1 v3.2.1 v3.2.2.1))
def Fl (N : Nat) (p0 : Ac) (p1 : List Ag) : Option (Int × Af × Aa × Int) :=
 (E3 N p0).bind fun v1 =>
 AU ((v1.2 != 0))
  (some (0, (Af.mk (([] : List Int)) (([] : List Int)) (([] : List Int))), (Aa.mk 0 0 0), v1.2))
  (CZ N p0 p1 (fun (v4 : Af) =>
   (Fp N p0 v4).bind fun v16 =>
   AU ((!v16))
    (some ((p1.length : Int), (Af.mk (([] : List Int)) (([] : List Int)) (([] : List Int))), (Aa.mk 0 0 0), 14))
    (some (0, (Af.mk (([] : List Int)) (([] : List Int)) (([] : List Int))), (Aa.mk 0 0 0), 15))) N (v1.1.fG, v1.1.fD, v1.1.fH, (-1)))
def E7 (N : Nat) (p0 : Ac) (p1 : List Ag) : Option Bool :=
 (Fl N p0 p1).bind fun v1 =>
 some ((v1.2.2.2 == 15))
def A7 (N : Nat) (v1 : Ac × Bool) (v12 : List Aa) (j13 : Unit → Option Bool) : Nat → Int → Option Bool
 | 0, _ => none
 | n13 + 1, v13 =>
  AU ((decide (v13 < (v12.length : Int))))
   ((Bb N v12).bind fun v16 =>
   Be (fun (v17 : (List Aa)) =>
    (GI N v1.1 v17).bind fun v22 =>
    (Gi N v22.1).bind fun v23 =>
    Be (fun (v24 : Bool) =>
     AU v24
      (some false)
      (A7 N v1 v12 j13 n13 (wI .i64 (v13 + 1))))
    fun j24 =>
    AU ((v22.2 != 0))
     (j24 true)
     (AU ((!((v23.2 == 0) == (decide (v13 < 0)))))
      (j24 true)
      (AU ((v23.2 == 0))
       ((E7 N v22.1 v23.1).bind fun v28 =>
       j24 (!v28))
       (j24 false))))
   fun j17 =>
   AU ((decide (0 ≤ v13)))
    ((Bm N v16 v13 ((wI .i64 (v13 + 1)))).bind fun v19 =>
    (Eo (v19.1 ≤ v19.2.length)).bind fun _ =>
    j17 (v19.2.take v19.1))
    (j17 v16))
   (j13 ())
def CE (N : Nat) (v1 : Ac × Bool) (v7 : (List (List Aa)) × Int) (j9 : Unit → Option Bool) : Nat → Int → Option Bool
 | 0, _ => none
 | n9 + 1, v9 =>
  AU ((decide (v9 < (v7.1.length : Int))))
   ((A5 v7.1 v9).bind fun v12 =>
   A7 N v1 v12 (fun (_ : Unit) =>
    CE N v1 v7 j9 n9 (wI .i64 (v9 + 1))) N (-1))
   (j9 ())
def D5 (N : Nat) (p0 : B1) : Option Bool :=
 (G1 N p0).bind fun v1 =>
 Be (fun (v2 : Bool) =>
  AU v2
   ((F3 N).bind fun v6 =>
   some v6)
   ((GA N v1.1).bind fun v7 =>
   AU ((v7.2 != 0))
    (some ((v7.2 == 14)))
    (CE N v1 v7 (fun (_ : Unit) =>
     some true) N 0)))
 fun j2 =>
 (F3 N).bind fun v3 =>
 AU ((!v3))
  (j2 true)
  (j2 (!v1.2))
def PN {α : Type} (w : α → Prop) (xs : List α) : Prop := ∀ x, x ∈ xs → w x
def MW (n : Int) : Prop := (Lit.int .u8 n).wf = true
def bq (n : Int) : Prop := (Lit.int .u16 n).wf = true
def Jv (x : IF) : Prop := MW x.fI ∧ MW x.fJ ∧ MW x.fO ∧ (fun _ => True) x.fR ∧ bq x.f5 ∧ bq x.f6 ∧ True
def GS (x : B1) : Prop := (PN MW) x.fE ∧ (PN MW) x.fK ∧ (PN MW) x.fP ∧ (PN Jv) x.fZ ∧ True
open Go.RowKit
open Go.Proofs
abbrev O3 (x : IF) : List C := [.pure (.val (.int .u8 x.fI)), .pure (.val (.int .u8 x.fJ)), .pure (.val (.int .u8 x.fO)), .pure (.val (.bool x.fR)), .pure (.val (.int .u16 x.f5)), .pure (.val (.int .u16 x.f6))]
abbrev DD (x : B1) : List C := [sC (x.fE.map Ex), sC (x.fK.map Ex), sC (x.fP.map Ex), sC (x.fZ.map Ih)]
abbrev Bv (x : An) : List C := [iC x.fI, iC x.fJ, iC x.fO, .pure (.val (.bool x.fR)), sC (x.fN.map (FN eB)), sC (x.fQ.map (FN eB))]
abbrev Aj (x : Ac) : List C := [sC (x.fE.map Aq), sC (x.fK.map Aq), sC (x.fP.map Aq), sC (x.fF.map AI)]
abbrev D9 (x : Aa) : List C := [iC x.fX, iC x.fW, iC x.fV]
abbrev AL (x : Af) : List C := [sC (x.fG.map Aq), sC (x.fD.map Aq), sC (x.fH.map Ex)]
abbrev Ei (x : Ag) : List C := [iC x.fI, iC x.fL, iC x.fT]
abbrev W6 (x : AH) : List C := [sC (x.fS.fG.map Aq), sC (x.fS.fD.map Aq), sC (x.fS.fH.map Ex), iC x.fJ, iC x.fU.fI, iC x.fU.fL, iC x.fU.fT, sC (x.fD.map Aq)]
theorem As : Tryz.prog.follows .mixedOrders = true := by kernel_rfl
theorem wq {X : Kl} {y : Code} {id : Nat} {ops : Array Oper} {dr : Bool} {Q : Exit → St → Prop} {st : St} {n : Nat} (hn : ops.size = n) (h : Bh Tryz.prog X ops dr (fun st' => W Tryz.prog X y Q st') n 0 st []) : W Tryz.prog X (.seq (.region id ops dr) y) Q st := fA As hn h
theorem wp {X : Kl} {y z : Code} {id : Nat} {ops : Array Oper} {dr : Bool} {Q : Exit → St → Prop} {st : St} {n : Nat} (hn : ops.size = n) (h : Bh Tryz.prog X ops dr (fun st' => W Tryz.prog X y (Se (W Tryz.prog X z Q) Q) st') n 0 st []) : W Tryz.prog X (.seq (.seq (.region id ops dr) y) z) Q st := AN (fA As hn h)
theorem HV : Gm Tryz.prog 101 true = true := by kernel_rfl
theorem cy : Gm Tryz.prog 103 true = true := by kernel_rfl
theorem P5 : Gm Tryz.prog 165 false = true := by kernel_rfl
theorem XO : Gm Tryz.prog 22 false = true := by kernel_rfl
theorem ci : Gm Tryz.prog 23 false = true := by kernel_rfl
theorem cv : Gm Tryz.prog 25 true = true := by kernel_rfl
theorem Bg : Gm Tryz.prog 26 false = true := by kernel_rfl
theorem GZ : Gm Tryz.prog 27 false = true := by kernel_rfl
theorem Db : Gm Tryz.prog 29 true = true := by kernel_rfl
theorem CN : Gm Tryz.prog 3 false = true := by kernel_rfl
theorem ZT : Gm Tryz.prog 33 false = true := by kernel_rfl
theorem TD : Gm Tryz.prog 4 false = true := by kernel_rfl
theorem CY : Gm Tryz.prog 45 true = true := by kernel_rfl
theorem cJ : Gm Tryz.prog 5 false = true := by kernel_rfl
theorem I0 : Gm Tryz.prog 62 false = true := by kernel_rfl
theorem BT : Gm Tryz.prog 64 true = true := by kernel_rfl
theorem HR : Gm Tryz.prog 74 false = true := by kernel_rfl
theorem HZ : Gm Tryz.prog 76 true = true := by kernel_rfl
theorem ML : Gm Tryz.prog 77 false = true := by kernel_rfl
theorem en : Gm Tryz.prog 86 false = true := by kernel_rfl
theorem eF : Gm Tryz.prog 88 true = true := by kernel_rfl
theorem MP : Gm Tryz.prog 94 false = true := by kernel_rfl
theorem fC : RT Tryz.prog 4 = true := by kernel_rfl
theorem cC : SX Tryz.prog 22 = true := by kernel_rfl
theorem Qj : G5 Tryz.prog 101 24 = true := by kernel_rfl
theorem bm : G5 Tryz.prog 103 128 = true := by kernel_rfl
theorem bb : G5 Tryz.prog 154 104 = true := by kernel_rfl
theorem MH : G5 Tryz.prog 3 8 = true := by kernel_rfl
theorem aF : G5 Tryz.prog 33 24 = true := by kernel_rfl
theorem Xi : G5 Tryz.prog 4 1 = true := by kernel_rfl
theorem Po : G5 Tryz.prog 45 24 = true := by kernel_rfl
theorem bc : G5 Tryz.prog 5 1 = true := by kernel_rfl
theorem aV : G5 Tryz.prog 64 72 = true := by kernel_rfl
theorem Yh : G5 Tryz.prog 76 80 = true := by kernel_rfl
theorem Ws : G5 Tryz.prog 77 24 = true := by kernel_rfl
theorem TV : G5 Tryz.prog 94 1 = true := by kernel_rfl
theorem Ge : Dk Tryz.prog 101 0 0 = true := by kernel_rfl
theorem FF : Dk Tryz.prog 101 1 1 = true := by kernel_rfl
theorem HD : Dk Tryz.prog 101 2 2 = true := by kernel_rfl
theorem P0 : Dk Tryz.prog 103 0 0 = true := by kernel_rfl
theorem T9 : Dk Tryz.prog 103 1 3 = true := by kernel_rfl
theorem XA : Dk Tryz.prog 103 2 4 = true := by kernel_rfl
theorem TZ : Dk Tryz.prog 103 3 7 = true := by kernel_rfl
theorem Qg : Dk Tryz.prog 154 0 0 = true := by kernel_rfl
theorem SI : Dk Tryz.prog 25 0 0 = true := by kernel_rfl
theorem Z3 : Dk Tryz.prog 25 1 1 = true := by kernel_rfl
theorem Zl : Dk Tryz.prog 25 2 2 = true := by kernel_rfl
theorem SK : Dk Tryz.prog 25 3 3 = true := by kernel_rfl
theorem BH : Dk Tryz.prog 29 0 0 = true := by kernel_rfl
theorem HJ : Dk Tryz.prog 29 1 1 = true := by kernel_rfl
theorem I6 : Dk Tryz.prog 29 2 2 = true := by kernel_rfl
theorem BK : Dk Tryz.prog 29 3 3 = true := by kernel_rfl
theorem Td : Dk Tryz.prog 45 0 0 = true := by kernel_rfl
theorem SN : Dk Tryz.prog 45 1 1 = true := by kernel_rfl
theorem S6 : Dk Tryz.prog 45 2 2 = true := by kernel_rfl
theorem DR : Dk Tryz.prog 64 0 0 = true := by kernel_rfl
theorem B7 : Dk Tryz.prog 64 1 1 = true := by kernel_rfl
theorem DQ : Dk Tryz.prog 64 2 2 = true := by kernel_rfl
theorem HO : Dk Tryz.prog 76 0 0 = true := by kernel_rfl
theorem Eu : Dk Tryz.prog 76 1 1 = true := by kernel_rfl
theorem Ke : Dk Tryz.prog 76 2 2 = true := by kernel_rfl
theorem K2 : Dk Tryz.prog 76 3 3 = true := by kernel_rfl
theorem FB : Dk Tryz.prog 76 4 4 = true := by kernel_rfl
theorem FC : Dk Tryz.prog 76 5 5 = true := by kernel_rfl
theorem ZW : Dk Tryz.prog 88 0 0 = true := by kernel_rfl
theorem ZZ : Dk Tryz.prog 88 1 1 = true := by kernel_rfl
theorem Zo : Dk Tryz.prog 88 2 2 = true := by kernel_rfl
theorem Zc : Dk Tryz.prog 88 3 3 = true := by kernel_rfl
theorem Za : Dk Tryz.prog 88 4 4 = true := by kernel_rfl
theorem ZL : Dk Tryz.prog 88 5 5 = true := by kernel_rfl
theorem eM : AF Tryz.prog 10 = true := by kernel_rfl
theorem dG : AF Tryz.prog 100 = true := by kernel_rfl
theorem ef : AF Tryz.prog 101 = true := by kernel_rfl
theorem dD : AF Tryz.prog 102 = true := by kernel_rfl
theorem dL : AF Tryz.prog 103 = true := by kernel_rfl
theorem cN : AF Tryz.prog 104 = true := by kernel_rfl
theorem cG : AF Tryz.prog 105 = true := by kernel_rfl
theorem dy : AF Tryz.prog 106 = true := by kernel_rfl
theorem ay : AF Tryz.prog 107 = true := by kernel_rfl
theorem d5 : AF Tryz.prog 109 = true := by kernel_rfl
theorem cZ : AF Tryz.prog 11 = true := by kernel_rfl
theorem du : AF Tryz.prog 110 = true := by kernel_rfl
theorem aH : AF Tryz.prog 111 = true := by kernel_rfl
theorem Xy : AF Tryz.prog 112 = true := by kernel_rfl
theorem dR : AF Tryz.prog 113 = true := by kernel_rfl
theorem aJ : AF Tryz.prog 114 = true := by kernel_rfl
theorem dP : AF Tryz.prog 115 = true := by kernel_rfl
theorem ap : AF Tryz.prog 116 = true := by kernel_rfl
theorem ao : AF Tryz.prog 117 = true := by kernel_rfl
theorem cP : AF Tryz.prog 118 = true := by kernel_rfl
theorem dS : AF Tryz.prog 119 = true := by kernel_rfl
theorem fd : AF Tryz.prog 12 = true := by kernel_rfl
theorem dK : AF Tryz.prog 120 = true := by kernel_rfl
theorem cT : AF Tryz.prog 121 = true := by kernel_rfl
theorem ee : AF Tryz.prog 122 = true := by kernel_rfl
theorem cK : AF Tryz.prog 123 = true := by kernel_rfl
theorem dI : AF Tryz.prog 124 = true := by kernel_rfl
theorem dE : AF Tryz.prog 125 = true := by kernel_rfl
theorem cz : AF Tryz.prog 126 = true := by kernel_rfl
theorem cS : AF Tryz.prog 127 = true := by kernel_rfl
theorem ax : AF Tryz.prog 128 = true := by kernel_rfl
theorem d3 : AF Tryz.prog 129 = true := by kernel_rfl
theorem cB : AF Tryz.prog 13 = true := by kernel_rfl
theorem Yf : AF Tryz.prog 130 = true := by kernel_rfl
theorem df : AF Tryz.prog 131 = true := by kernel_rfl
theorem aX : AF Tryz.prog 132 = true := by kernel_rfl
theorem cY : AF Tryz.prog 133 = true := by kernel_rfl
theorem cF : AF Tryz.prog 134 = true := by kernel_rfl
theorem YV : AF Tryz.prog 135 = true := by kernel_rfl
theorem aM : AF Tryz.prog 136 = true := by kernel_rfl
theorem aW : AF Tryz.prog 138 = true := by kernel_rfl
theorem az : AF Tryz.prog 139 = true := by kernel_rfl
theorem eU : AF Tryz.prog 14 = true := by kernel_rfl
theorem cM : AF Tryz.prog 140 = true := by kernel_rfl
theorem dY : AF Tryz.prog 141 = true := by kernel_rfl
theorem T2 : AF Tryz.prog 142 = true := by kernel_rfl
theorem Wl : AF Tryz.prog 143 = true := by kernel_rfl
theorem dx : AF Tryz.prog 144 = true := by kernel_rfl
theorem dO : AF Tryz.prog 145 = true := by kernel_rfl
theorem aj : AF Tryz.prog 146 = true := by kernel_rfl
theorem cE : AF Tryz.prog 147 = true := by kernel_rfl
theorem ed : AF Tryz.prog 148 = true := by kernel_rfl
theorem ec : AF Tryz.prog 149 = true := by kernel_rfl
theorem bC : AF Tryz.prog 15 = true := by kernel_rfl
theorem db : AF Tryz.prog 150 = true := by kernel_rfl
theorem dg : AF Tryz.prog 151 = true := by kernel_rfl
theorem eg : AF Tryz.prog 152 = true := by kernel_rfl
theorem Yu : AF Tryz.prog 153 = true := by kernel_rfl
theorem eb : AF Tryz.prog 154 = true := by kernel_rfl
theorem cO : AF Tryz.prog 155 = true := by kernel_rfl
theorem aB : AF Tryz.prog 156 = true := by kernel_rfl
theorem d1 : AF Tryz.prog 157 = true := by kernel_rfl
theorem dB : AF Tryz.prog 158 = true := by kernel_rfl
theorem YO : AF Tryz.prog 159 = true := by kernel_rfl
theorem ak : AF Tryz.prog 160 = true := by kernel_rfl
theorem dk : AF Tryz.prog 161 = true := by kernel_rfl
theorem ff : AF Tryz.prog 20 = true := by kernel_rfl
theorem d8 : AF Tryz.prog 21 = true := by kernel_rfl
theorem bk : AF Tryz.prog 24 = true := by kernel_rfl
theorem dW : AF Tryz.prog 25 = true := by kernel_rfl
theorem eW : AF Tryz.prog 26 = true := by kernel_rfl
theorem dN : AF Tryz.prog 31 = true := by kernel_rfl
theorem eJ : AF Tryz.prog 32 = true := by kernel_rfl
theorem fc : AF Tryz.prog 33 = true := by kernel_rfl
theorem ZE : AF Tryz.prog 34 = true := by kernel_rfl
theorem et : AF Tryz.prog 35 = true := by kernel_rfl
theorem eK : AF Tryz.prog 36 = true := by kernel_rfl
theorem dT : AF Tryz.prog 37 = true := by kernel_rfl
theorem fu : AF Tryz.prog 38 = true := by kernel_rfl
theorem fa : AF Tryz.prog 39 = true := by kernel_rfl
theorem eu : AF Tryz.prog 40 = true := by kernel_rfl
theorem bK : AF Tryz.prog 41 = true := by kernel_rfl
theorem ce : AF Tryz.prog 42 = true := by kernel_rfl
theorem fv : AF Tryz.prog 43 = true := by kernel_rfl
theorem fr : AF Tryz.prog 44 = true := by kernel_rfl
theorem eS : AF Tryz.prog 46 = true := by kernel_rfl
theorem cH : AF Tryz.prog 47 = true := by kernel_rfl
theorem Xn : AF Tryz.prog 48 = true := by kernel_rfl
theorem dA : AF Tryz.prog 51 = true := by kernel_rfl
theorem eR : AF Tryz.prog 52 = true := by kernel_rfl
theorem eE : AF Tryz.prog 55 = true := by kernel_rfl
theorem dZ : AF Tryz.prog 56 = true := by kernel_rfl
theorem Tk : AF Tryz.prog 57 = true := by kernel_rfl
theorem dh : AF Tryz.prog 58 = true := by kernel_rfl
theorem fh : AF Tryz.prog 59 = true := by kernel_rfl
theorem Ua : AF Tryz.prog 60 = true := by kernel_rfl
theorem fe : AF Tryz.prog 61 = true := by kernel_rfl
theorem cp : AF Tryz.prog 62 = true := by kernel_rfl
theorem cx : AF Tryz.prog 63 = true := by kernel_rfl
theorem ft : AF Tryz.prog 64 = true := by kernel_rfl
theorem eI : AF Tryz.prog 65 = true := by kernel_rfl
theorem fo : AF Tryz.prog 66 = true := by kernel_rfl
theorem eY : AF Tryz.prog 67 = true := by kernel_rfl
theorem ex : AF Tryz.prog 68 = true := by kernel_rfl
theorem fw : AF Tryz.prog 69 = true := by kernel_rfl
theorem bp : AF Tryz.prog 70 = true := by kernel_rfl
theorem eo : AF Tryz.prog 71 = true := by kernel_rfl
theorem fi : AF Tryz.prog 72 = true := by kernel_rfl
theorem bu : AF Tryz.prog 73 = true := by kernel_rfl
theorem ew : AF Tryz.prog 75 = true := by kernel_rfl
theorem ah : AF Tryz.prog 76 = true := by kernel_rfl
theorem eT : AF Tryz.prog 77 = true := by kernel_rfl
theorem cV : AF Tryz.prog 78 = true := by kernel_rfl
theorem dz : AF Tryz.prog 79 = true := by kernel_rfl
theorem eP : AF Tryz.prog 80 = true := by kernel_rfl
theorem fx : AF Tryz.prog 81 = true := by kernel_rfl
theorem dF : AF Tryz.prog 83 = true := by kernel_rfl
theorem dp : AF Tryz.prog 84 = true := by kernel_rfl
theorem eD : AF Tryz.prog 85 = true := by kernel_rfl
theorem e8 : AF Tryz.prog 86 = true := by kernel_rfl
theorem eX : AF Tryz.prog 87 = true := by kernel_rfl
theorem dj : AF Tryz.prog 88 = true := by kernel_rfl
theorem fk : AF Tryz.prog 89 = true := by kernel_rfl
theorem e9 : AF Tryz.prog 90 = true := by kernel_rfl
theorem Zu : AF Tryz.prog 91 = true := by kernel_rfl
theorem ey : AF Tryz.prog 92 = true := by kernel_rfl
theorem eZ : AF Tryz.prog 93 = true := by kernel_rfl
theorem eQ : AF Tryz.prog 94 = true := by kernel_rfl
theorem ez : AF Tryz.prog 95 = true := by kernel_rfl
theorem eG : AF Tryz.prog 96 = true := by kernel_rfl
theorem eH : AF Tryz.prog 97 = true := by kernel_rfl
theorem eL : AF Tryz.prog 98 = true := by kernel_rfl
theorem eN : AF Tryz.prog 99 = true := by kernel_rfl
theorem Sk : Rd Tryz.prog 109 .u64 = true := by kernel_rfl
theorem UA : Rd Tryz.prog 140 .u32 = true := by kernel_rfl
theorem aR : Rd Tryz.prog 142 .u64 = true := by kernel_rfl
theorem cD : Rd Tryz.prog 165 .u64 = true := by kernel_rfl
theorem X9 : Rd Tryz.prog 3 .i64 = true := by kernel_rfl
theorem eq : Rd Tryz.prog 5 .u8 = true := by kernel_rfl
theorem bf : Tryz.prog.underlying 9 = some .string := by kernel_rfl
theorem S3 : Tryz.prog.underlying 125 = some (.map 9 3) := by kernel_rfl
theorem Wz : JF Tryz.prog 101 = some [(0, 1), (1, 1), (2, 1)] := by kernel_rfl
theorem aA : JF Tryz.prog 103 = some [(0, 3), (3, 1), (4, 3), (7, 1)] := by kernel_rfl
theorem aE : JF Tryz.prog 154 = some [(0, 3), (3, 1), (4, 3)] := by kernel_rfl
theorem Vg : JF Tryz.prog 29 = some [(0, 1), (1, 1), (2, 1), (3, 1)] := by kernel_rfl
theorem M7 : JF Tryz.prog 45 = some [(0, 1), (1, 1), (2, 1)] := by kernel_rfl
theorem IZ : JF Tryz.prog 64 = some [(0, 1), (1, 1), (2, 1)] := by kernel_rfl
theorem dw : JF Tryz.prog 76 = some [(0, 1), (1, 1), (2, 1), (3, 1), (4, 1), (5, 1)] := by kernel_rfl
theorem RQ : X7 Tryz.prog 45 = some [0, 0, 0] := by kernel_rfl
theorem La : sliceB Tryz.prog 119 154 = true := by kernel_rfl
theorem Jx : sliceB Tryz.prog 148 64 = true := by kernel_rfl
theorem L9 : sliceB Tryz.prog 22 5 = true := by kernel_rfl
theorem YW : sliceB Tryz.prog 23 88 = true := by kernel_rfl
theorem AD : sliceB Tryz.prog 26 3 = true := by kernel_rfl
theorem Dc : sliceB Tryz.prog 27 76 = true := by kernel_rfl
theorem AQ : sliceB Tryz.prog 33 45 = true := by kernel_rfl
theorem FH : sliceB Tryz.prog 37 101 = true := by kernel_rfl
theorem J2 : sliceB Tryz.prog 54 33 = true := by kernel_rfl
theorem E6 : sliceB Tryz.prog 62 94 = true := by kernel_rfl
theorem Ed : sliceB Tryz.prog 74 77 = true := by kernel_rfl
theorem Ff : sliceB Tryz.prog 77 4 = true := by kernel_rfl
theorem J4 : sliceB Tryz.prog 96 103 = true := by kernel_rfl
theorem UF : (Tryz.prog.underlying 109).isSome = true := by kernel_rfl
theorem UV : (Tryz.prog.underlying 140).isSome = true := by kernel_rfl
theorem Yk : (Tryz.prog.underlying 142).isSome = true := by kernel_rfl
theorem cd : (Tryz.prog.underlying 3).isSome = true := by kernel_rfl
theorem aT : (Tryz.prog.underlying 5).isSome = true := by kernel_rfl
theorem eV : (Tryz.prog.underlying 94).isSome = true := by kernel_rfl
theorem ZF : RJ Tryz.prog 9 = true := by kernel_rfl
theorem DK : Ik Tryz.prog 101 3 = true := by kernel_rfl
theorem L4 : Ik Tryz.prog 103 8 = true := by kernel_rfl
theorem So : Ik Tryz.prog 154 7 = true := by kernel_rfl
theorem Wn : Ik Tryz.prog 165 1 = true := by kernel_rfl
theorem dM : Ik Tryz.prog 25 4 = true := by kernel_rfl
theorem WO : Ik Tryz.prog 26 1 = true := by kernel_rfl
theorem cf : Ik Tryz.prog 27 1 = true := by kernel_rfl
theorem Cb : Ik Tryz.prog 29 4 = true := by kernel_rfl
theorem Ep : Ik Tryz.prog 3 1 = true := by kernel_rfl
theorem SV : Ik Tryz.prog 33 1 = true := by kernel_rfl
theorem Nv : Ik Tryz.prog 4 1 = true := by kernel_rfl
theorem AM : Ik Tryz.prog 45 3 = true := by kernel_rfl
theorem bO : Ik Tryz.prog 5 1 = true := by kernel_rfl
theorem fj : Ik Tryz.prog 62 1 = true := by kernel_rfl
theorem AY : Ik Tryz.prog 64 3 = true := by kernel_rfl
theorem U2 : Ik Tryz.prog 74 1 = true := by kernel_rfl
theorem DB : Ik Tryz.prog 76 6 = true := by kernel_rfl
theorem I2 : Ik Tryz.prog 77 1 = true := by kernel_rfl
theorem bn : Ik Tryz.prog 88 6 = true := by kernel_rfl
theorem HQ : Ik Tryz.prog 94 1 = true := by kernel_rfl
theorem Jr : FI Tryz.prog 101 = some (.agg #[.int .i64 0, .int .i64 0, .int .i64 0]) := by kernel_rfl
theorem UD : FI Tryz.prog 103 = some (.agg #[.slice none 0 0, .slice none 0 0, .slice none 0 0, .int .i64 0, .int .i64 0, .int .i64 0, .int .i64 0, .slice none 0 0]) := by kernel_rfl
theorem TU : FI Tryz.prog 154 = some (.agg #[.slice none 0 0, .slice none 0 0, .slice none 0 0, .int .i64 0, .int .i64 0, .int .i64 0, .int .i64 0]) := by kernel_rfl
theorem dX : FI Tryz.prog 165 = some (.int .u64 0) := by kernel_rfl
theorem K9 : FI Tryz.prog 29 = some (.agg #[.slice none 0 0, .slice none 0 0, .slice none 0 0, .slice none 0 0]) := by kernel_rfl
theorem LG : FI Tryz.prog 3 = some (.int .i64 0) := by kernel_rfl
theorem Ym : FI Tryz.prog 33 = some (.slice none 0 0) := by kernel_rfl
theorem Wm : FI Tryz.prog 4 = some (.bool false) := by kernel_rfl
theorem GP : FI Tryz.prog 45 = some (.agg #[.int .i64 0, .int .i64 0, .int .i64 0]) := by kernel_rfl
theorem dC : FI Tryz.prog 5 = some (.int .u8 0) := by kernel_rfl
theorem EJ : FI Tryz.prog 64 = some (.agg #[.slice none 0 0, .slice none 0 0, .slice none 0 0]) := by kernel_rfl
theorem Kc : FI Tryz.prog 76 = some (.agg #[.int .i64 0, .int .i64 0, .int .i64 0, .bool false, .slice none 0 0, .slice none 0 0]) := by kernel_rfl
theorem SJ : FI Tryz.prog 77 = some (.slice none 0 0) := by kernel_rfl
theorem fy : FI Tryz.prog 88 = some (.agg #[.int .u8 0, .int .u8 0, .int .u8 0, .bool false, .int .u16 0, .int .u16 0]) := by kernel_rfl
theorem S5 : FI Tryz.prog 94 = some (.int .u8 0) := by kernel_rfl
set_option maxRecDepth 10000
theorem KE (N : Nat) (p0 : List Int) (p1 : Int) (r : Int) (h : Fr N p0 p1 = some r) : Au Tryz.prog 56 [pD (.sl (p0.map Ex)), iD p1] [] (iD r) := by
 unfold Fr at h
 refine cw (n := 14) (rs := [.tmp 4]) Tryz.func56 fun w0 S0 => ?_
 refine wq rfl (qa rfl (Ad (wp rfl (qw 2 rfl (AV L9 rfl (AX rfl (Ad ?_)))))))
 refine A9 h (fun h => ?_) fun h => ?_
 ·refine wq rfl (qw 2 rfl ?_)
  refine Bc h fun v2 a2 b2 h => qi L9 bO a2 (Ae b2) rfl (qk cJ rfl (Je aT X9 rfl (qe rfl ?_)))
  obtain rfl := sj h
  refine Ah (sm [] [(4, iD ((wI .i64 v2)))] [] rfl rfl) (Ar ?_)
  exact ⟨⟨[_], tm, rfl⟩, tv⟩
 ·refine Al (wq rfl (qe rfl ?_))
  obtain rfl := sj h
  refine Ah (sm [] [(4, iD 0)] [] rfl rfl) (Ar ?_)
  exact ⟨⟨[_], tm, rfl⟩, tv⟩
theorem C8 (N : Nat) (p0 : An) (r : Bool) (h : Bj N p0 = some r) : Au Tryz.prog 57 [.e (.agg (Bv p0))] [] (bD r) := by
 unfold Bj at h
 refine cw (n := 11) (rs := [.tmp 2]) Tryz.func57 fun w0 S0 => ?_
 refine wq rfl (qb rfl (qe rfl ?_))
 refine AP h (fun v1 => mk [(2, bD v1)] []) (fun j1 h => ?_) (fun v1 h => ?_)
 ·refine Ai As rfl (qf HO rfl (ql CN rfl (BZ rfl (qm rfl ?_))))
  refine E8 6 h rfl (fun h => ?_) fun h => ?_
  ·refine qw 3 rfl (qp rfl (qe rfl ?_))
   exact sn [] h
  ·refine qf HO rfl (ql CN rfl (BZ rfl (qp rfl (qe rfl ?_))))
   exact sn [] h
 ·obtain rfl := sj h
  refine Ah (sm [] [(2, bD v1)] [] rfl rfl) (Ar ?_)
  exact ⟨⟨[_], tm, rfl⟩, tv⟩
theorem KH (N : Nat) (p0 : Int) (p1 : Int) (p2 : Int) (p3 : Bool) (r : (List (List Bool))) (h : Ft N p0 p1 p2 p3 = some r) : Au Tryz.prog 58 [iD p0, iD p1, pD (.val (.int .u16 p2)), bD p3] [(1, r.map (FN eB))] (oD (.own 0)) := by
 unfold Ft at h
 refine cw (n := 47) (rs := [.tmp 8]) Tryz.func58 fun w0 S0 => ?_
 refine wq rfl (qa rfl (Ad (wq rfl (qa rfl (Ad (wp rfl (qe rfl ?_)))))))
 refine Ax (L := C5 N p0 p1 p2 p3) h (fun v1 => mk [(0, iD p0), (1, iD p1), (2, pD (.val (.int .u16 p2))), (3, bD p3), (9, oD (.own 2001)), (10, iD v1.2)] [(2001, .vec 1 (v1.1.map (FN eB)))]) (fun v2 => mk [(9, oD (.own 2002))] [(2002, .vec 1 (v2.map (FN eB)))]) (fun _ _ => rfl) ((Bl 9 2010 1 rfl rfl rfl).trans (sm [(2001, 2010)] _ _ rfl rfl)) (fun j1 n1 v1 h => ?_) (fun v2 s h hs => ?_)
 ·unfold C5 at h
  refine wp rfl (qw 2 rfl (AX rfl (Ad ?_)))
  refine A9 h (fun h => ?_) fun h => ?_
  ·refine Al (AN (AG (wq rfl (qa rfl (Ad (wp rfl (qe rfl ?_)))))))
   refine Ax (L := C6 N p1 p2 p3 v1) h (fun v4 => mk [(0, iD p0), (1, iD p1), (2, pD (.val (.int .u16 p2))), (3, bD p3), (9, oD (.own 2003)), (10, iD v1.2), (11, oD (.own 2004)), (12, iD v4.2)] [(2003, .vec 1 (v1.1.map (FN eB))), (2004, .vec 1 (v4.1.map eB))]) (fun v5 => mk [(0, iD p0), (1, iD p1), (2, pD (.val (.int .u16 p2))), (3, bD p3), (9, oD (.own 2005)), (10, iD v1.2), (11, oD (.own 2006))] [(2005, .vec 1 (v1.1.map (FN eB))), (2006, .vec 1 (v5.map eB))]) (fun _ _ => rfl) ((Bl 11 2009 1 rfl rfl rfl).trans (sm [(2003, 2001), (2004, 2009)] _ _ rfl rfl)) (fun j4 n4 v4 h => ?_) (fun v5 s h hs => ?_)
   ·unfold C6 at h
    refine wp rfl (qw 2 rfl (AX rfl (Ad ?_)))
    refine A9 h (fun h => ?_) fun h => ?_
    ·refine Al ?_
     refine AP h (fun v7 => mk [(0, iD p0), (1, iD p1), (2, pD (.val (.int .u16 p2))), (3, bD p3), (9, oD (.own 2007)), (10, iD v1.2), (11, oD (.own 2008)), (12, iD v4.2)] [(2007, .vec 1 (v1.1.map (FN eB))), (2008, .vec 1 (v7.map eB))]) (fun j7 h => ?_) (fun v7 h => ?_)
     ·refine AG (Ai As rfl (qw 3 rfl ?_))
      refine E8 25 h rfl (fun h => ?_) fun h => ?_
      ·refine qw 2 rfl (BZ rfl (qp rfl (qm rfl ?_)))
       refine E8 30 h rfl (fun h => ?_) fun h => ?_
       ·refine qw 8 rfl (qp rfl (Fg Ff Nv Wm rfl ?_))
        refine GK h fun c10 h => EM (f := eB) Ff Ff Nv Xi Wm c10 rfl (qe rfl ?_)
        exact sn [(2007, 2003), (2008, 41)] h
       ·refine qw 2 rfl (KI rfl (qm rfl (AT rfl ?_)))
        refine GK h fun c11 h => Jf rfl c11 (OL rfl (by decide) (BZ rfl (qp rfl (Fg Ff Nv Wm rfl ?_))))
        refine GK h fun c12 h => EM (f := eB) Ff Ff Nv Xi Wm c12 rfl (qe rfl ?_)
        exact sn [(2007, 2003), (2008, 41)] h
      ·refine qw 3 rfl (qp rfl (qw 3 rfl (KI rfl (qm rfl (AT rfl ?_)))))
       refine GK h fun c13 h => Jf rfl c13 (OL rfl (by decide) (BZ rfl (qp rfl (Fg Ff Nv Wm rfl ?_))))
       refine GK h fun c14 h => EM (f := eB) Ff Ff Nv Xi Wm c14 rfl (qe rfl ?_)
       exact sn [(2007, 2003), (2008, 41)] h
     ·refine Ai As rfl (qm rfl (AT rfl (qe rfl ?_)))
      exact sn [(2003, 2007), (2004, 2008)] h
    ·refine AS ?_
     exact sn [(2005, 2003), (2006, 2004)] h
   ·refine Ah hs (Ai As rfl (qw 2 rfl (EQ (Br 2006 _ _ rfl rfl) (Fg Ed I2 SJ rfl ?_))))
    refine GK h fun c15 h => EM (f := (FN eB)) Ed Ed I2 Ws SJ c15 rfl (qa rfl (Ad (Ai As rfl (qm rfl (AT rfl (qe rfl ?_))))))
    exact sn [(2001, 45)] h
  ·refine AS ?_
   exact sn [(2002, 2001)] h
 ·refine Ah hs (wq rfl (qm rfl (qe rfl ?_)))
  obtain rfl := sj h
  refine Ah (sm [(1000, 2002)] [(8, oD (.own 1000))] [(1000, .vec 1 (v2.map (FN eB)))] rfl rfl) (Ar ?_)
  exact ⟨⟨[_], tm, rfl⟩, ⟨rfl, tv⟩⟩
theorem O4 (N : Nat) (p0 : B1) (r : Ac × Bool) (h : GO N p0 = some r) : Au Tryz.prog 32 [.e (.agg (DD p0))] [(1, r.1.fE.map Aq), (1, r.1.fK.map Aq), (1, r.1.fP.map Aq), (6, r.1.fF.map AI)] (.tup [.agg [.own 0, .own 1, .own 2, .own 3], .one (.pure (.val (.bool r.2)))]) := by
 unfold GO at h
 refine cw (n := 152) (rs := [.cell 2 29, .tmp 3]) Tryz.func32 fun w0 S0 => ?_
 refine wq rfl (qb rfl (qz K9 rfl (qa rfl (Ad (AN ?_)))))
 refine AP h (fun v1 => mk [(1, oD (.ptr 1 0)), (2, oD (.ptr 2 0)), (19, bD v1)] [(1, .box (DD p0)), (2, .box [.pure (.nil0), .pure (.nil0), .pure (.nil0), .pure (.nil0)])]) (fun j1 h => ?_) (fun v1 h => ?_)
 ·refine Ai As rfl (qf SI rfl (ql XO rfl (AV L9 rfl (Gx rfl (qm rfl ?_)))))
  refine E8 14 h rfl (fun h => ?_) fun h => ?_
  ·refine qw 4 rfl (qp rfl (Ad ?_))
   exact sn [] h
  ·refine qf SK rfl (ql ci rfl (AV YW rfl (Gx rfl (qp rfl (Ad ?_)))))
   exact sn [] h
 ·refine A9 h (fun h => ?_) fun h => ?_
  ·refine wq rfl (A6 K9 Vg rfl (qs Cb rfl (qe rfl ?_)))
   obtain rfl := sj h
   refine Ah ((Av 2 0 2001 1 _ rfl rfl rfl rfl).trans ((Av 2 1 2002 1 _ rfl rfl rfl rfl).trans ((Av 2 2 2003 1 _ rfl rfl rfl rfl).trans ((Av 2 3 2004 6 _ rfl rfl rfl rfl).trans (sm [(1000, 2001), (1001, 2002), (1002, 2003), (1003, 2004)] [(2, oD (.ptr 2 0)), (3, bD false)] [(2, .box [.own 1000, .own 1001, .own 1002, .own 1003]), (1000, .vec 1 ((([] : List Int)).map Aq)), (1001, .vec 1 ((([] : List Int)).map Aq)), (1002, .vec 1 ((([] : List Int)).map Aq)), (1003, .vec 6 ((([] : List An)).map AI))] rfl rfl))))) (Ar ?_)
   exact ⟨⟨[_, _], ⟨.cellN _ _ _ _ _ _ _ rfl rfl Db Cb rfl rfl (IL rfl), tm⟩, rfl⟩, ⟨rfl, rfl, rfl, rfl, tv⟩⟩
  ·refine Al (wq rfl (qz K9 rfl (Ad (wp rfl (qe rfl ?_)))))
   refine Ax (L := DJ N p0) h (fun v4 => mk [(1, oD (.ptr 1 0)), (2, oD (.ptr 2 0)), (4, oD (.ptr 4 0)), (5, iD v4.2.2.2)] [(1, .box (DD p0)), (2, .box [.pure (.nil0), .pure (.nil0), .pure (.nil0), .pure (.nil0)]), (4, .box [.own 2005, .own 2006, .own 2007, .pure (.nil0)]), (2005, .vec 1 (v4.1.map Aq)), (2006, .vec 1 (v4.2.1.map Aq)), (2007, .vec 1 (v4.2.2.1.map Aq))]) (fun v5 => mk [(1, oD (.ptr 1 0)), (2, oD (.ptr 2 0)), (4, oD (.ptr 4 0))] [(1, .box (DD p0)), (2, .box [.pure (.nil0), .pure (.nil0), .pure (.nil0), .pure (.nil0)]), (4, .box [.own 2008, .own 2009, .own 2010, .pure (.nil0)]), (2008, .vec 1 (v5.1.map Aq)), (2009, .vec 1 (v5.2.1.map Aq)), (2010, .vec 1 (v5.2.2.map Aq))]) (fun _ _ => rfl) ((Av 4 0 2011 1 _ rfl rfl rfl rfl).trans ((Av 4 1 2012 1 _ rfl rfl rfl rfl).trans ((Av 4 2 2013 1 _ rfl rfl rfl rfl).trans (sm [(2005, 2011), (2006, 2012), (2007, 2013)] _ _ rfl rfl)))) (fun j4 n4 v4 h => ?_) (fun v5 s h hs => ?_)
   ·unfold DJ at h
    refine wp rfl (qm rfl (qf SI rfl (ql XO rfl (AV L9 rfl (AX rfl (Ad ?_))))))
    refine A9 h (fun h => ?_) fun h => ?_
    ·refine Al (AN (AG (wq rfl (qf SI rfl (ql XO rfl (qm rfl ?_))))))
     refine Bc h fun v7 a7 b7 h => qi L9 bO a7 (Ae b7) rfl (qk cJ rfl (OL rfl (by decide) (Je aT X9 rfl (AT rfl (qa rfl (Ad (wq rfl (qf BH rfl (ql Bg rfl (qm rfl (Fg AD Ep LG rfl ?_)))))))))))
     refine GK h fun c8 h => EM (f := Aq) AD AD Ep MH LG c8 rfl (qf BH rfl (qs WO rfl (Ad (wq rfl (qf HJ rfl (ql Bg rfl (qf Z3 rfl (ql XO rfl (qm rfl ?_)))))))))
     refine BM h fun v9 a9 h => Az [] (KE N p0.fK v4.2.2.2 v9 a9) dZ rfl (qm rfl ?_)
     refine GK h fun c10 h => OL rfl c10 (Fg AD Ep LG rfl ?_)
     refine GK h fun c11 h => EM (f := Aq) AD AD Ep MH LG c11 rfl (qf HJ rfl (qs WO rfl (AE (by kernel_rfl) (Ai As rfl (qf I6 rfl (ql Bg rfl (qf Zl rfl (ql XO rfl (qm rfl ?_)))))))))
     refine BM h fun v12 a12 h => Az [] (KE N p0.fP v4.2.2.2 v12 a12) dZ rfl (qm rfl ?_)
     refine GK h fun c13 h => OL rfl c13 (Fg AD Ep LG rfl ?_)
     refine GK h fun c14 h => EM (f := Aq) AD AD Ep MH LG c14 rfl (qf I6 rfl (qs WO rfl (AE (by kernel_rfl) (Ai As rfl (qm rfl (AT rfl (qe rfl ?_)))))))
     exact sn [(2005, 40), (2006, 51), (2007, 62)] h
    ·refine AS ?_
     exact sn [(2008, 2005), (2009, 2006), (2010, 2007)] h
   ·refine Ah hs (wp rfl (qe rfl ?_))
    refine Ax (L := BW N p0 v5) h (fun v15 => mk [(1, oD (.ptr 1 0)), (2, oD (.ptr 2 0)), (4, oD (.ptr 4 0)), (7, iD v15.2)] [(1, .box (DD p0)), (2, .box [.pure (.nil0), .pure (.nil0), .pure (.nil0), .pure (.nil0)]), (4, .box [.own 2014, .own 2015, .own 2016, .own 2017]), (2014, .vec 1 (v5.1.map Aq)), (2015, .vec 1 (v5.2.1.map Aq)), (2016, .vec 1 (v5.2.2.map Aq)), (2017, .vec 6 (v15.1.map AI))]) (fun v16 => mk [(2, oD (.ptr 2 0)), (4, oD (.ptr 4 0))] [(2, .box [.pure (.nil0), .pure (.nil0), .pure (.nil0), .pure (.nil0)]), (4, .box [.own 2018, .own 2019, .own 2020, .own 2021]), (2018, .vec 1 (v5.1.map Aq)), (2019, .vec 1 (v5.2.1.map Aq)), (2020, .vec 1 (v5.2.2.map Aq)), (2021, .vec 6 (v16.map AI))]) (fun _ _ => rfl) ((Av 4 3 2039 6 _ rfl rfl rfl rfl).trans (sm [(2014, 2008), (2015, 2009), (2016, 2010), (2017, 2039)] _ _ rfl rfl)) (fun j15 n15 v15 h => ?_) (fun v16 s h hs => ?_)
    ·unfold BW at h
     refine AN ?_
     refine AP h (fun v17 => mk [(1, oD (.ptr 1 0)), (2, oD (.ptr 2 0)), (4, oD (.ptr 4 0)), (7, iD v15.2), (74, bD v17)] [(1, .box (DD p0)), (2, .box [.pure (.nil0), .pure (.nil0), .pure (.nil0), .pure (.nil0)]), (4, .box [.own 2022, .own 2023, .own 2024, .own 2025]), (2022, .vec 1 (v5.1.map Aq)), (2023, .vec 1 (v5.2.1.map Aq)), (2024, .vec 1 (v5.2.2.map Aq)), (2025, .vec 6 (v15.1.map AI))]) (fun j17 h => ?_) (fun v17 h => ?_)
     ·refine Ai As rfl (qm rfl (qf SK rfl (ql ci rfl (AV YW rfl (AX rfl (qm rfl ?_))))))
      refine E8 69 h rfl (fun h => ?_) fun h => ?_
      ·refine qf BH rfl (ql Bg rfl (DV AD rfl (Gx rfl (qp rfl (Ad ?_)))))
       exact sn [(2022, 2014), (2023, 2015), (2024, 2016), (2025, 2017)] h
      ·refine qw 4 rfl (qp rfl (Ad ?_))
       exact sn [(2022, 2014), (2023, 2015), (2024, 2016), (2025, 2017)] h
     ·refine A9 h (fun h => ?_) fun h => ?_
      ·refine Al (AN (AG (wq rfl (qf SK rfl (ql ci rfl (qm rfl ?_))))))
       refine Bc h fun v20 a20 b20 h => qi YW bn a20 (Ae b20) rfl (qK eF bn rfl (qz fy rfl (qs bn rfl (Ad (wq rfl (qf ZW rfl (ql cJ rfl (OL rfl (by decide) (Je aT X9 rfl (AT rfl (qf ZZ rfl (ql cJ rfl (Je aT X9 rfl (qf BH rfl (ql Bg rfl (DV AD rfl ?_))))))))))))))))
       refine GK h fun c21 h => OL rfl c21 (qf Zo rfl (ql cJ rfl (Je aT X9 rfl (qf BH rfl (ql Bg rfl (DV AD rfl ?_))))))
       refine GK h fun c22 h => OL rfl c22 (A6 Kc dw rfl (qz Kc rfl (qs DB rfl (AE (by kernel_rfl) ?_))))
       refine AP h (fun v23 => mk [(1, oD (.ptr 1 0)), (2, oD (.ptr 2 0)), (4, oD (.ptr 4 0)), (7, iD v15.2), (8, oD (.ptr 8 0)), (9, oD (.ptr 9 0))] [(1, .box (DD p0)), (2, .box [.pure (.nil0), .pure (.nil0), .pure (.nil0), .pure (.nil0)]), (4, .box [.own 2026, .own 2027, .own 2028, .own 2029]), (8, .box (O3 v20)), (9, .box [iC ((wI .i64 (1 + (wI .i64 ((Int.tmod v20.fI 4)))))), iC ((Int.tmod ((wI .i64 v20.fJ)) ((v5.1.length : Int)))), iC ((Int.tmod ((wI .i64 v20.fO)) ((v5.1.length : Int)))), .pure (.val (.bool v23)), .pure (.nil0), .pure (.nil0)]), (2026, .vec 1 (v5.1.map Aq)), (2027, .vec 1 (v5.2.1.map Aq)), (2028, .vec 1 (v5.2.2.map Aq)), (2029, .vec 6 (v15.1.map AI))]) (fun j23 h => ?_) (fun v23 h => ?_)
       ·refine Ai As rfl (qf Zc rfl (ql TD rfl (qm rfl ?_)))
        refine E8 104 h rfl (fun h => ?_) fun h => ?_
        ·refine qL HZ DB rfl ?_
         refine BM h fun v25 a25 h => Az [] (C8 N ((An.mk ((wI .i64 (1 + (wI .i64 ((Int.tmod v20.fI 4)))))) ((Int.tmod ((wI .i64 v20.fJ)) ((v5.1.length : Int)))) ((Int.tmod ((wI .i64 v20.fO)) ((v5.1.length : Int)))) false (([] : List (List Bool))) (([] : List (List Bool))))) v25 a25) Tk rfl (CL rfl (qp rfl (qf K2 rfl (qs Nv rfl (Ad ?_)))))
         exact sn [(2026, 2022), (2027, 2023), (2028, 2024), (2029, 2025)] h
        ·refine qw 3 rfl (qp rfl (qf K2 rfl (qs Nv rfl (Ad ?_))))
         exact sn [(2026, 2022), (2027, 2023), (2028, 2024), (2029, 2025)] h
       ·refine wq rfl (qf BH rfl (ql Bg rfl (qf Eu rfl (ql CN rfl ?_))))
        refine Bc h fun v26 a26 b26 h => qI AD Ep a26 (Ae b26) rfl (qj CN (Ae b26) rfl (qf BH rfl (ql Bg rfl (qf Ke rfl (ql CN rfl ?_)))))
        refine Bc h fun v27 a27 b27 h => qI AD Ep a27 (Ae b27) rfl (qj CN (Ae b27) rfl (qf Za rfl (ql en rfl ?_)))
        refine BM h fun v28 a28 h => Az [2030] (KH N v26 v27 v20.f5 false v28 a28) dh rfl (qf FB rfl (qs U2 rfl (AE (by kernel_rfl) ?_)))
        refine AP h (fun v29 => mk [(1, oD (.ptr 1 0)), (2, oD (.ptr 2 0)), (4, oD (.ptr 4 0)), (7, iD v15.2), (9, oD (.ptr 9 0))] [(1, .box (DD p0)), (2, .box [.pure (.nil0), .pure (.nil0), .pure (.nil0), .pure (.nil0)]), (4, .box [.own 2031, .own 2032, .own 2033, .own 2034]), (9, .box [iC ((wI .i64 (1 + (wI .i64 ((Int.tmod v20.fI 4)))))), iC ((Int.tmod ((wI .i64 v20.fJ)) ((v5.1.length : Int)))), iC ((Int.tmod ((wI .i64 v20.fO)) ((v5.1.length : Int)))), .pure (.val (.bool v23)), .own 2035, .own 2036]), (2031, .vec 1 (v5.1.map Aq)), (2032, .vec 1 (v5.2.1.map Aq)), (2033, .vec 1 (v5.2.2.map Aq)), (2034, .vec 6 (v15.1.map AI)), (2035, .vec 1 (v28.map (FN eB))), (2036, .vec 1 (v29.map (FN eB)))]) (fun j29 h => ?_) (fun v29 h => ?_)
        ·refine wq rfl (qf HO rfl (ql CN rfl (BZ rfl (Ad ?_))))
         refine A9 h (fun h => ?_) fun h => ?_
         ·refine Ai As rfl (qf BH rfl (ql Bg rfl (qf Eu rfl (ql CN rfl ?_))))
          refine Bc h fun v31 a31 b31 h => qI AD Ep a31 (Ae b31) rfl (qj CN (Ae b31) rfl (qf BH rfl (ql Bg rfl (qf Eu rfl (ql CN rfl ?_)))))
          refine Bc h fun v32 a32 b32 h => qI AD Ep a32 (Ae b32) rfl (qj CN (Ae b32) rfl (qf ZL rfl (ql en rfl ?_)))
          refine BM h fun v33 a33 h => Az [2037] (KH N v31 v32 v20.f6 true v33 a33) dh rfl (qf FC rfl (qs U2 rfl (AE (by kernel_rfl) ?_)))
          exact sn [(2031, 2026), (2032, 2027), (2033, 2028), (2034, 2029), (2035, 2030), (2036, 2037)] h
         ·refine Al ?_
          exact S8 _ h ((Av 9 5 2038 1 _ rfl rfl rfl rfl).trans (sm [(2031, 2026), (2032, 2027), (2033, 2028), (2034, 2029), (2035, 2030), (2036, 2038)] _ _ rfl rfl))
        ·refine Ai As rfl (qf BK rfl (ql GZ rfl (qL HZ DB rfl (EQ (Br 2035 _ _ rfl rfl) (EQ (Br 2036 _ _ rfl rfl) (Fg Dc DB Kc rfl ?_))))))
         refine GK h fun c34 h => EM (f := AI) Dc Dc DB Yh Kc c34 rfl (qf BK rfl (qs cf rfl (Ad (Ai As rfl (qm rfl (AT rfl (qe rfl ?_)))))))
         exact sn [(2014, 2031), (2015, 2032), (2016, 2033), (2017, 149)] h
      ·refine AS ?_
       exact sn [(2018, 2022), (2019, 2023), (2020, 2024), (2021, 2025)] h
    ·refine Ah hs (wq rfl (qL Db Cb rfl (qs Cb rfl (qe rfl ?_))))
     obtain rfl := sj h
     refine Ah (sm [(1000, 2018), (1001, 2019), (1002, 2020), (1003, 2021)] [(2, oD (.ptr 2 0)), (3, bD true)] [(2, .box [.own 1000, .own 1001, .own 1002, .own 1003]), (1000, .vec 1 (v5.1.map Aq)), (1001, .vec 1 (v5.2.1.map Aq)), (1002, .vec 1 (v5.2.2.map Aq)), (1003, .vec 6 (v16.map AI))] rfl rfl) (Ar ?_)
     exact ⟨⟨[_, _], ⟨.cellN _ _ _ _ _ _ _ rfl rfl Db Cb rfl rfl (IL rfl), tm⟩, rfl⟩, ⟨rfl, rfl, rfl, rfl, tv⟩⟩
theorem Mb (N : Nat) (p0 : Ac) (r : (List Aa)) (h : Fn N p0 = some r) : Au Tryz.prog 44 [.e (.agg (Aj p0))] [(3, r.map Ab)] (oD (.own 0)) := by
 unfold Fn at h
 refine cw (n := 60) (rs := [.tmp 2]) Tryz.func44 fun w0 S0 => ?_
 refine wq rfl (qb rfl (qa rfl (Ad (wq rfl (qa rfl (Ad (wp rfl (qe rfl ?_))))))))
 refine Ax (L := BR N p0) h (fun v1 => mk [(1, oD (.ptr 1 0)), (3, oD (.own 2001)), (4, iD v1.2)] [(1, .box (Aj p0)), (2001, .vec 3 (v1.1.map Ab))]) (fun v2 => mk [(3, oD (.own 2002))] [(2002, .vec 3 (v2.map Ab))]) (fun _ _ => rfl) ((Bl 3 2008 3 rfl rfl rfl).trans (sm [(2001, 2008)] _ _ rfl rfl)) (fun j1 n1 v1 h => ?_) (fun v2 s h hs => ?_)
 ·unfold BR at h
  refine wp rfl (qm rfl (qf BK rfl (ql GZ rfl (AV Dc rfl (AX rfl (Ad ?_))))))
  refine A9 h (fun h => ?_) fun h => ?_
  ·refine Al (AN (AG (wq rfl (qe rfl ?_))))
   refine Ax (L := Cj N p0 v1) h (fun v4 => mk [(1, oD (.ptr 1 0)), (3, oD (.own 2003)), (4, iD v1.2), (5, iD v4.2)] [(1, .box (Aj p0)), (2003, .vec 3 (v4.1.map Ab))]) (fun v5 => mk [(1, oD (.ptr 1 0)), (3, oD (.own 2004)), (4, iD v1.2)] [(1, .box (Aj p0)), (2004, .vec 3 (v5.map Ab))]) (fun _ _ => rfl) (sm [(2003, 2001)] _ _ rfl rfl) (fun j4 n4 v4 h => ?_) (fun v5 s h hs => ?_)
   ·unfold Cj at h
    refine wp rfl (qm rfl (qf BK rfl (ql GZ rfl (qm rfl ?_))))
    refine Bc h fun v6 a6 b6 h => qi Dc DB a6 (Ae b6) rfl (qg FB rfl (qk HR rfl (AV Ed rfl (AX rfl (Ad ?_)))))
    refine A9 h (fun h => ?_) fun h => ?_
    ·refine Al (AN (AG (wq rfl (qe rfl ?_))))
     refine Ax (L := C0 N p0 v1 v4) h (fun v8 => mk [(1, oD (.ptr 1 0)), (3, oD (.own 2005)), (4, iD v1.2), (5, iD v4.2), (6, iD v8.2)] [(1, .box (Aj p0)), (2005, .vec 3 (v8.1.map Ab))]) (fun v9 => mk [(1, oD (.ptr 1 0)), (3, oD (.own 2006)), (4, iD v1.2), (5, iD v4.2)] [(1, .box (Aj p0)), (2006, .vec 3 (v9.map Ab))]) (fun _ _ => rfl) (sm [(2005, 2003)] _ _ rfl rfl) (fun j8 n8 v8 h => ?_) (fun v9 s h hs => ?_)
     ·unfold C0 at h
      refine wp rfl (qm rfl (qf BK rfl (ql GZ rfl (qm rfl ?_))))
      refine Bc h fun v10 a10 b10 h => qi Dc DB a10 (Ae b10) rfl (qg FB rfl (qk HR rfl (qm rfl ?_)))
      refine Bc h fun v11 a11 b11 h => qi Ed I2 a11 (Ae b11) rfl (qk ML rfl (AV Ff rfl (AX rfl (Ad ?_))))
      refine A9 h (fun h => ?_) fun h => ?_
      ·refine Al ?_
       refine AP h (fun v13 => mk [(1, oD (.ptr 1 0)), (3, oD (.own 2007)), (4, iD v1.2), (5, iD v4.2), (6, iD v8.2)] [(1, .box (Aj p0)), (2007, .vec 3 (v13.map Ab))]) (fun j13 h => ?_) (fun v13 h => ?_)
       ·refine AG (wq rfl (qf BK rfl (ql GZ rfl (qm rfl ?_))))
        refine Bc h fun v14 a14 b14 h => qi Dc DB a14 (Ae b14) rfl (qg FB rfl (qk HR rfl (qm rfl ?_)))
        refine Bc h fun v15 a15 b15 h => qi Ed I2 a15 (Ae b15) rfl (qk ML rfl (qm rfl ?_))
        refine Bc h fun v16 a16 b16 h => qi Ff Nv a16 (Ae b16) rfl (qk TD rfl (CL rfl (Ad ?_)))
        refine A9 h (fun h => ?_) fun h => ?_
        ·refine Ai As rfl (qw 4 rfl (A6 GP M7 rfl (Fg AQ AM GP rfl ?_)))
         refine GK h fun c18 h => EM (f := Ab) AQ AQ AM Po GP c18 rfl (qe rfl ?_)
         exact sn [(2007, 58)] h
        ·refine Al ?_
         exact sn [(2007, 2005)] h
       ·refine Ai As rfl (qm rfl (AT rfl (qe rfl ?_)))
        exact sn [(2005, 2007)] h
      ·refine AS ?_
       exact sn [(2006, 2005)] h
     ·refine Ah hs (Ai As rfl (qm rfl (AT rfl (qe rfl ?_))))
      exact sn [(2003, 2006)] h
    ·refine AS ?_
     exact sn [(2004, 2003)] h
   ·refine Ah hs (Ai As rfl (qm rfl (AT rfl (qe rfl ?_))))
    exact sn [(2001, 2004)] h
  ·refine AS ?_
   exact sn [(2002, 2001)] h
 ·refine Ah hs (wq rfl (qm rfl (qe rfl ?_)))
  obtain rfl := sj h
  refine Ah (sm [(1000, 2002)] [(2, oD (.own 1000))] [(1000, .vec 3 (v2.map Ab))] rfl rfl) (Ar ?_)
  exact ⟨⟨[_], tm, rfl⟩, ⟨rfl, tv⟩⟩
theorem Pb (N : Nat) (p0 : List Aa) (p1 : Aa) (r : Bool) (h : GW N p0 p1 = some r) : Au Tryz.prog 43 [pD (.sl (p0.map Ab)), .e (.agg (D9 p1))] [] (bD r) := by
 unfold GW at h
 refine cw (n := 18) (rs := [.tmp 4]) Tryz.func43 fun w0 S0 => ?_
 refine wq rfl (qb rfl (qa rfl (Ad (wp rfl (qe rfl ?_)))))
 refine Ax (L := EY N p0 p1) h (fun v1 => mk [(0, pD (.sl (p0.map Ab))), (3, oD (.ptr 3 0)), (5, iD v1)] [(3, .box (D9 p1))]) (fun v2 => mk [] []) (fun _ _ => rfl) (sm [] _ _ rfl rfl) (fun j1 n1 v1 h => ?_) (fun v2 s h hs => ?_)
 ·unfold EY at h
  refine wp rfl (qw 2 rfl (AV AQ rfl (AX rfl (Ad ?_))))
  refine A9 h (fun h => ?_) fun h => ?_
  ·refine Al (AN (AG (wq rfl (qw 2 rfl ?_))))
   refine Bc h fun v4 a4 b4 h => qi AQ AM a4 (Ae b4) rfl (qK CY AM rfl (qL CY AM rfl ?_))
   refine TF [.int .i64 v4.fX, .int .i64 v4.fW, .int .i64 v4.fV] [.int .i64 p1.fX, .int .i64 p1.fW, .int .i64 p1.fV] (.p rfl) rfl rfl RQ rfl ?_
   refine AE (by kernel_rfl) ?_
   refine A9 h (fun h => ?_) fun h => ?_
   ·refine wq rfl (qe rfl ?_)
    obtain rfl := sj h
    refine Ah (sm [] [(4, bD true)] [] rfl rfl) (Ar ?_)
    exact ⟨⟨[_], tm, rfl⟩, tv⟩
   ·refine Al (Ai As rfl (qm rfl (AT rfl (qe rfl ?_))))
    exact sn [] h
  ·refine AS ?_
   exact sn [] h
 ·refine Ah hs (wq rfl (qe rfl ?_))
  obtain rfl := sj h
  refine Ah (sm [] [(4, bD false)] [] rfl rfl) (Ar ?_)
  exact ⟨⟨[_], tm, rfl⟩, tv⟩
theorem Ny (N : Nat) (p0 : Ac) (p1 : List Aa) (r : Ac) (h : Gf N p0 p1 = some r) : Au Tryz.prog 46 [.e (.agg (Aj p0)), pD (.sl (p1.map Ab))] [(1, r.fE.map Aq), (1, r.fK.map Aq), (1, r.fP.map Aq)] (.e (.agg [.own 0, .own 1, .own 2, sC (r.fF.map AI)])) := by
 unfold Gf at h
 refine cw (n := 122) (rs := [.cell 4 29]) Tryz.func46 fun w0 S0 => ?_
 refine wq rfl (qb rfl (qz K9 rfl (Ad (wq rfl (Fg AD Ep LG rfl (qf BH rfl (ql Bg rfl ?_)))))))
 refine GK h fun c1 h => HT (f := Aq) AD AD Ep MH LG (fun _ => rfl) c1 rfl (Fg AD Ep LG rfl (qf HJ rfl (ql Bg rfl ?_)))
 refine GK h fun c2 h => HT (f := Aq) AD AD Ep MH LG (fun _ => rfl) c2 rfl (Fg AD Ep LG rfl (qf I6 rfl (ql Bg rfl ?_)))
 refine GK h fun c3 h => HT (f := Aq) AD AD Ep MH LG (fun _ => rfl) c3 rfl (A6 K9 Vg rfl (qz K9 rfl (qs Cb rfl (AE (by kernel_rfl) (wp rfl (qe rfl ?_))))))
 refine Ax (L := Cv N p0 p1) h (fun v4 => mk [(1, pD (.sl (p1.map Ab))), (2, oD (.ptr 2 0)), (4, oD (.ptr 4 0)), (5, oD (.ptr 5 0)), (6, iD v4.2)] [(2, .box (Aj p0)), (4, .box [.pure (.nil0), .pure (.nil0), .pure (.nil0), .pure (.nil0)]), (5, .box [.own 2001, .own 2002, .own 2003, .own 2004]), (2001, .vec 1 (((([] : List Int)) ++ p0.fE).map Aq)), (2002, .vec 1 (((([] : List Int)) ++ p0.fK).map Aq)), (2003, .vec 1 (((([] : List Int)) ++ p0.fP).map Aq)), (2004, .dvec 6 [.s, .s, .s, .s, .x 1 [.x 1 []], .x 1 [.x 1 []]] (v4.1.map AI))]) (fun v5 => mk [(4, oD (.ptr 4 0)), (5, oD (.ptr 5 0))] [(4, .box [.pure (.nil0), .pure (.nil0), .pure (.nil0), .pure (.nil0)]), (5, .box [.own 2005, .own 2006, .own 2007, .own 2008]), (2005, .vec 1 (((([] : List Int)) ++ p0.fE).map Aq)), (2006, .vec 1 (((([] : List Int)) ++ p0.fK).map Aq)), (2007, .vec 1 (((([] : List Int)) ++ p0.fP).map Aq)), (2008, .dvec 6 [.s, .s, .s, .s, .x 1 [.x 1 []], .x 1 [.x 1 []]] (v5.map AI))]) (fun _ _ => rfl) ((Av 5 3 2051 6 _ rfl rfl rfl rfl).trans ((IX 2051 6 [.s, .s, .s, .s, .x 1 [.x 1 []], .x 1 [.x 1 []]] [] [] rfl rfl).trans (sm [(2001, 15), (2002, 19), (2003, 23), (2004, 2051)] _ _ rfl rfl))) (fun j4 n4 v4 h => ?_) (fun v5 s h hs => ?_)
 ·unfold Cv at h
  refine wp rfl (qm rfl (qf BK rfl (ql GZ rfl (AV Dc rfl (AX rfl (Ad ?_))))))
  refine A9 h (fun h => ?_) fun h => ?_
  ·refine Al (AN (AG (wq rfl (qf BK rfl (ql GZ rfl (qm rfl ?_))))))
   refine Bc h fun v7 a7 b7 h => qi Dc DB a7 (Ae b7) rfl (qK HZ DB rfl (qz Kc rfl (qs DB rfl (Ad (wq rfl (qf FB rfl (qs U2 rfl (qf FC rfl (qs U2 rfl (Ad (wp rfl (qe rfl ?_))))))))))))
   refine Ax (L := DT N p0 p1 v4) h (fun v8 => mk [(1, pD (.sl (p1.map Ab))), (2, oD (.ptr 2 0)), (4, oD (.ptr 4 0)), (5, oD (.ptr 5 0)), (6, iD v4.2), (7, oD (.ptr 7 0)), (8, iD v8.2)] [(2, .box (Aj p0)), (4, .box [.pure (.nil0), .pure (.nil0), .pure (.nil0), .pure (.nil0)]), (5, .box [.own 2009, .own 2010, .own 2011, .own 2012]), (7, .box [iC v7.fI, iC v7.fJ, iC v7.fO, .pure (.val (.bool v7.fR)), .own 2013, .pure (.nil0)]), (2009, .vec 1 (((([] : List Int)) ++ p0.fE).map Aq)), (2010, .vec 1 (((([] : List Int)) ++ p0.fK).map Aq)), (2011, .vec 1 (((([] : List Int)) ++ p0.fP).map Aq)), (2012, .dvec 6 [.s, .s, .s, .s, .x 1 [.x 1 []], .x 1 [.x 1 []]] (v4.1.map AI)), (2013, .dvec 1 [.x 1 []] (v8.1.map (FN eB)))]) (fun v9 => mk [(1, pD (.sl (p1.map Ab))), (2, oD (.ptr 2 0)), (4, oD (.ptr 4 0)), (5, oD (.ptr 5 0)), (6, iD v4.2), (7, oD (.ptr 7 0))] [(2, .box (Aj p0)), (4, .box [.pure (.nil0), .pure (.nil0), .pure (.nil0), .pure (.nil0)]), (5, .box [.own 2014, .own 2015, .own 2016, .own 2017]), (7, .box [iC v7.fI, iC v7.fJ, iC v7.fO, .pure (.val (.bool v7.fR)), .own 2018, .pure (.nil0)]), (2014, .vec 1 (((([] : List Int)) ++ p0.fE).map Aq)), (2015, .vec 1 (((([] : List Int)) ++ p0.fK).map Aq)), (2016, .vec 1 (((([] : List Int)) ++ p0.fP).map Aq)), (2017, .dvec 6 [.s, .s, .s, .s, .x 1 [.x 1 []], .x 1 [.x 1 []]] (v4.1.map AI)), (2018, .dvec 1 [.x 1 []] (v9.map (FN eB)))]) (fun _ _ => rfl) ((Av 7 4 2037 1 _ rfl rfl rfl rfl).trans ((IX 2037 1 [.x 1 []] [] [] rfl rfl).trans (sm [(2009, 2001), (2010, 2002), (2011, 2003), (2012, 2004), (2013, 2037)] _ _ rfl rfl))) (fun j8 n8 v8 h => ?_) (fun v9 s h hs => ?_)
   ·unfold DT at h
    refine wp rfl (qm rfl (qf BK rfl (ql GZ rfl (qm rfl ?_))))
    refine Bc h fun v10 a10 b10 h => qi Dc DB a10 (Ae b10) rfl (qg FB rfl (qk HR rfl (AV Ed rfl (AX rfl (Ad ?_)))))
    refine A9 h (fun h => ?_) fun h => ?_
    ·refine Al (AN (AG (wq rfl (Fg Ff Nv Wm rfl (qf BK rfl (ql GZ rfl (qm rfl ?_)))))))
     refine Bc h fun v12 a12 b12 h => qi Dc DB a12 (Ae b12) rfl (qg FB rfl (qk HR rfl (qm rfl ?_)))
     refine Bc h fun v13 a13 b13 h => qi Ed I2 a13 (Ae b13) rfl (qk ML rfl ?_)
     refine GK h fun c14 h => HT (f := eB) Ff Ff Nv Xi Wm (fun _ => rfl) c14 rfl (qa rfl (Ad (wp rfl (qe rfl ?_))))
     refine Ax (L := CU N p1 v4 v8) h (fun v15 => mk [(1, pD (.sl (p1.map Ab))), (2, oD (.ptr 2 0)), (4, oD (.ptr 4 0)), (5, oD (.ptr 5 0)), (6, iD v4.2), (7, oD (.ptr 7 0)), (8, iD v8.2), (9, oD (.own 2024)), (10, iD v15.2)] [(2, .box (Aj p0)), (4, .box [.pure (.nil0), .pure (.nil0), .pure (.nil0), .pure (.nil0)]), (5, .box [.own 2019, .own 2020, .own 2021, .own 2022]), (7, .box [iC v7.fI, iC v7.fJ, iC v7.fO, .pure (.val (.bool v7.fR)), .own 2023, .pure (.nil0)]), (2019, .vec 1 (((([] : List Int)) ++ p0.fE).map Aq)), (2020, .vec 1 (((([] : List Int)) ++ p0.fK).map Aq)), (2021, .vec 1 (((([] : List Int)) ++ p0.fP).map Aq)), (2022, .dvec 6 [.s, .s, .s, .s, .x 1 [.x 1 []], .x 1 [.x 1 []]] (v4.1.map AI)), (2023, .dvec 1 [.x 1 []] (v8.1.map (FN eB))), (2024, .vec 1 (v15.1.map eB))]) (fun v16 => mk [(1, pD (.sl (p1.map Ab))), (2, oD (.ptr 2 0)), (4, oD (.ptr 4 0)), (5, oD (.ptr 5 0)), (6, iD v4.2), (7, oD (.ptr 7 0)), (8, iD v8.2), (9, oD (.own 2030))] [(2, .box (Aj p0)), (4, .box [.pure (.nil0), .pure (.nil0), .pure (.nil0), .pure (.nil0)]), (5, .box [.own 2025, .own 2026, .own 2027, .own 2028]), (7, .box [iC v7.fI, iC v7.fJ, iC v7.fO, .pure (.val (.bool v7.fR)), .own 2029, .pure (.nil0)]), (2025, .vec 1 (((([] : List Int)) ++ p0.fE).map Aq)), (2026, .vec 1 (((([] : List Int)) ++ p0.fK).map Aq)), (2027, .vec 1 (((([] : List Int)) ++ p0.fP).map Aq)), (2028, .dvec 6 [.s, .s, .s, .s, .x 1 [.x 1 []], .x 1 [.x 1 []]] (v4.1.map AI)), (2029, .dvec 1 [.x 1 []] (v8.1.map (FN eB))), (2030, .vec 1 (v16.map eB))]) (fun _ _ => rfl) (sm [(2019, 2009), (2020, 2010), (2021, 2011), (2022, 2012), (2023, 2013), (2024, 60)] _ _ rfl rfl) (fun j15 n15 v15 h => ?_) (fun v16 s h hs => ?_)
     ·unfold CU at h
      refine wp rfl (qw 2 rfl (DV Ff rfl (AX rfl (Ad ?_))))
      refine A9 h (fun h => ?_) fun h => ?_
      ·refine Al ?_
       refine AP h (fun v18 => mk [(1, pD (.sl (p1.map Ab))), (2, oD (.ptr 2 0)), (4, oD (.ptr 4 0)), (5, oD (.ptr 5 0)), (6, iD v4.2), (7, oD (.ptr 7 0)), (8, iD v8.2), (9, oD (.own 2036)), (10, iD v15.2)] [(2, .box (Aj p0)), (4, .box [.pure (.nil0), .pure (.nil0), .pure (.nil0), .pure (.nil0)]), (5, .box [.own 2031, .own 2032, .own 2033, .own 2034]), (7, .box [iC v7.fI, iC v7.fJ, iC v7.fO, .pure (.val (.bool v7.fR)), .own 2035, .pure (.nil0)]), (2031, .vec 1 (((([] : List Int)) ++ p0.fE).map Aq)), (2032, .vec 1 (((([] : List Int)) ++ p0.fK).map Aq)), (2033, .vec 1 (((([] : List Int)) ++ p0.fP).map Aq)), (2034, .dvec 6 [.s, .s, .s, .s, .x 1 [.x 1 []], .x 1 [.x 1 []]] (v4.1.map AI)), (2035, .dvec 1 [.x 1 []] (v8.1.map (FN eB))), (2036, .vec 1 (v18.map eB))]) (fun j18 h => ?_) (fun v18 h => ?_)
       ·refine AG (Ai As rfl (qw 4 rfl ?_))
        refine Bc h fun v19 a19 b19 h => qI Ff Nv a19 (Ae b19) rfl (qj TD (Ae b19) rfl (qm rfl ?_))
        refine E8 73 h rfl (fun h => ?_) fun h => ?_
        ·refine qw 6 rfl (qp rfl ?_)
         refine Bc h fun v21 a21 b21 h => qI Ff Nv a21 (Ae b21) rfl ?_
         refine Ba rfl rfl rfl rfl (Ae b21) rfl Nv rfl (DY rfl) (A2 eB v15.1 _ true) ?_
         refine Ad ?_
         exact sn [(2031, 2019), (2032, 2020), (2033, 2021), (2034, 2022), (2035, 2023), (2036, 2024)] h
        ·refine qw 4 rfl (A6 GP M7 rfl ?_)
         refine BM h fun v22 a22 h => Az [] (Pb N p1 ((Aa.mk v4.2 v8.2 v15.2)) v22 a22) fv rfl (qp rfl ?_)
         refine Bc h fun v23 a23 b23 h => qI Ff Nv a23 (Ae b23) rfl ?_
         refine Ba rfl rfl rfl rfl (Ae b23) rfl Nv rfl (DY rfl) (A2 eB v15.1 _ v22) ?_
         refine Ad ?_
         exact sn [(2031, 2019), (2032, 2020), (2033, 2021), (2034, 2022), (2035, 2023), (2036, 2024)] h
       ·refine Ai As rfl (qm rfl (AT rfl (qe rfl ?_)))
        exact sn [(2019, 2031), (2020, 2032), (2021, 2033), (2022, 2034), (2023, 2035), (2024, 2036)] h
      ·refine AS ?_
       exact sn [(2025, 2019), (2026, 2020), (2027, 2021), (2028, 2022), (2029, 2023), (2030, 2024)] h
     ·refine Ah hs (Ai As rfl (qf FB rfl (ql HR rfl (qm rfl ?_))))
      refine JI (x := .one (.own 2030)) (cs := [.own 2030]) (ts := [.sl (v16.map eB)]) [.x 1 []] [(2030, .vec 1 (v16.map eB))] (.p rfl) rfl rfl rfl rfl rfl ⟨rfl, tv⟩ ⟨rfl, tv⟩ rfl rfl rfl Ed I2 SJ (DY rfl) ?_
      refine GK h fun c24 h => Lq (.p rfl) rfl rfl rfl rfl rfl (by decide) Ed Ed I2 Ws (DY rfl) SJ rfl (Oh (f := (FN eB)) (g := (FN eB)) (xs := v8.1) (ys := (([v16] : List (List Bool)))) c24) (Od (FN eB) v8.1 (([v16] : List (List Bool)))) rfl rfl ?_
      refine qf FB rfl (qs U2 rfl (Ad (Ai As rfl (qm rfl (AT rfl (qe rfl ?_))))))
      exact sn [(2009, 2025), (2010, 2026), (2011, 2027), (2012, 2028), (2013, 86)] h
    ·refine AS ?_
     exact sn [(2014, 2009), (2015, 2010), (2016, 2011), (2017, 2012), (2018, 2013)] h
   ·refine Ah hs (wp rfl (qe rfl ?_))
    refine Ax (L := CR N p0 v4) h (fun v25 => mk [(1, pD (.sl (p1.map Ab))), (2, oD (.ptr 2 0)), (4, oD (.ptr 4 0)), (5, oD (.ptr 5 0)), (6, iD v4.2), (7, oD (.ptr 7 0)), (11, iD v25.2)] [(2, .box (Aj p0)), (4, .box [.pure (.nil0), .pure (.nil0), .pure (.nil0), .pure (.nil0)]), (5, .box [.own 2038, .own 2039, .own 2040, .own 2041]), (7, .box [iC v7.fI, iC v7.fJ, iC v7.fO, .pure (.val (.bool v7.fR)), .own 2042, .own 2043]), (2038, .vec 1 (((([] : List Int)) ++ p0.fE).map Aq)), (2039, .vec 1 (((([] : List Int)) ++ p0.fK).map Aq)), (2040, .vec 1 (((([] : List Int)) ++ p0.fP).map Aq)), (2041, .dvec 6 [.s, .s, .s, .s, .x 1 [.x 1 []], .x 1 [.x 1 []]] (v4.1.map AI)), (2042, .dvec 1 [.x 1 []] (v9.map (FN eB))), (2043, .dvec 1 [.x 1 []] (v25.1.map (FN eB)))]) (fun v26 => mk [(1, pD (.sl (p1.map Ab))), (2, oD (.ptr 2 0)), (4, oD (.ptr 4 0)), (5, oD (.ptr 5 0)), (6, iD v4.2), (7, oD (.ptr 7 0))] [(2, .box (Aj p0)), (4, .box [.pure (.nil0), .pure (.nil0), .pure (.nil0), .pure (.nil0)]), (5, .box [.own 2044, .own 2045, .own 2046, .own 2047]), (7, .box [iC v7.fI, iC v7.fJ, iC v7.fO, .pure (.val (.bool v7.fR)), .own 2048, .own 2049]), (2044, .vec 1 (((([] : List Int)) ++ p0.fE).map Aq)), (2045, .vec 1 (((([] : List Int)) ++ p0.fK).map Aq)), (2046, .vec 1 (((([] : List Int)) ++ p0.fP).map Aq)), (2047, .dvec 6 [.s, .s, .s, .s, .x 1 [.x 1 []], .x 1 [.x 1 []]] (v4.1.map AI)), (2048, .dvec 1 [.x 1 []] (v9.map (FN eB))), (2049, .dvec 1 [.x 1 []] (v26.map (FN eB)))]) (fun _ _ => rfl) ((Av 7 5 2050 1 _ rfl rfl rfl rfl).trans ((IX 2050 1 [.x 1 []] [] [] rfl rfl).trans (sm [(2038, 2014), (2039, 2015), (2040, 2016), (2041, 2017), (2042, 2018), (2043, 2050)] _ _ rfl rfl))) (fun j25 n25 v25 h => ?_) (fun v26 s h hs => ?_)
    ·unfold CR at h
     refine wp rfl (qm rfl (qf BK rfl (ql GZ rfl (qm rfl ?_))))
     refine Bc h fun v27 a27 b27 h => qi Dc DB a27 (Ae b27) rfl (qg FC rfl (qk HR rfl (AV Ed rfl (AX rfl (Ad ?_)))))
     refine A9 h (fun h => ?_) fun h => ?_
     ·refine Al (AN (AG (Ai As rfl (qf FC rfl (ql HR rfl (Fg Ff Nv Wm rfl (qf BK rfl (ql GZ rfl (qm rfl ?_)))))))))
      refine Bc h fun v29 a29 b29 h => qi Dc DB a29 (Ae b29) rfl (qg FC rfl (qk HR rfl (qm rfl ?_)))
      refine Bc h fun v30 a30 b30 h => qi Ed I2 a30 (Ae b30) rfl (qk ML rfl ?_)
      refine GK h fun c31 h => HT (f := eB) Ff Ff Nv Xi Wm (fun _ => rfl) c31 rfl ?_
      refine JI (x := .one (.own 111)) (cs := [.own 111]) (ts := [.sl (((([] : List Bool)) ++ v30).map eB)]) [.x 1 []] [(111, .vec 1 (((([] : List Bool)) ++ v30).map eB))] (.p rfl) rfl rfl rfl rfl rfl ⟨rfl, tv⟩ ⟨rfl, tv⟩ rfl rfl rfl Ed I2 SJ (DY rfl) ?_
      refine GK h fun c32 h => Lq (.p rfl) rfl rfl rfl rfl rfl (by decide) Ed Ed I2 Ws (DY rfl) SJ rfl (Oh (f := (FN eB)) (g := (FN eB)) (xs := v25.1) (ys := (([(([] : List Bool)) ++ v30] : List (List Bool)))) c32) (Od (FN eB) v25.1 (([(([] : List Bool)) ++ v30] : List (List Bool)))) rfl rfl ?_
      refine qf FC rfl (qs U2 rfl (AE (by kernel_rfl) (Ai As rfl (qm rfl (AT rfl (qe rfl ?_))))))
      exact sn [(2043, 113)] h
     ·refine AS ?_
      exact sn [(2044, 2038), (2045, 2039), (2046, 2040), (2047, 2041), (2048, 2042), (2049, 2043)] h
    ·refine Ah hs (Ai As rfl (qf BK rfl (ql GZ rfl (qL HZ DB rfl ?_))))
     refine JI (x := .agg [iC v7.fI, iC v7.fJ, iC v7.fO, .pure (.val (.bool v7.fR)), .own 2048, .own 2049]) (cs := [iC v7.fI, iC v7.fJ, iC v7.fO, .pure (.val (.bool v7.fR)), .own 2048, .own 2049]) (ts := [.val (.int .i64 v7.fI), .val (.int .i64 v7.fJ), .val (.int .i64 v7.fO), .val (.bool v7.fR), .sl (v9.map (FN eB)), .sl (v26.map (FN eB))]) [.s, .s, .s, .s, .x 1 [.x 1 []], .x 1 [.x 1 []]] [(2048, .dvec 1 [.x 1 []] (v9.map (FN eB))), (2049, .dvec 1 [.x 1 []] (v26.map (FN eB)))] (.p rfl) rfl rfl rfl rfl rfl ⟨rfl, rfl, tv⟩ ⟨rfl, rfl, rfl, rfl, rfl, rfl, tv⟩ rfl rfl rfl Dc DB Kc (DY rfl) ?_
     refine GK h fun c33 h => Lq (.p rfl) rfl rfl rfl rfl rfl (by decide) Dc Dc DB Yh (DY rfl) Kc rfl (Oh (f := AI) (g := AI) (xs := v4.1) (ys := (([(An.mk v7.fI v7.fJ v7.fO v7.fR v9 v26)] : List An))) c33) (Od AI v4.1 (([(An.mk v7.fI v7.fJ v7.fO v7.fR v9 v26)] : List An))) rfl rfl ?_
     refine qf BK rfl (qs cf rfl (Ad (Ai As rfl (qm rfl (AT rfl (qe rfl ?_))))))
     exact sn [(2001, 2044), (2002, 2045), (2003, 2046), (2004, 119)] h
  ·refine AS ?_
   exact sn [(2005, 2001), (2006, 2002), (2007, 2003), (2008, 2004)] h
 ·refine Ah hs (wq rfl (qL Db Cb rfl (qs Cb rfl (Ad ?_))))
  obtain rfl := sj h
  refine Ah ((OZ 2008 _ _ _ rfl rfl).trans (sm [(1000, 2005), (1001, 2006), (1002, 2007)] [(4, oD (.ptr 4 0))] [(4, .box [.own 1000, .own 1001, .own 1002, sC (v5.map AI)]), (1000, .vec 1 (((([] : List Int)) ++ p0.fE).map Aq)), (1001, .vec 1 (((([] : List Int)) ++ p0.fK).map Aq)), (1002, .vec 1 (((([] : List Int)) ++ p0.fP).map Aq))] rfl rfl)) (Ar ?_)
  exact ⟨⟨[_], ⟨.cellN _ _ _ _ _ _ _ rfl rfl Db Cb rfl rfl (IL rfl), tv⟩, rfl⟩, ⟨rfl, rfl, rfl, tv⟩⟩
theorem JS (N : Nat) (p0 : List (List Bool)) (p1 : Int) (p2 : Int) (r : Bool) (h : EL N p0 p1 p2 = some r) : Au Tryz.prog 83 [pD (.sl (p0.map (FN eB))), iD p1, iD p2] [] (bD r) := by
 unfold EL at h
 refine cw (n := 24) (rs := [.tmp 6]) Tryz.func83 fun w0 S0 => ?_
 refine wq rfl (qa rfl (Ad (wp rfl (qm rfl (AV Ed rfl (qm rfl (Cf rfl (Ad ?_))))))))
 refine A9 h (fun h => ?_) fun h => ?_
 ·refine wq rfl (qe rfl ?_)
  obtain rfl := sj h
  refine Ah (sm [] [(6, bD false)] [] rfl rfl) (Ar ?_)
  exact ⟨⟨[_], tm, rfl⟩, tv⟩
 ·refine Al (wp rfl (qe rfl ?_))
  refine Ax (L := De N p0 p1 p2) h (fun v2 => mk [(0, pD (.sl (p0.map (FN eB)))), (1, iD p1), (2, iD p2), (7, iD v2)] []) (fun v3 => mk [] []) (fun _ _ => rfl) (sm [] _ _ rfl rfl) (fun j2 n2 v2 h => ?_) (fun v3 s h hs => ?_)
  ·unfold De at h
   refine wp rfl (qw 2 rfl (AX rfl (Ad ?_)))
   refine A9 h (fun h => ?_) fun h => ?_
   ·refine Al (AN (AG (wq rfl (qw 2 rfl ?_))))
    refine Bc h fun v5 a5 b5 h => qi Ed I2 a5 (Ae b5) rfl (qk ML rfl (AV Ff rfl (qm rfl (Cf rfl (Ad ?_)))))
    refine A9 h (fun h => ?_) fun h => ?_
    ·refine wq rfl (qe rfl ?_)
     obtain rfl := sj h
     refine Ah (sm [] [(6, bD false)] [] rfl rfl) (Ar ?_)
     exact ⟨⟨[_], tm, rfl⟩, tv⟩
    ·refine Al (Ai As rfl (qm rfl (AT rfl (qe rfl ?_))))
     exact sn [] h
   ·refine AS ?_
    exact sn [] h
  ·refine Ah hs (wq rfl (qe rfl ?_))
   obtain rfl := sj h
   refine Ah (sm [] [(6, bD true)] [] rfl rfl) (Ar ?_)
   exact ⟨⟨[_], tm, rfl⟩, tv⟩
theorem M6 (N : Nat) (p0 : Ac) (p1 : An) (r : Int) (h : FV N p0 p1 = some r) : Au Tryz.prog 55 [.e (.agg (Aj p0)), .e (.agg (Bv p1))] [] (iD r) := by
 unfold FV at h
 refine cw (n := 101) (rs := [.tmp 4]) Tryz.func55 fun w0 S0 => ?_
 refine wq rfl (qb rfl (qb rfl (qa rfl (Ad (AN ?_)))))
 refine AP h (fun v1 => mk [(2, oD (.ptr 2 0)), (3, oD (.ptr 3 0)), (22, bD v1)] [(2, .box (Aj p0)), (3, .box (Bv p1))]) (fun j1 h => ?_) (fun v1 h => ?_)
 ·refine Ai As rfl (qf HO rfl (ql CN rfl (AX rfl (qm rfl ?_))))
  refine E8 10 h rfl (fun h => ?_) fun h => ?_
  ·refine qw 3 rfl (qp rfl (qw 4 rfl (qu rfl (qu rfl (qn rfl (qp rfl (Ad ?_)))))))
   exact sn [] h
  ·refine qf HO rfl (ql CN rfl (Gx rfl (qp rfl (qm rfl ?_))))
   refine E8 15 h rfl (fun h => ?_) fun h => ?_
   ·refine qw 3 rfl (qu rfl (qu rfl (qn rfl (qp rfl (Ad ?_)))))
    exact sn [] h
   ·refine qf K2 rfl (ql TD rfl (qm rfl ?_))
    refine E8 18 h rfl (fun h => ?_) fun h => ?_
    ·refine qL HZ DB rfl ?_
     refine BM h fun v5 a5 h => Az [] (C8 N p1 v5 a5) Tk rfl (qp rfl (qp rfl (Ad ?_)))
     exact sn [] h
    ·refine qw 2 rfl (qp rfl (qp rfl (Ad ?_)))
     exact sn [] h
 ·refine A9 h (fun h => ?_) fun h => ?_
  ·refine wq rfl (qe rfl ?_)
   obtain rfl := sj h
   refine Ah (sm [] [(4, iD 1)] [] rfl rfl) (Ar ?_)
   exact ⟨⟨[_], tm, rfl⟩, tv⟩
  ·refine Al (wq rfl (qf BH rfl (ql Bg rfl (AV AD rfl (qa rfl (Ad (AN ?_)))))))
   refine AP h (fun v7 => mk [(2, oD (.ptr 2 0)), (3, oD (.ptr 3 0)), (45, bD v7)] [(2, .box (Aj p0)), (3, .box (Bv p1))]) (fun j7 h => ?_) (fun v7 h => ?_)
   ·refine Ai As rfl (qf Eu rfl (ql CN rfl (AX rfl (qm rfl ?_))))
    refine E8 29 h rfl (fun h => ?_) fun h => ?_
    ·refine qw 4 rfl (qp rfl (qw 4 rfl (qp rfl (qw 5 rfl (qp rfl (Ad ?_))))))
     exact sn [] h
    ·refine qf Eu rfl (ql CN rfl (qm rfl (D4 rfl (qp rfl (qm rfl ?_)))))
     refine E8 35 h rfl (fun h => ?_) fun h => ?_
     ·refine qw 3 rfl (qp rfl (qw 5 rfl (qp rfl (Ad ?_))))
      exact sn [] h
     ·refine qf Ke rfl (ql CN rfl (AX rfl (qp rfl (qm rfl ?_))))
      refine E8 40 h rfl (fun h => ?_) fun h => ?_
      ·refine qw 4 rfl (qp rfl (Ad ?_))
       exact sn [] h
      ·refine qf Ke rfl (ql CN rfl (qm rfl (D4 rfl (qp rfl (Ad ?_)))))
       exact sn [] h
   ·refine A9 h (fun h => ?_) fun h => ?_
    ·refine wq rfl (qe rfl ?_)
     obtain rfl := sj h
     refine Ah (sm [] [(4, iD 4)] [] rfl rfl) (Ar ?_)
     exact ⟨⟨[_], tm, rfl⟩, tv⟩
    ·refine Al (wp rfl (qf FB rfl (ql HR rfl (qf BH rfl (ql Bg rfl (qf Eu rfl (ql CN rfl ?_)))))))
     refine Bc h fun v12 a12 b12 h => qi AD Ep a12 (Ae b12) rfl (qk CN rfl (qf BH rfl (ql Bg rfl (qf Ke rfl (ql CN rfl ?_)))))
     refine Bc h fun v13 a13 b13 h => qi AD Ep a13 (Ae b13) rfl (qk CN rfl ?_)
     refine BM h fun v14 a14 h => Az [] (JS N p1.fN v12 v13 v14 a14) dF rfl (CL rfl (AE (by kernel_rfl) ?_))
     refine A9 h (fun h => ?_) fun h => ?_
     ·refine wq rfl (qe rfl ?_)
      obtain rfl := sj h
      refine Ah (sm [] [(4, iD 6)] [] rfl rfl) (Ar ?_)
      exact ⟨⟨[_], tm, rfl⟩, tv⟩
     ·refine Al (wp rfl (qf HO rfl (ql CN rfl (Cf rfl (Ad ?_)))))
      refine A9 h (fun h => ?_) fun h => ?_
      ·refine wp rfl (qf FC rfl (ql HR rfl (AV Ed rfl (Cf rfl (Ad ?_)))))
       refine A9 h (fun h => ?_) fun h => ?_
       ·refine wq rfl (qe rfl ?_)
        obtain rfl := sj h
        refine Ah (sm [] [(4, iD 6)] [] rfl rfl) (Ar ?_)
        exact ⟨⟨[_], tm, rfl⟩, tv⟩
       ·refine Al (wq rfl (qe rfl ?_))
        obtain rfl := sj h
        refine Ah (sm [] [(4, iD 0)] [] rfl rfl) (Ar ?_)
        exact ⟨⟨[_], tm, rfl⟩, tv⟩
      ·refine Al (wp rfl (qf FC rfl (ql HR rfl (qf BH rfl (ql Bg rfl (qf Eu rfl (ql CN rfl ?_)))))))
       refine Bc h fun v18 a18 b18 h => qi AD Ep a18 (Ae b18) rfl (qk CN rfl (qf BH rfl (ql Bg rfl (qf Eu rfl (ql CN rfl ?_)))))
       refine Bc h fun v19 a19 b19 h => qi AD Ep a19 (Ae b19) rfl (qk CN rfl ?_)
       refine BM h fun v20 a20 h => Az [] (JS N p1.fQ v18 v19 v20 a20) dF rfl (CL rfl (AE (by kernel_rfl) ?_))
       refine A9 h (fun h => ?_) fun h => ?_
       ·refine wq rfl (qe rfl ?_)
        obtain rfl := sj h
        refine Ah (sm [] [(4, iD 6)] [] rfl rfl) (Ar ?_)
        exact ⟨⟨[_], tm, rfl⟩, tv⟩
       ·refine Al (wp rfl (qe rfl ?_))
        refine Ax (L := CA N p1) h (fun v22 => mk [(3, oD (.ptr 3 0)), (6, iD v22)] [(3, .box (Bv p1))]) (fun v23 => mk [] []) (fun _ _ => rfl) (sm [] _ _ rfl rfl) (fun j22 n22 v22 h => ?_) (fun v23 s h hs => ?_)
        ·unfold CA at h
         refine wp rfl (qm rfl (qf FC rfl (ql HR rfl (AV Ed rfl (AX rfl (Ad ?_))))))
         refine A9 h (fun h => ?_) fun h => ?_
         ·refine Al (AN (AG (wq rfl (qf FC rfl (ql HR rfl (qm rfl ?_))))))
          refine Bc h fun v25 a25 b25 h => qi Ed I2 a25 (Ae b25) rfl (qk ML rfl (qm rfl ?_))
          refine Bc h fun v26 a26 b26 h => qi Ff Nv a26 (Ae b26) rfl (qk TD rfl (CL rfl (Ad ?_)))
          refine A9 h (fun h => ?_) fun h => ?_
          ·refine wq rfl (qe rfl ?_)
           obtain rfl := sj h
           refine Ah (sm [] [(4, iD 1)] [] rfl rfl) (Ar ?_)
           exact ⟨⟨[_], tm, rfl⟩, tv⟩
          ·refine Al (Ai As rfl (qm rfl (AT rfl (qe rfl ?_))))
           exact sn [] h
         ·refine AS ?_
          exact sn [] h
        ·refine Ah hs (wq rfl (qe rfl ?_))
         obtain rfl := sj h
         refine Ah (sm [] [(4, iD 0)] [] rfl rfl) (Ar ?_)
         exact ⟨⟨[_], tm, rfl⟩, tv⟩
theorem H1 (N : Nat) (p0 : Ac) (r : Int) (h : Dj N p0 = some r) : Au Tryz.prog 31 [.e (.agg (Aj p0))] [] (iD r) := by
 unfold Dj at h
 refine cw (n := 102) (rs := [.tmp 2]) Tryz.func31 fun w0 S0 => ?_
 refine wq rfl (qb rfl (qa rfl (Ad (AN ?_))))
 refine AP h (fun v1 => mk [(1, oD (.ptr 1 0)), (16, bD v1)] [(1, .box (Aj p0))]) (fun j1 h => ?_) (fun v1 h => ?_)
 ·refine Ai As rfl (qf BH rfl (ql Bg rfl (AV AD rfl (Gx rfl (qm rfl ?_)))))
  refine E8 11 h rfl (fun h => ?_) fun h => ?_
  ·refine qw 4 rfl (qp rfl (Ad ?_))
   exact sn [] h
  ·refine qf BK rfl (ql GZ rfl (AV Dc rfl (Gx rfl (qp rfl (Ad ?_)))))
   exact sn [] h
 ·refine A9 h (fun h => ?_) fun h => ?_
  ·refine wq rfl (qe rfl ?_)
   obtain rfl := sj h
   refine Ah (sm [] [(2, iD 3)] [] rfl rfl) (Ar ?_)
   exact ⟨⟨[_], tm, rfl⟩, tv⟩
  ·refine Al (AN ?_)
   refine AP h (fun v4 => mk [(1, oD (.ptr 1 0)), (32, bD v4)] [(1, .box (Aj p0))]) (fun j4 h => ?_) (fun v4 h => ?_)
   ·refine Ai As rfl (qf HJ rfl (ql Bg rfl (AV AD rfl (qf BH rfl (ql Bg rfl (AV AD rfl (Cf rfl (qm rfl ?_))))))))
    refine E8 24 h rfl (fun h => ?_) fun h => ?_
    ·refine qw 7 rfl (qp rfl (Ad ?_))
     exact sn [] h
    ·refine qf I6 rfl (ql Bg rfl (AV AD rfl (qf BH rfl (ql Bg rfl (AV AD rfl (Cf rfl (qp rfl (Ad ?_))))))))
     exact sn [] h
   ·refine A9 h (fun h => ?_) fun h => ?_
    ·refine wq rfl (qe rfl ?_)
     obtain rfl := sj h
     refine Ah (sm [] [(2, iD 6)] [] rfl rfl) (Ar ?_)
     exact ⟨⟨[_], tm, rfl⟩, tv⟩
    ·refine Al (wp rfl (qe rfl ?_))
     refine Ax (L := BF N p0) h (fun v7 => mk [(1, oD (.ptr 1 0)), (3, iD v7)] [(1, .box (Aj p0))]) (fun v8 => mk [(1, oD (.ptr 1 0))] [(1, .box (Aj p0))]) (fun _ _ => rfl) (sm [] _ _ rfl rfl) (fun j7 n7 v7 h => ?_) (fun v8 s h hs => ?_)
     ·unfold BF at h
      refine wp rfl (qm rfl (qf BH rfl (ql Bg rfl (AV AD rfl (AX rfl (Ad ?_))))))
      refine A9 h (fun h => ?_) fun h => ?_
      ·refine Al (AN (AG (wq rfl (qf BH rfl (ql Bg rfl (qm rfl ?_))))))
       refine Bc h fun v10 a10 b10 h => qi AD Ep a10 (Ae b10) rfl (qk CN rfl (qe rfl ?_))
       refine AP h (fun v11 => mk [(1, oD (.ptr 1 0)), (3, iD v7), (84, bD v11)] [(1, .box (Aj p0))]) (fun j11 h => ?_) (fun v11 h => ?_)
       ·refine Ai As rfl (qm rfl (AX rfl (qm rfl ?_)))
        refine E8 47 h rfl (fun h => ?_) fun h => ?_
        ·refine qw 2 rfl (qp rfl (qw 7 rfl (qp rfl (qw 8 rfl (qp rfl (qw 7 rfl (qp rfl (qw 8 rfl (qp rfl (Ad ?_))))))))))
         exact sn [] h
        ·refine qm rfl (Gx rfl (qp rfl (qm rfl ?_)))
         refine E8 51 h rfl (fun h => ?_) fun h => ?_
         ·refine qw 6 rfl (qp rfl (qw 8 rfl (qp rfl (qw 7 rfl (qp rfl (qw 8 rfl (qp rfl (Ad ?_))))))))
          exact sn [] h
         ·refine qf HJ rfl (ql Bg rfl (qm rfl ?_))
          refine Bc h fun v14 a14 b14 h => qi AD Ep a14 (Ae b14) rfl (qk CN rfl (AX rfl (qp rfl (qm rfl ?_))))
          refine E8 59 h rfl (fun h => ?_) fun h => ?_
          ·refine qw 7 rfl (qp rfl (qw 7 rfl (qp rfl (qw 8 rfl (qp rfl (Ad ?_))))))
           exact sn [] h
          ·refine qf HJ rfl (ql Bg rfl (qm rfl ?_))
           refine Bc h fun v16 a16 b16 h => qi AD Ep a16 (Ae b16) rfl (qk CN rfl (qm rfl (D4 rfl (qp rfl (qm rfl ?_)))))
           refine E8 68 h rfl (fun h => ?_) fun h => ?_
           ·refine qw 6 rfl (qp rfl (qw 8 rfl (qp rfl (Ad ?_))))
            exact sn [] h
           ·refine qf I6 rfl (ql Bg rfl (qm rfl ?_))
            refine Bc h fun v18 a18 b18 h => qi AD Ep a18 (Ae b18) rfl (qk CN rfl (AX rfl (qp rfl (qm rfl ?_))))
            refine E8 76 h rfl (fun h => ?_) fun h => ?_
            ·refine qw 7 rfl (qp rfl (Ad ?_))
             exact sn [] h
            ·refine qf I6 rfl (ql Bg rfl (qm rfl ?_))
             refine Bc h fun v20 a20 b20 h => qi AD Ep a20 (Ae b20) rfl (qk CN rfl (qm rfl (D4 rfl (qp rfl (Ad ?_)))))
             exact sn [] h
       ·refine A9 h (fun h => ?_) fun h => ?_
        ·refine wq rfl (qe rfl ?_)
         obtain rfl := sj h
         refine Ah (sm [] [(2, iD 7)] [] rfl rfl) (Ar ?_)
         exact ⟨⟨[_], tm, rfl⟩, tv⟩
        ·refine Al (Ai As rfl (qm rfl (AT rfl (qe rfl ?_))))
         exact sn [] h
      ·refine AS ?_
       exact sn [] h
     ·refine Ah hs (wp rfl (qe rfl ?_))
      refine Ax (L := Bs N p0) h (fun v22 => mk [(1, oD (.ptr 1 0)), (5, iD v22)] [(1, .box (Aj p0))]) (fun v23 => mk [] []) (fun _ _ => rfl) (sm [] _ _ rfl rfl) (fun j22 n22 v22 h => ?_) (fun v23 s h hs => ?_)
      ·unfold Bs at h
       refine wp rfl (qm rfl (qf BK rfl (ql GZ rfl (AV Dc rfl (AX rfl (Ad ?_))))))
       refine A9 h (fun h => ?_) fun h => ?_
       ·refine Al (AN (AG (wq rfl (qL Db Cb rfl (qf BK rfl (ql GZ rfl (qm rfl ?_)))))))
        refine Bc h fun v25 a25 b25 h => qi Dc DB a25 (Ae b25) rfl (qK HZ DB rfl ?_)
        refine BM h fun v26 a26 h => Az [] (M6 N p0 v25 v26 a26) eE rfl (qa rfl (AE (by kernel_rfl) (wq rfl (qm rfl (Cf rfl (Ad ?_))))))
        refine A9 h (fun h => ?_) fun h => ?_
        ·refine wq rfl (qm rfl (qe rfl ?_))
         obtain rfl := sj h
         refine Ah (sm [] [(2, iD v26)] [] rfl rfl) (Ar ?_)
         exact ⟨⟨[_], tm, rfl⟩, tv⟩
        ·refine Al (Ai As rfl (qm rfl (AT rfl (qe rfl ?_))))
         exact sn [] h
       ·refine AS ?_
        exact sn [] h
      ·refine Ah hs (wq rfl (qe rfl ?_))
       obtain rfl := sj h
       refine Ah (sm [] [(2, iD 0)] [] rfl rfl) (Ar ?_)
       exact ⟨⟨[_], tm, rfl⟩, tv⟩
theorem JZ (N : Nat) (p0 : Ac) (r : Af × Int) (h : E3 N p0 = some r) : Au Tryz.prog 78 [.e (.agg (Aj p0))] [(1, r.1.fG.map Aq), (1, r.1.fD.map Aq), (1, r.1.fH.map Ex)] (.tup [.agg [.own 0, .own 1, .own 2], .one (iC r.2)]) := by
 unfold E3 at h
 refine cw (n := 68) (rs := [.cell 2 64, .tmp 3]) Tryz.func78 fun w0 S0 => ?_
 refine wq rfl (qb rfl (qz EJ rfl (qa rfl (Ad (wp rfl (qL Db Cb rfl ?_))))))
 refine BM h fun v1 a1 h => Az [] (H1 N p0 v1 a1) dN rfl (qa rfl (Ad (wq rfl (qm rfl (Cf rfl (Ad ?_))))))
 refine A9 h (fun h => ?_) fun h => ?_
 ·refine wq rfl (A6 EJ IZ rfl (qm rfl (qs AY rfl (qe rfl ?_))))
  obtain rfl := sj h
  refine Ah ((Av 2 0 2001 1 _ rfl rfl rfl rfl).trans ((Av 2 1 2002 1 _ rfl rfl rfl rfl).trans ((Av 2 2 2003 1 _ rfl rfl rfl rfl).trans (sm [(1000, 2001), (1001, 2002), (1002, 2003)] [(2, oD (.ptr 2 0)), (3, iD v1)] [(2, .box [.own 1000, .own 1001, .own 1002]), (1000, .vec 1 ((([] : List Int)).map Aq)), (1001, .vec 1 ((([] : List Int)).map Aq)), (1002, .vec 1 ((([] : List Int)).map Ex))] rfl rfl)))) (Ar ?_)
  exact ⟨⟨[_, _], ⟨.cellN _ _ _ _ _ _ _ rfl rfl BT AY rfl rfl (IL rfl), tm⟩, rfl⟩, ⟨rfl, rfl, rfl, tv⟩⟩
 ·refine Al (wq rfl (qz EJ rfl (Ad (wp rfl (qe rfl ?_)))))
  refine Ax (L := CP N p0) h (fun v3 => mk [(1, oD (.ptr 1 0)), (2, oD (.ptr 2 0)), (5, oD (.ptr 5 0)), (6, iD v3.2.2)] [(1, .box (Aj p0)), (2, .box [.pure (.nil0), .pure (.nil0), .pure (.nil0)]), (5, .box [.own 2004, .own 2005, .pure (.nil0)]), (2004, .vec 1 (v3.1.map Aq)), (2005, .vec 1 (v3.2.1.map Aq))]) (fun v4 => mk [(1, oD (.ptr 1 0)), (2, oD (.ptr 2 0)), (5, oD (.ptr 5 0))] [(1, .box (Aj p0)), (2, .box [.pure (.nil0), .pure (.nil0), .pure (.nil0)]), (5, .box [.own 2006, .own 2007, .pure (.nil0)]), (2006, .vec 1 (v4.1.map Aq)), (2007, .vec 1 (v4.2.map Aq))]) (fun _ _ => rfl) ((Av 5 0 2008 1 _ rfl rfl rfl rfl).trans ((Av 5 1 2009 1 _ rfl rfl rfl rfl).trans (sm [(2004, 2008), (2005, 2009)] _ _ rfl rfl))) (fun j3 n3 v3 h => ?_) (fun v4 s h hs => ?_)
  ·unfold CP at h
   refine wp rfl (qm rfl (qf BH rfl (ql Bg rfl (AV AD rfl (AX rfl (Ad ?_))))))
   refine A9 h (fun h => ?_) fun h => ?_
   ·refine Al (AN (AG (wq rfl (qf DR rfl (ql Bg rfl (qf HJ rfl (ql Bg rfl (qm rfl ?_))))))))
    refine Bc h fun v6 a6 b6 h => qi AD Ep a6 (Ae b6) rfl (qk CN rfl (Fg AD Ep LG rfl ?_))
    refine GK h fun c7 h => EM (f := Aq) AD AD Ep MH LG c7 rfl (qf DR rfl (qs WO rfl (AE (by kernel_rfl) (Ai As rfl (qf B7 rfl (ql Bg rfl (Fg AD Ep LG rfl ?_)))))))
    refine GK h fun c8 h => EM (f := Aq) AD AD Ep MH LG c8 rfl (qf B7 rfl (qs WO rfl (Ad (Ai As rfl (qm rfl (AT rfl (qe rfl ?_)))))))
    exact sn [(2004, 30), (2005, 35)] h
   ·refine AS ?_
    exact sn [(2006, 2004), (2007, 2005)] h
  ·refine Ah hs (wp rfl (qe rfl ?_))
   refine Ax (L := BD N p0) h (fun v9 => mk [(1, oD (.ptr 1 0)), (2, oD (.ptr 2 0)), (5, oD (.ptr 5 0)), (7, iD v9.2)] [(1, .box (Aj p0)), (2, .box [.pure (.nil0), .pure (.nil0), .pure (.nil0)]), (5, .box [.own 2010, .own 2011, .own 2012]), (2010, .vec 1 (v4.1.map Aq)), (2011, .vec 1 (v4.2.map Aq)), (2012, .vec 1 (v9.1.map Ex))]) (fun v10 => mk [(2, oD (.ptr 2 0)), (5, oD (.ptr 5 0))] [(2, .box [.pure (.nil0), .pure (.nil0), .pure (.nil0)]), (5, .box [.own 2013, .own 2014, .own 2015]), (2013, .vec 1 (v4.1.map Aq)), (2014, .vec 1 (v4.2.map Aq)), (2015, .vec 1 (v10.map Ex))]) (fun _ _ => rfl) ((Av 5 2 2019 1 _ rfl rfl rfl rfl).trans (sm [(2010, 2006), (2011, 2007), (2012, 2019)] _ _ rfl rfl)) (fun j9 n9 v9 h => ?_) (fun v10 s h hs => ?_)
   ·unfold BD at h
    refine wp rfl (qm rfl (qf BK rfl (ql GZ rfl (AV Dc rfl (AX rfl (Ad ?_))))))
    refine A9 h (fun h => ?_) fun h => ?_
    ·refine Al (AN (AG (wq rfl (qe rfl ?_))))
     refine AP h (fun v12 => mk [(1, oD (.ptr 1 0)), (2, oD (.ptr 2 0)), (5, oD (.ptr 5 0)), (7, iD v9.2), (8, pD (.val (.int .u8 v12)))] [(1, .box (Aj p0)), (2, .box [.pure (.nil0), .pure (.nil0), .pure (.nil0)]), (5, .box [.own 2016, .own 2017, .own 2018]), (2016, .vec 1 (v4.1.map Aq)), (2017, .vec 1 (v4.2.map Aq)), (2018, .vec 1 (v9.1.map Ex))]) (fun j12 h => ?_) (fun v12 h => ?_)
     ·refine wq rfl (qf BK rfl (ql GZ rfl (qm rfl ?_)))
      refine Bc h fun v13 a13 b13 h => qi Dc DB a13 (Ae b13) rfl (qK HZ DB rfl ?_)
      refine BM h fun v14 a14 h => Az [] (C8 N v13 v14 a14) Tk rfl (Ad ?_)
      refine A9 h (fun h => ?_) fun h => ?_
      ·refine Ai As rfl (qf HJ rfl (ql Bg rfl (qf BK rfl (ql GZ rfl (qm rfl ?_)))))
       refine Bc h fun v16 a16 b16 h => qi Dc DB a16 (Ae b16) rfl (qg Eu rfl (qk CN rfl ?_))
       refine Bc h fun v17 a17 b17 h => qi AD Ep a17 (Ae b17) rfl (qk CN rfl ?_)
       refine GK h fun c18 h => JR rfl c18 (qa rfl (AE (by kernel_rfl) ?_))
       exact sn [(2016, 2010), (2017, 2011), (2018, 2012)] h
      ·refine Al ?_
       exact sn [(2016, 2010), (2017, 2011), (2018, 2012)] h
     ·refine Ai As rfl (qf DQ rfl (ql I0 rfl (qm rfl (Fg E6 HQ S5 rfl ?_))))
      refine GK h fun c19 h => EM (f := Ex) E6 E6 HQ TV S5 c19 rfl (qf DQ rfl (qs fj rfl (Ad (Ai As rfl (qm rfl (AT rfl (qe rfl ?_)))))))
      exact sn [(2010, 2016), (2011, 2017), (2012, 65)] h
    ·refine AS ?_
     exact sn [(2013, 2010), (2014, 2011), (2015, 2012)] h
   ·refine Ah hs (wq rfl (qL BT AY rfl (qs AY rfl (qe rfl ?_))))
    obtain rfl := sj h
    refine Ah (sm [(1000, 2013), (1001, 2014), (1002, 2015)] [(2, oD (.ptr 2 0)), (3, iD 0)] [(2, .box [.own 1000, .own 1001, .own 1002]), (1000, .vec 1 (v4.1.map Aq)), (1001, .vec 1 (v4.2.map Aq)), (1002, .vec 1 (v10.map Ex))] rfl rfl) (Ar ?_)
    exact ⟨⟨[_, _], ⟨.cellN _ _ _ _ _ _ _ rfl rfl BT AY rfl rfl (IL rfl), tm⟩, rfl⟩, ⟨rfl, rfl, rfl, tv⟩⟩
theorem Ms (N : Nat) (p0 : Af) (r : Af) (h : FG N p0 = some r) : Au Tryz.prog 144 [.e (.agg (AL p0))] [(1, r.fG.map Aq), (1, r.fD.map Aq), (1, r.fH.map Ex)] (.e (.agg [.own 0, .own 1, .own 2])) := by
 unfold FG at h
 refine cw (n := 16) (rs := [.cell 2 64]) Tryz.func144 fun w0 S0 => ?_
 refine wq rfl (qb rfl (qz EJ rfl (Ad (wq rfl (Fg AD Ep LG rfl (qf DR rfl (ql Bg rfl ?_)))))))
 refine GK h fun c1 h => HT (f := Aq) AD AD Ep MH LG (fun _ => rfl) c1 rfl (Fg AD Ep LG rfl (qf B7 rfl (ql Bg rfl ?_)))
 refine GK h fun c2 h => HT (f := Aq) AD AD Ep MH LG (fun _ => rfl) c2 rfl (Fg E6 HQ S5 rfl (qf DQ rfl (ql I0 rfl ?_)))
 refine GK h fun c3 h => HT (f := Ex) E6 E6 HQ TV S5 (fun _ => rfl) c3 rfl (A6 EJ IZ rfl (qs AY rfl (AE (by kernel_rfl) ?_)))
 obtain rfl := sj h
 refine Ah (sm [(1000, 6), (1001, 10), (1002, 14)] [(2, oD (.ptr 2 0))] [(2, .box [.own 1000, .own 1001, .own 1002]), (1000, .vec 1 (((([] : List Int)) ++ p0.fG).map Aq)), (1001, .vec 1 (((([] : List Int)) ++ p0.fD).map Aq)), (1002, .vec 1 (((([] : List Int)) ++ p0.fH).map Ex))] rfl rfl) (Ar ?_)
 exact ⟨⟨[_], ⟨.cellN _ _ _ _ _ _ _ rfl rfl BT AY rfl rfl (IL rfl), tv⟩, rfl⟩, ⟨rfl, rfl, rfl, tv⟩⟩
theorem KR (N : Nat) (p0 : Af) (r : (List Af)) (h : ES N p0 = some r) : Au Tryz.prog 117 [.e (.agg (AL p0))] [(3, r.map Fc)] (oD (.own 0)) := by
 unfold ES at h
 refine cw (n := 62) (rs := [.tmp 2]) Tryz.func117 fun w0 S0 => ?_
 refine wq rfl (qb rfl (qa rfl (Ad (wq rfl (qa rfl (Ad (wp rfl (qe rfl ?_))))))))
 refine Ax (L := Dm N p0) h (fun v1 => mk [(1, oD (.ptr 1 0)), (3, iD v1.1), (4, iD v1.2)] [(1, .box (AL p0))]) (fun v2 => mk [(1, oD (.ptr 1 0)), (3, iD v2)] [(1, .box (AL p0))]) (fun _ _ => rfl) (sm [] _ _ rfl rfl) (fun j1 n1 v1 h => ?_) (fun v2 s h hs => ?_)
 ·unfold Dm at h
  refine wp rfl (qm rfl (qf B7 rfl (ql Bg rfl (AV AD rfl (AX rfl (Ad ?_))))))
  refine A9 h (fun h => ?_) fun h => ?_
  ·refine Al ?_
   refine AP h (fun v4 => mk [(1, oD (.ptr 1 0)), (3, iD v4), (4, iD v1.2)] [(1, .box (AL p0))]) (fun j4 h => ?_) (fun v4 h => ?_)
   ·refine AG (wq rfl (qf B7 rfl (ql Bg rfl (qm rfl ?_))))
    refine Bc h fun v5 a5 b5 h => qi AD Ep a5 (Ae b5) rfl (qk CN rfl (D4 rfl (Ad ?_)))
    refine A9 h (fun h => ?_) fun h => ?_
    ·refine Ai As rfl (qm rfl (AT rfl (qe rfl ?_)))
     exact sn [] h
    ·refine Al ?_
     exact sn [] h
   ·refine Ai As rfl (qm rfl (AT rfl (qe rfl ?_)))
    exact sn [] h
  ·refine AS ?_
   exact sn [] h
 ·refine Ah hs (wq rfl (qa rfl (Ad (wp rfl (qe rfl ?_)))))
  refine Ax (L := BV N p0 v2) h (fun v7 => mk [(1, oD (.ptr 1 0)), (3, iD v2), (5, oD (.own 2001)), (6, iD v7.2)] [(1, .box (AL p0)), (2001, .vec 3 (v7.1.map Fc))]) (fun v8 => mk [(5, oD (.own 2002))] [(2002, .vec 3 (v8.map Fc))]) (fun _ _ => rfl) ((Bl 5 2022 3 rfl rfl rfl).trans (sm [(2001, 2022)] _ _ rfl rfl)) (fun j7 n7 v7 h => ?_) (fun v8 s h hs => ?_)
  ·unfold BV at h
   refine wp rfl (qw 2 rfl ?_)
   refine GK h fun c9 h => JR rfl c9 (AX rfl (Ad ?_))
   refine A9 h (fun h => ?_) fun h => ?_
   ·refine Al (AN (AG (wq rfl (qL BT AY rfl ?_))))
    refine BM h fun v11 a11 h => Az [2003, 2004, 2005] (Ms N p0 v11 a11) dx rfl (qz EJ rfl (qs AY rfl (Ad (wq rfl (qa rfl (Ad (wp rfl (qe rfl ?_))))))))
    refine Ax (L := Ct N p0 v7) h (fun v12 => mk [(1, oD (.ptr 1 0)), (3, iD v2), (5, oD (.own 2009)), (6, iD v7.2), (7, oD (.ptr 7 0)), (8, iD v12.2.1), (9, iD v12.2.2)] [(1, .box (AL p0)), (7, .box [.own 2006, .own 2007, .own 2008]), (2006, .vec 1 (v11.fG.map Aq)), (2007, .vec 1 (v12.1.map Aq)), (2008, .vec 1 (v11.fH.map Ex)), (2009, .vec 3 (v7.1.map Fc))]) (fun v13 => mk [(1, oD (.ptr 1 0)), (3, iD v2), (5, oD (.own 2013)), (6, iD v7.2), (7, oD (.ptr 7 0))] [(1, .box (AL p0)), (7, .box [.own 2010, .own 2011, .own 2012]), (2010, .vec 1 (v11.fG.map Aq)), (2011, .vec 1 (v13.map Aq)), (2012, .vec 1 (v11.fH.map Ex)), (2013, .vec 3 (v7.1.map Fc))]) (fun _ _ => rfl) (sm [(2006, 2003), (2007, 2004), (2008, 2005), (2009, 2001)] _ _ rfl rfl) (fun j12 n12 v12 h => ?_) (fun v13 s h hs => ?_)
    ·unfold Ct at h
     refine wp rfl (qm rfl (qf B7 rfl (ql Bg rfl (AV AD rfl (AX rfl (Ad ?_))))))
     refine A9 h (fun h => ?_) fun h => ?_
     ·refine Al ?_
      refine AP h (fun v15 => mk [(1, oD (.ptr 1 0)), (3, iD v2), (5, oD (.own 2017)), (6, iD v7.2), (7, oD (.ptr 7 0)), (8, iD v15.2), (9, iD v12.2.2)] [(1, .box (AL p0)), (7, .box [.own 2014, .own 2015, .own 2016]), (2014, .vec 1 (v11.fG.map Aq)), (2015, .vec 1 (v15.1.map Aq)), (2016, .vec 1 (v11.fH.map Ex)), (2017, .vec 3 (v7.1.map Fc))]) (fun j15 h => ?_) (fun v15 h => ?_)
      ·refine AG (wp rfl (qf B7 rfl (ql Bg rfl (qm rfl ?_))))
       refine Bc h fun v16 a16 b16 h => qi AD Ep a16 (Ae b16) rfl (qk CN rfl (AX rfl (Ad ?_)))
       refine A9 h (fun h => ?_) fun h => ?_
       ·refine AS ?_
        exact sn [(2014, 2006), (2015, 2007), (2016, 2008), (2017, 2009)] h
       ·refine Al ?_
        refine AP h (fun v18 => mk [(1, oD (.ptr 1 0)), (3, iD v2), (5, oD (.own 2021)), (6, iD v7.2), (7, oD (.ptr 7 0)), (8, iD v12.2.1), (9, iD v12.2.2)] [(1, .box (AL p0)), (7, .box [.own 2018, .own 2019, .own 2020]), (2018, .vec 1 (v11.fG.map Aq)), (2019, .vec 1 (v18.map Aq)), (2020, .vec 1 (v11.fH.map Ex)), (2021, .vec 3 (v7.1.map Fc))]) (fun j18 h => ?_) (fun v18 h => ?_)
        ·refine wq rfl (qw 2 rfl ?_)
         refine GK h fun c19 h => Jf rfl c19 (OL rfl (by decide) (BZ rfl (Ad ?_)))
         refine A9 h (fun h => ?_) fun h => ?_
         ·refine Ai As rfl (qf B7 rfl (ql Bg rfl (qm rfl ?_)))
          refine Bc h fun v21 a21 b21 h => qI AD Ep a21 (Ae b21) rfl ?_
          refine Ba rfl rfl rfl rfl (Ae b21) rfl Ep rfl (DY rfl) (A2 Aq v12.1 _ ((-1))) ?_
          refine Ad ?_
          exact sn [(2018, 2006), (2019, 2007), (2020, 2008), (2021, 2009)] h
         ·refine Al ?_
          exact sn [(2018, 2006), (2019, 2007), (2020, 2008), (2021, 2009)] h
        ·refine Ai As rfl (qm rfl (AT rfl (qe rfl ?_)))
         exact sn [(2014, 2018), (2015, 2019), (2016, 2020), (2017, 2021)] h
      ·refine Ai As rfl (qm rfl (AT rfl (qe rfl ?_)))
       exact sn [(2006, 2014), (2007, 2015), (2008, 2016), (2009, 2017)] h
     ·refine AS ?_
      exact sn [(2010, 2006), (2011, 2007), (2012, 2008), (2013, 2009)] h
    ·refine Ah hs (Ai As rfl (qm rfl (qL BT AY rfl (EQ (Br 2010 _ _ rfl rfl) (EQ (Br 2011 _ _ rfl rfl) (EQ (Br 2012 _ _ rfl rfl) (Fg Jx AY EJ rfl ?_)))))))
     refine GK h fun c22 h => EM (f := Fc) Jx Jx AY aV EJ c22 rfl (qa rfl (Ad (Ai As rfl (qm rfl (AT rfl (qe rfl ?_))))))
     exact sn [(2001, 60)] h
   ·refine AS ?_
    exact sn [(2002, 2001)] h
  ·refine Ah hs (wq rfl (qm rfl (qe rfl ?_)))
   obtain rfl := sj h
   refine Ah (sm [(1000, 2002)] [(2, oD (.own 1000))] [(1000, .vec 3 (v8.map Fc))] rfl rfl) (Ar ?_)
   exact ⟨⟨[_], tm, rfl⟩, ⟨rfl, tv⟩⟩
theorem FK (N : Nat) (p0 : Af) (p1 : Int) (r : Int) (h : Cu N p0 p1 = some r) : Au Tryz.prog 142 [.e (.agg (AL p0)), iD p1] [] (pD (.val (.int .u8 r))) := by
 unfold Cu at h
 refine cw (n := 27) (rs := [.tmp 4]) Tryz.func142 fun w0 S0 => ?_
 refine wq rfl (qb rfl (qa rfl (Ad (wq rfl (qf DR rfl (ql Bg rfl (qm rfl ?_)))))))
 refine Bc h fun v1 a1 b1 h => qi AD Ep a1 (Ae b1) rfl (qk CN rfl ?_)
 refine GK h fun c2 h => JR rfl c2 (qe rfl ?_)
 refine AP h (fun v3 => mk [(5, pD (.val (.int .u8 v3)))] []) (fun j3 h => ?_) (fun v3 h => ?_)
 ·refine wq rfl (qf B7 rfl (ql Bg rfl (qm rfl ?_)))
  refine Bc h fun v4 a4 b4 h => qi AD Ep a4 (Ae b4) rfl (qk CN rfl (D4 rfl (Ad ?_)))
  refine A9 h (fun h => ?_) fun h => ?_
  ·refine Ai As rfl (qm rfl (qf B7 rfl (ql Bg rfl (qm rfl ?_))))
   refine Bc h fun v6 a6 b6 h => qi AD Ep a6 (Ae b6) rfl (qk CN rfl ?_)
   refine GK h fun c7 h => JR rfl c7 (Yz rfl (qe rfl ?_))
   exact sn [] h
  ·refine Al ?_
   exact sn [] h
 ·refine wq rfl (qm rfl (qe rfl ?_))
  obtain rfl := sj h
  refine Ah (sm [] [(4, pD (.val (.int .u8 v3)))] [] rfl rfl) (Ar ?_)
  exact ⟨⟨[_], tm, rfl⟩, tv⟩
theorem HN (N : Nat) (p0 : Int) (p1 : Int) (r : Bool) (h : Df N p0 p1 = some r) : Au Tryz.prog 143 [pD (.val (.int .u8 p0)), iD p1] [] (bD r) := by
 unfold Df at h
 refine cw (n := 10) (rs := [.tmp 4]) Tryz.func143 fun w0 S0 => ?_
 refine wq rfl (qa rfl (Ad (wq rfl (qw 2 rfl ?_))))
 refine GK h fun c1 h => Jf rfl c1 (OE rfl (BZ rfl (qe rfl ?_)))
 obtain rfl := sj h
 refine Ah (sm [] [(4, bD (((HI .u8 ((FU .u8 p0 p1)) 1) == 1)))] [] rfl rfl) (Ar ?_)
 exact ⟨⟨[_], tm, rfl⟩, tv⟩
theorem J5 (N : Nat) (p0 : Ac) (p1 : Af) (r : (List Aa)) (h : E0 N p0 p1 = some r) : Au Tryz.prog 116 [.e (.agg (Aj p0)), .e (.agg (AL p1))] [(3, r.map Ab)] (oD (.own 0)) := by
 unfold E0 at h
 refine cw (n := 111) (rs := [.tmp 4]) Tryz.func116 fun w0 S0 => ?_
 refine wq rfl (qb rfl (qb rfl (qa rfl (Ad (wq rfl (qa rfl (Ad (wp rfl (qe rfl ?_)))))))))
 refine Ax (L := Dw N p0 p1) h (fun v1 => mk [(2, oD (.ptr 2 0)), (3, oD (.ptr 3 0)), (5, oD (.own 2001)), (6, iD v1.2)] [(2, .box (Aj p0)), (3, .box (AL p1)), (2001, .vec 3 (v1.1.map Ab))]) (fun v2 => mk [(5, oD (.own 2002))] [(2002, .vec 3 (v2.map Ab))]) (fun _ _ => rfl) ((Bl 5 2013 3 rfl rfl rfl).trans (sm [(2001, 2013)] _ _ rfl rfl)) (fun j1 n1 v1 h => ?_) (fun v2 s h hs => ?_)
 ·unfold Dw at h
  refine wp rfl (qm rfl (qf BK rfl (ql GZ rfl (AV Dc rfl (AX rfl (Ad ?_))))))
  refine A9 h (fun h => ?_) fun h => ?_
  ·refine Al (AN (AG (wq rfl (qf BK rfl (ql GZ rfl (qm rfl ?_))))))
   refine Bc h fun v4 a4 b4 h => qi Dc DB a4 (Ae b4) rfl (qK HZ DB rfl (qz Kc rfl (qs DB rfl (Ad (wq rfl (qL BT AY rfl (qf Eu rfl (ql CN rfl ?_))))))))
   refine BM h fun v5 a5 h => Az [] (FK N p1 v4.fJ v5 a5) T2 rfl (qe rfl ?_)
   refine AP h (fun v6 => mk [(2, oD (.ptr 2 0)), (3, oD (.ptr 3 0)), (5, oD (.own 2003)), (6, iD v1.2), (7, oD (.ptr 7 0)), (8, pD (.val (.int .u8 v6)))] [(2, .box (Aj p0)), (3, .box (AL p1)), (7, .box (Bv v4)), (2003, .vec 3 (v1.1.map Ab))]) (fun j6 h => ?_) (fun v6 h => ?_)
   ·refine wq rfl (qL HZ DB rfl ?_)
    refine BM h fun v7 a7 h => Az [] (C8 N v4 v7 a7) Tk rfl (Ad ?_)
    refine A9 h (fun h => ?_) fun h => ?_
    ·refine Ai As rfl (qf DQ rfl (ql I0 rfl (qm rfl ?_)))
     refine Bc h fun v9 a9 b9 h => qi E6 HQ a9 (Ae b9) rfl (qk MP rfl (qe rfl ?_))
     exact sn [(2003, 2001)] h
    ·refine Al ?_
     exact sn [(2003, 2001)] h
   ·refine wq rfl (qe rfl ?_)
    refine Ax (L := B9 N p0 p1 v1 v4 v6) h (fun v10 => mk [(2, oD (.ptr 2 0)), (3, oD (.ptr 3 0)), (5, oD (.own 2004)), (6, iD v1.2), (7, oD (.ptr 7 0)), (8, pD (.val (.int .u8 v6))), (9, iD v10.2)] [(2, .box (Aj p0)), (3, .box (AL p1)), (7, .box (Bv v4)), (2004, .vec 3 (v10.1.map Ab))]) (fun v11 => mk [(2, oD (.ptr 2 0)), (3, oD (.ptr 3 0)), (5, oD (.own 2005)), (6, iD v1.2)] [(2, .box (Aj p0)), (3, .box (AL p1)), (2005, .vec 3 (v11.map Ab))]) (fun _ _ => rfl) (sm [(2004, 2003)] _ _ rfl rfl) (fun j10 n10 v10 h => ?_) (fun v11 s h hs => ?_)
    ·unfold B9 at h
     refine wp rfl (qm rfl (qf BH rfl (ql Bg rfl (qf Eu rfl (ql CN rfl ?_)))))
     refine Bc h fun v12 a12 b12 h => qi AD Ep a12 (Ae b12) rfl (qk CN rfl (AX rfl (Ad ?_)))
     refine A9 h (fun h => ?_) fun h => ?_
     ·refine Al ?_
      refine AP h (fun v14 => mk [(2, oD (.ptr 2 0)), (3, oD (.ptr 3 0)), (5, oD (.own 2006)), (6, iD v1.2), (7, oD (.ptr 7 0)), (8, pD (.val (.int .u8 v6))), (9, iD v10.2)] [(2, .box (Aj p0)), (3, .box (AL p1)), (7, .box (Bv v4)), (2006, .vec 3 (v14.map Ab))]) (fun j14 h => ?_) (fun v14 h => ?_)
      ·refine AG (wp rfl (qw 2 rfl ?_))
       refine BM h fun v15 a15 h => Az [] (HN N v6 v10.2 v15 a15) Wl rfl (CL rfl (Ad ?_))
       refine A9 h (fun h => ?_) fun h => ?_
       ·refine AS ?_
        exact sn [(2006, 2004)] h
       ·refine Al (wq rfl (qa rfl (Ad (wp rfl (qe rfl ?_)))))
        refine Ax (L := BI N p0 p1 v1 v4 v10) h (fun v17 => mk [(2, oD (.ptr 2 0)), (3, oD (.ptr 3 0)), (5, oD (.own 2007)), (6, iD v1.2), (7, oD (.ptr 7 0)), (8, pD (.val (.int .u8 v6))), (9, iD v10.2), (10, bD v17.2.1), (11, iD v17.2.2)] [(2, .box (Aj p0)), (3, .box (AL p1)), (7, .box (Bv v4)), (2007, .vec 3 (v17.1.map Ab))]) (fun v18 => mk [(2, oD (.ptr 2 0)), (3, oD (.ptr 3 0)), (5, oD (.own 2008)), (6, iD v1.2), (7, oD (.ptr 7 0)), (8, pD (.val (.int .u8 v6))), (9, iD v10.2), (10, bD v18.2)] [(2, .box (Aj p0)), (3, .box (AL p1)), (7, .box (Bv v4)), (2008, .vec 3 (v18.1.map Ab))]) (fun _ _ => rfl) (sm [(2007, 2004)] _ _ rfl rfl) (fun j17 n17 v17 h => ?_) (fun v18 s h hs => ?_)
        ·unfold BI at h
         refine wp rfl (qm rfl (qf BH rfl (ql Bg rfl (qf Ke rfl (ql CN rfl ?_)))))
         refine Bc h fun v19 a19 b19 h => qi AD Ep a19 (Ae b19) rfl (qk CN rfl (AX rfl (Ad ?_)))
         refine A9 h (fun h => ?_) fun h => ?_
         ·refine Al ?_
          refine AP h (fun v21 => mk [(2, oD (.ptr 2 0)), (3, oD (.ptr 3 0)), (5, oD (.own 2009)), (6, iD v1.2), (7, oD (.ptr 7 0)), (8, pD (.val (.int .u8 v6))), (9, iD v10.2), (10, bD v21.2), (11, iD v17.2.2)] [(2, .box (Aj p0)), (3, .box (AL p1)), (7, .box (Bv v4)), (2009, .vec 3 (v21.1.map Ab))]) (fun j21 h => ?_) (fun v21 h => ?_)
          ·refine AG (wp rfl (qL BT AY rfl (qf Ke rfl (ql CN rfl ?_))))
           refine BM h fun v22 a22 h => Az [] (FK N p1 v4.fO v22 a22) T2 rfl (qm rfl ?_)
           refine BM h fun v23 a23 h => Az [] (HN N v22 v17.2.2 v23 a23) Wl rfl (CL rfl (Ad ?_))
           refine A9 h (fun h => ?_) fun h => ?_
           ·refine AS ?_
            exact sn [(2009, 2007)] h
           ·refine Al ?_
            refine AP h (fun v25 => mk [(2, oD (.ptr 2 0)), (3, oD (.ptr 3 0)), (5, oD (.own 2010)), (6, iD v1.2), (7, oD (.ptr 7 0)), (8, pD (.val (.int .u8 v6))), (9, iD v10.2), (10, bD v25), (11, iD v17.2.2)] [(2, .box (Aj p0)), (3, .box (AL p1)), (7, .box (Bv v4)), (2010, .vec 3 (v17.1.map Ab))]) (fun j25 h => ?_) (fun v25 h => ?_)
            ·refine Ai As rfl (qw 2 rfl ?_)
             refine E8 67 h rfl (fun h => ?_) fun h => ?_
             ·refine qw 8 rfl (qp rfl (qe rfl ?_))
              exact sn [(2010, 2007)] h
             ·refine qf FB rfl (ql HR rfl (qm rfl ?_))
              refine Bc h fun v27 a27 b27 h => qi Ed I2 a27 (Ae b27) rfl (qk ML rfl (qm rfl ?_))
              refine Bc h fun v28 a28 b28 h => qi Ff Nv a28 (Ae b28) rfl (qk TD rfl (qp rfl (qe rfl ?_)))
              exact sn [(2010, 2007)] h
            ·refine AP h (fun v29 => mk [(2, oD (.ptr 2 0)), (3, oD (.ptr 3 0)), (5, oD (.own 2011)), (6, iD v1.2), (7, oD (.ptr 7 0)), (8, pD (.val (.int .u8 v6))), (9, iD v10.2), (10, bD v25), (11, iD v17.2.2), (90, bD v29)] [(2, .box (Aj p0)), (3, .box (AL p1)), (7, .box (Bv v4)), (2011, .vec 3 (v17.1.map Ab))]) (fun j29 h => ?_) (fun v29 h => ?_)
             ·refine Ai As rfl (qf K2 rfl (ql TD rfl (CL rfl (qm rfl ?_))))
              refine E8 80 h rfl (fun h => ?_) fun h => ?_
              ·refine qf FB rfl (ql HR rfl (qm rfl ?_))
               refine Bc h fun v31 a31 b31 h => qi Ed I2 a31 (Ae b31) rfl (qk ML rfl (qm rfl ?_))
               refine Bc h fun v32 a32 b32 h => qi Ff Nv a32 (Ae b32) rfl (qk TD rfl (CL rfl (qp rfl (Ad ?_))))
               exact sn [(2011, 2010)] h
              ·refine qw 9 rfl (qp rfl (Ad ?_))
               exact sn [(2011, 2010)] h
             ·refine A9 h (fun h => ?_) fun h => ?_
              ·refine Ai As rfl (qw 4 rfl (A6 GP M7 rfl (Fg AQ AM GP rfl ?_)))
               refine GK h fun c34 h => EM (f := Ab) AQ AQ AM Po GP c34 rfl (qe rfl ?_)
               exact sn [(2009, 97)] h
              ·refine Al ?_
               exact sn [(2009, 2011)] h
          ·refine Ai As rfl (qm rfl (AT rfl (qe rfl ?_)))
           exact sn [(2007, 2009)] h
         ·refine AS ?_
          exact sn [(2008, 2007)] h
        ·refine Ah hs ?_
         refine AP h (fun v35 => mk [(2, oD (.ptr 2 0)), (3, oD (.ptr 3 0)), (5, oD (.own 2012)), (6, iD v1.2), (7, oD (.ptr 7 0)), (8, pD (.val (.int .u8 v6))), (9, iD v10.2), (103, bD v35)] [(2, .box (Aj p0)), (3, .box (AL p1)), (7, .box (Bv v4)), (2012, .vec 3 (v18.1.map Ab))]) (fun j35 h => ?_) (fun v35 h => ?_)
         ·refine Ai As rfl (qf K2 rfl (ql TD rfl (qm rfl ?_)))
          refine E8 100 h rfl (fun h => ?_) fun h => ?_
          ·refine qm rfl (CL rfl (qp rfl (Ad ?_)))
           exact sn [(2012, 2008)] h
          ·refine qw 2 rfl (qp rfl (Ad ?_))
           exact sn [(2012, 2008)] h
         ·refine A9 h (fun h => ?_) fun h => ?_
          ·refine Ai As rfl (qw 3 rfl (A6 GP M7 rfl (Fg AQ AM GP rfl ?_)))
           refine GK h fun c38 h => EM (f := Ab) AQ AQ AM Po GP c38 rfl (qe rfl ?_)
           exact sn [(2006, 109)] h
          ·refine Al ?_
           exact sn [(2006, 2012)] h
      ·refine Ai As rfl (qm rfl (AT rfl (qe rfl ?_)))
       exact sn [(2004, 2006)] h
     ·refine AS ?_
      exact sn [(2005, 2004)] h
    ·refine Ah hs (Ai As rfl (qm rfl (AT rfl (qe rfl ?_))))
     exact sn [(2001, 2005)] h
  ·refine AS ?_
   exact sn [(2002, 2001)] h
 ·refine Ah hs (wq rfl (qm rfl (qe rfl ?_)))
  obtain rfl := sj h
  refine Ah (sm [(1000, 2002)] [(4, oD (.own 1000))] [(1000, .vec 3 (v2.map Ab))] rfl rfl) (Ar ?_)
  exact ⟨⟨[_], tm, rfl⟩, ⟨rfl, tv⟩⟩
theorem Mw (N : Nat) (p0 : Ac) (p1 : Af) (r : Bool) (h : FD N p0 p1 = some r) : Au Tryz.prog 118 [.e (.agg (Aj p0)), .e (.agg (AL p1))] [] (bD r) := by
 unfold FD at h
 refine cw (n := 10) (rs := [.tmp 4]) Tryz.func118 fun w0 S0 => ?_
 refine wq rfl (qb rfl (qb rfl (qa rfl (Ad (wq rfl (qL Db Cb rfl (qL BT AY rfl ?_)))))))
 refine BM h fun v1 a1 h => Az [2001] (J5 N p0 p1 v1 a1) ap rfl (DV AQ rfl (BZ rfl (qe rfl ?_)))
 obtain rfl := sj h
 refine Ah (sm [] [(4, bD (((v1.length : Int) == 0)))] [] rfl rfl) (Ar ?_)
 exact ⟨⟨[_], tm, rfl⟩, tv⟩
theorem Jl (N : Nat) (p0 : Ac) (p1 : Af) (r : Bool) (h : Ee N p0 p1 = some r) : Au Tryz.prog 84 [.e (.agg (Aj p0)), .e (.agg (AL p1))] [] (bD r) := by
 unfold Ee at h
 refine cw (n := 22) (rs := [.tmp 4]) Tryz.func84 fun w0 S0 => ?_
 refine wq rfl (qb rfl (qb rfl (qa rfl (Ad (wq rfl (qL BT AY rfl ?_))))))
 refine BM h fun v1 a1 h => Az [2001] (KR N p1 v1 a1) ao rfl (qa rfl (Ad (wp rfl (qe rfl ?_))))
 refine Ax (L := CJ N p0 v1) h (fun v2 => mk [(2, oD (.ptr 2 0)), (5, oD (.own 2002)), (6, iD v2)] [(2, .box (Aj p0)), (2002, .vec 3 (v1.map Fc))]) (fun v3 => mk [] []) (fun _ _ => rfl) (sm [(2002, 2001)] _ _ rfl rfl) (fun j2 n2 v2 h => ?_) (fun v3 s h hs => ?_)
 ·unfold CJ at h
  refine wp rfl (qw 2 rfl (DV Jx rfl (AX rfl (Ad ?_))))
  refine A9 h (fun h => ?_) fun h => ?_
  ·refine Al (AN (AG (wq rfl (qL Db Cb rfl (qw 2 rfl ?_)))))
   refine Bc h fun v5 a5 b5 h => qI Jx AY a5 (Ae b5) rfl (qJ BT AY (Ae b5) rfl ?_)
   refine BM h fun v6 a6 h => Az [] (Mw N p0 v5 v6 a6) cP rfl (CL rfl (AE (by kernel_rfl) ?_))
   refine A9 h (fun h => ?_) fun h => ?_
   ·refine wq rfl (qe rfl ?_)
    obtain rfl := sj h
    refine Ah (sm [] [(4, bD false)] [] rfl rfl) (Ar ?_)
    exact ⟨⟨[_], tm, rfl⟩, tv⟩
   ·refine Al (Ai As rfl (qm rfl (AT rfl (qe rfl ?_))))
    exact sn [] h
  ·refine AS ?_
   exact sn [] h
 ·refine Ah hs (wq rfl (qe rfl ?_))
  obtain rfl := sj h
  refine Ah (sm [] [(4, bD true)] [] rfl rfl) (Ar ?_)
  exact ⟨⟨[_], tm, rfl⟩, tv⟩
end Go.Lift
