/- Lemmas for UnblockWithSaid, which YtjpgllmfenogoaaGreatFinU6 proves. -/
import Derived.Test.YtjpgllmfenogoaaGreatLift35
import Derived.Test.YtjpgllmfenogoaaGreatProg
import Derived.KernelRfl
namespace Go.Lift
open Go.RowKit
variable {P : Program} {X : H3} {ops : Array Oper}
theorem NA {st : St} (b c : Nat) {e ix k e2 : Nat} {cols cols2 : List Ow} {rows rows2 rows' : List (List T)} {row : List T} (hb : st.bx b = some (.hol e cols ix k c rows)) (hc : st.bx c = some (D3 e2 cols2 rows2)) (hcol : cols.getD k .s = .x e2 cols2) (hrow : rows[ix]? = some row)
  (hbl : Bn b = false) (hcl : Bn c = false) (hr : rows.set ix (row.set k (.sl rows2)) = rows') : Fc P X st ⟨st.env, A6 st.bx [(b, .dvec e cols rows'), (c, .gone)]⟩ := by
 have hcb : c ≠ b := fun e' => by rw [e', hb] at hc; unfold D3 at hc; split at hc <;> cases hc
 subst hr
 rintro a w ⟨G, hs⟩
 obtain ⟨β, cap, arr, el, Rf, hβ, h1, h2, h3, h4, h5, h6, h7, h8, h9, h10, h11⟩ := hs.blk b _ hb
 have hX := KY (hs.blk c _ hc)
 have hre := h5 ix row hrow
 let G' : Gh := { G with more := fun d => if d = b then (fun γ => G.more b γ ∨ G.has c γ) else G.more d }
 have hcβ : ∀ γ, G.has c γ → γ ≠ β := fun γ h e' => hcb (hs.at_inj c b _ _ γ hc hb Cq rfl h (.inl (e' ▸ hβ)))
 have hbx : ∀ d, A6 st.bx [(b, .dvec e cols (rows.set ix (row.set k (.sl rows2)))), (c, .gone)] d = if d = b then some (.dvec e cols (rows.set ix (row.set k (.sl rows2)))) else if d = c then some .gone else st.bx d := fun d => rfl
 have hasO : ∀ d γ, d ≠ b → (G'.has d γ ↔ G.has d γ) := fun d γ h => by unfold Gh.has; simp only [G', if_neg h]
 have hasB : ∀ γ, G'.has b γ → G.has b γ ∨ G.has c γ := fun γ h => by
  unfold Gh.has at h
  simp only [G', if_true] at h
  rcases h with h | h | h
  ·exact .inl (.inl h)
  ·exact .inl (.inr h)
  ·exact .inr h
 refine ⟨G', ?_⟩
 refine hs.frame2 (fun d hd => ?_) (fun _ h => h) (fun _ _ => rfl) (fun _ _ => rfl) (fun _ _ => rfl) ?_ ?_ ?_ hs.S_lt hs.S_src hs.below (fun d hd => ?_)
 ·rw [hbx]; split
  ·rfl
  ·split
   ·rfl
   ·exact hd
 ·intro d kk hd
  rw [hbx] at hd
  split at hd
  ·rename_i e1; subst e1; cases hd
   refine .inr ⟨.inr ⟨β, cap, arr, el, fun i0 j0 γ => if i0 = ix ∧ j0 = k then G.has c γ else Rf i0 j0 γ, hβ, by rw [List.length_set]; exact h1, h2, by rw [List.length_set]; exact h3, h4, ?_, ?_, ?_, ?_, ?_⟩, fun c' hc' => by cases hc'⟩
   ·intro j0 row' hj
    rcases DP hj with ⟨_, rfl⟩ | ⟨_, hj⟩
    ·rw [List.length_set]; exact hre
    ·exact h5 j0 row' hj
   ·intro i0 row' j0 t0 hi hj
    have hj0 : j0 < e := by
     have := AA hj
     rcases DP hi with ⟨_, rfl⟩ | ⟨_, hi⟩
     ·rw [List.length_set] at this; omega
     ·have := h5 i0 row' hi; omega
    by_cases hh : i0 = ix ∧ j0 = k
    ·obtain ⟨rfl, rfl⟩ := hh
     rw [hcol]
     have ht0 : t0 = .sl rows2 := by
      rcases DP hi with ⟨_, rfl⟩ | ⟨hne, _⟩
      ·rcases DP hj with ⟨_, rfl⟩ | ⟨hne, _⟩
       ·rfl
       ·exact (hne rfl).elim
      ·exact (hne rfl).elim
     subst ht0
     rw [h10]
     exact hX.mono (fun _ _ => rfl) (fun _ h => h) (fun γ hγ => by simp only [and_self, if_true]; exact hγ)
    ·have hold : ∃ row0, rows[i0]? = some row0 ∧ row0[j0]? = some t0 := by
      rcases DP hi with ⟨hii, rfl⟩ | ⟨_, hi⟩
      ·subst hii
       rcases DP hj with ⟨hjj, _⟩ | ⟨_, hj⟩
       ·exact (hh ⟨rfl, hjj⟩).elim
       ·exact ⟨row, hrow, hj⟩
      ·exact ⟨row', hi, hj⟩
     obtain ⟨row0, q1, q2⟩ := hold
     exact (h6 i0 row0 j0 t0 q1 q2 hh).mono (fun _ _ => rfl) (fun _ h => h) (fun γ hγ => by simp only [if_neg hh]; exact hγ)
   ·intro i0 j0 γ hγ
    simp only [G', if_true]
    split at hγ
    ·exact .inr hγ
    ·exact .inl (h7 i0 j0 γ hγ)
   ·intro i0 j0 hγ
    split at hγ
    ·exact hcβ β hγ rfl
    ·exact h8 i0 j0 hγ
   ·intro i0 j0 i1 j1 γ hγ hγ'
    have cross : ∀ i j, Rf i j γ → G.has c γ → False := fun i j hr hh => hcb (hs.at_inj c d _ _ γ hc hb Cq rfl hh (.inr (h7 i j γ hr)))
    split at hγ <;> split at hγ'
    ·rename_i q q'; exact ⟨q.1.trans q'.1.symm, q.2.trans q'.2.symm⟩
    ·exact (cross _ _ hγ' hγ).elim
    ·exact (cross _ _ hγ hγ').elim
    ·exact h9 i0 j0 i1 j1 γ hγ hγ'
  ·rename_i e1
   split at hd
   ·cases hd; exact .inr ⟨trivial, fun c' hc' => by cases hc'⟩
   ·rename_i e2'
    exact .inl ⟨hd, by simp only [G', if_neg e1], fun _ _ _ => rfl⟩
 ·intro d kk γ hd hr hγ
  rw [hbx] at hd
  split at hd
  ·rename_i e1; subst e1
   rcases hasB γ hγ with h | h
   ·exact hs.at_ok d _ γ hb rfl h
   ·have := hs.at_ok c _ γ hc Cq h
    exact ⟨.new (this.1.1 hcl), this.2⟩
  ·rename_i e1
   split at hd
   ·cases hd; cases hr
   ·exact hs.at_ok d kk γ hd hr ((hasO d γ e1).1 hγ)
 ·intro d d' kk kk' γ hd hd' hr hr' hγ hγ'
  rw [hbx] at hd hd'
  have cl : ∀ d kk, (if d = b then some (Bo.dvec e cols (rows.set ix (row.set k (.sl rows2)))) else if d = c then some .gone else st.bx d) = some kk → kk.real = true → G'.has d γ → (d = b ∧ (G.has b γ ∨ G.has c γ)) ∨ (d ≠ b ∧ d ≠ c ∧ st.bx d = some kk ∧ G.has d γ) := by
   intro d kk hd hr hγ
   split at hd
   ·rename_i e1; subst e1; exact .inl ⟨rfl, hasB γ hγ⟩
   ·rename_i e1
    split at hd
    ·cases hd; cases hr
    ·rename_i e2'; exact .inr ⟨e1, e2', hd, (hasO d γ e1).1 hγ⟩
  rcases cl d kk hd hr hγ with ⟨q1, q2⟩ | ⟨q1, q2, q3, q4⟩ <;> rcases cl d' kk' hd' hr' hγ' with ⟨q1', q2'⟩ | ⟨q1', q2', q3', q4'⟩
  ·rw [q1, q1']
  ·rcases q2 with h | h
   ·exact (q1' (hs.at_inj d' b _ _ γ q3' hb hr' rfl q4' h)).elim
   ·exact (q2' (hs.at_inj d' c _ _ γ q3' hc hr' Cq q4' h)).elim
  ·rcases q2' with h | h
   ·exact (q1 (hs.at_inj d b _ _ γ q3 hb hr rfl q4 h)).elim
   ·exact (q2 (hs.at_inj d c _ _ γ q3 hc hr Cq q4 h)).elim
  ·exact hs.at_inj d d' kk kk' γ q3 q3' hr hr' q4 q4'
 ·have e1 : d ≠ b := fun e' => by rw [e', hbl] at hd; cases hd
  refine ⟨rfl, rfl, ?_⟩
  simp only [G', if_neg e1]
section run
variable {dr : Bool} {Q : St → Prop} {r i : Nat} {st : St} {log : List (Nat × CI)} {o : Oper} {gs : List (Operand × D)}
def RM (bx : Nat → Option Bo) : C → Ow → T → Prop
 | .pure u, .s, t => u = t
 | .own c, .x e2 cols2, .sl rows2 => bx c = some (D3 e2 cols2 rows2)
 | _, _, _ => False
def PO (bx : Nat → Option Bo) : Nat → List Ow → List C → List T → Prop
 | _, _, [], [] => True
 | j, cols, c :: cs, t :: ts => RM bx c (cols.getD j .s) t ∧ PO bx (j + 1) cols cs ts
 | _, _, _, _ => False
def MC : Nat → List Ow → List C → List T → List (Nat × Bo)
 | j, cols, .own c :: cs, .sl rows2 :: ts => (match cols.getD j .s with | .x e2 cols2 => [(c, D3 e2 cols2 rows2)] | .s => []) ++ MC (j + 1) cols cs ts
 | j, cols, _ :: cs, _ :: ts => MC (j + 1) cols cs ts
 | _, _, _, _ => []
theorem LX {bx : Nat → Option Bo} {cols : List Ow} : ∀ {cs : List C} {ts : List T} {j0 : Nat}, PO bx j0 cols cs ts → cs.length = ts.length ∧ ∀ (j : Nat) (c : C) (t : T), cs[j]? = some c → ts[j]? = some t → RM bx c (cols.getD (j0 + j) .s) t
 | [], [], _, _ => ⟨rfl, fun j c t h => by simp at h⟩
 | c :: cs, t :: ts, j0, h => by
  obtain ⟨g1, g2⟩ := LX h.2
  refine ⟨by simp [g1], fun j c' t' hc ht => ?_⟩
  cases j with
  | zero => simp at hc ht; subst hc; subst ht; exact h.1
  | succ j =>
   have := g2 j c' t' (by simpa using hc) (by simpa using ht)
   rwa [show j0 + 1 + j = j0 + (j + 1) from by omega] at this
end run
end Go.Lift
namespace Go.Lift
open List renaming mem_of_getElem? → lM
open Go.RowKit
variable {P : Program} {X : H3} {ops : Array Oper}
theorem Rg {e : Nat} {arr : Array Value} {v : Value} (ha : arr.size = 1 * e) (hv : v.cells.size = e) :
  ∃ arr', Instr.fill (fun i => some (i * e, e)) arr [(0, v)] = some arr' ∧ arr'.size = 1 * e ∧ ∀ j, j < e → Aw arr' j = Aw v.cells j := by
 refine ⟨Em arr 0 v.cells.toList, ?_, by rw [EC, ha], fun j hj => ?_⟩
 ·simp only [Instr.fill]
  rw [if_neg (by simp; omega), JZ]
  simp
 ·rw [DL _ _ _ _ (by simp; omega), if_pos (by simp; omega), El, Nat.sub_zero]
theorem Qt {bx : Nat → Option Bo} {c : C} {o : Ow} {t : T} (h : RM bx c o t) : (∃ u, c = .pure u ∧ o = .s ∧ t = u) ∨ ∃ b e2 cols2 rows2, c = .own b ∧ o = .x e2 cols2 ∧ t = .sl rows2 ∧ bx b = some (D3 e2 cols2 rows2) := by
 cases c with
 | pure u =>
  cases o with
  | s => exact .inl ⟨u, rfl, rfl, h.symm⟩
  | x e cols => exact h.elim
 | own b =>
  cases o with
  | s => exact h.elim
  | x e cols =>
   cases t with
   | sl rows2 => exact .inr ⟨b, e, cols, rows2, rfl, rfl, rfl, h⟩
   | _ => exact h.elim
 | _ => cases o <;> exact h.elim
section run
variable {dr : Bool} {Q : St → Prop} {r i : Nat} {st : St} {log : List (Nat × CI)} {o : Oper} {gs : List (Operand × D)}
def Di : List C → List Nat
 | [] => []
 | .own c :: cs => c :: Di cs
 | _ :: cs => Di cs
theorem FB {b : Nat} : ∀ {cs : List C}, b ∈ Di cs ↔ .own b ∈ cs
 | [] => by simp [Di]
 | c :: cs => by
  cases c <;> simp [Di, FB (cs := cs)]
theorem LB : ∀ {cs : List C}, (Di cs).Nodup → ∀ (j j' b : Nat), cs[j]? = some (.own b) → cs[j']? = some (.own b) → j = j'
 | [], _, j, j', b, h, _ => by simp at h
 | c :: cs, hn, j, j', b, h, h' => by
  have hn2 : (Di cs).Nodup := by
   cases c <;> simp only [Di] at hn <;> first | exact hn | exact (List.nodup_cons.1 hn).2
  have hnot : c = .own b → .own b ∉ cs := fun e hm => by
   subst e
   simp only [Di] at hn
   exact (List.nodup_cons.1 hn).1 (FB.2 hm)
  cases j with
  | zero =>
   cases j' with
   | zero => rfl
   | succ j' =>
    simp at h h'
    exact (hnot h (lM h')).elim
  | succ j =>
   cases j' with
   | zero =>
    simp at h h'
    exact (hnot h' (lM h)).elim
   | succ j' =>
    rw [LB hn2 j j' b (by simpa using h) (by simpa using h')]
theorem Hn {t el : TypeId} {s e : Nat} {z : Value} {y : Operand} {x : E} {cs : List C} {ts : List T} (cols : List Ow) (rb : List (Nat × Bo)) {parts : Array (Nat × Operand)} (hat : At st.env ops i X.n (.buildSlice t 1 parts) s gs) (hps : parts = #[(0, y)])
  (hx : opd st.env y = some (.e x)) (hcs : x.cells = cs) (hlen : cs.length = e) (hrb : MC 0 cols cs ts = rb) (hb : GF st.bx rb) (hcx : PO st.bx 0 cols cs ts) (hnew : st.bx s = none)
  (hnd : HQ (Di cs) = true) (hnl : (Di cs).all (fun c => !Bn c) = true) (ht : sliceB P t el = true) (he : Gu P el e = true) (hz : DX P el = some z) (hsm : e ≤ 16777216)
  (next : A5 P X ops dr Q r (i + 1) (CI.upd ⟨gs ++ [(y, .e x)], rb, some s, some (.e (.one (.own s))), (s, .dvec e cols [ts]) :: FY (Di cs), [s]⟩ st) ((i, ⟨gs ++ [(y, .e x)], rb, some s, some (.e (.one (.own s))), (s, .dvec e cols [ts]) :: FY (Di cs), [s]⟩) :: log)) : A5 P X ops dr Q (r + 1) i st log := by
 obtain ⟨o, ho, hop, hdst, hn, hg, hgp⟩ := hat.out
 have hndp := Hq hnd
 refine A5.step next ⟨Ap.2 ⟨hgp, hx, trivial⟩, hb, hnew, trivial⟩ (LR.value ho hg rfl hdst.symm (CS hdst hn) ?_)
 have hcx0 := LX hcx
 intro G st' a w hs hpre
 have hx := (Ap.1 hpre.r).2.1
 have hnew := hpre.n.1
 have hb := hpre.b
 have hpb : ∀ {l : List (Nat × Bo)}, GF st'.bx l → ∀ p, p ∈ l → st'.bx p.1 = some p.2 := by
  intro l
  induction l with
  | nil => intro _ p hp; cases hp
  | cons q l ih =>
   intro h p hp
   rcases List.mem_cons.1 hp with e | e
   ·subst e; exact h.1
   ·exact ih h.2 p e
 -- what each cell is, in this state
 have hown : ∀ (j : Nat) (c : C) (u : T), cs[j]? = some c → ts[j]? = some u → (∃ v, c = .pure v ∧ cols.getD j .s = .s ∧ u = v) ∨ ∃ b e2 cols2 rows2, c = .own b ∧ cols.getD j .s = .x e2 cols2 ∧ u = .sl rows2 ∧ st'.bx b = some (D3 e2 cols2 rows2) := by
  intro j c u hc hu
  have h1 := hcx0.2 j c u hc hu
  rw [Nat.zero_add] at h1
  rcases Qt h1 with h2 | ⟨b, e2, cols2, rows2, rfl, h3, rfl, _⟩
  ·exact .inl h2
  ·refine .inr ⟨b, e2, cols2, rows2, rfl, h3, rfl, ?_⟩
   have hmem : ∀ (cs : List C) (ts : List T) (j0 j : Nat), cs[j]? = some (.own b) → ts[j]? = some (.sl rows2) → cols.getD (j0 + j) .s = .x e2 cols2 → (b, D3 e2 cols2 rows2) ∈ MC j0 cols cs ts := by
    intro cs
    induction cs with
    | nil => intro ts j0 j h; simp at h
    | cons c cs ih =>
     intro ts j0 j h h' hcol
     cases ts with
     | nil => simp at h'
     | cons t ts =>
      cases j with
      | zero =>
       simp at h h'; subst h; subst h'
       rw [Nat.add_zero] at hcol
       simp only [MC, hcol]
       exact List.mem_append_left _ (by simp)
      | succ j =>
       have := ih ts (j0 + 1) j (by simpa using h) (by simpa using h') (by rwa [show j0 + 1 + j = j0 + (j + 1) from by omega])
       cases c <;> first | (simp only [MC]; exact this) | (cases t <;> simp only [MC] <;> first | exact this | exact List.mem_append_right _ this)
   have := hmem cs ts 0 j hc hu (by rw [Nat.zero_add]; exact h3)
   rw [hrb] at this
   exact hpb hb _ this
 obtain ⟨hcsz, hcr⟩ := (show Hu P w G (a.eval y) x from hs.opd hx).cells
 rw [hcs] at hcsz hcr
 have hve : (a.eval y).cells.size = e := by rw [hcsz, hlen]
 have hgn : ∀ c, c ∈ Di cs → ∃ (j e2 : Nat) (cols2 : List Ow) (rows2 : List (List T)), cs[j]? = some (.own c) ∧ cols.getD j .s = .x e2 cols2 ∧ st'.bx c = some (D3 e2 cols2 rows2) := by
  intro c hc
  obtain ⟨j, hj⟩ := List.mem_iff_getElem?.1 (FB.1 hc)
  have hjt : j < ts.length := by rw [← hcx0.1]; exact AA hj
  rcases hown j _ ts[j] hj (by simp [hjt]) with ⟨v, h, _⟩ | ⟨b, e2, cols2, rows2, h1, h2, _, h4⟩
  ·cases h
  ·cases h1; exact ⟨j, e2, cols2, rows2, hj, h2, h4⟩
 have hs0 : s ∉ Di cs := fun hm => by
  obtain ⟨_, _, _, _, _, _, h⟩ := hgn s hm
  rw [hnew] at h; cases h
 obtain ⟨arr', r1, r2, r3⟩ := Rg (e := e) (arr := (Array.range (1 * e)).map (fun k => (if 1 * e = 0 then (#[] : Array Value) else z.cells)[k % (if 1 * e = 0 then (#[] : Array Value) else z.cells).size]!)) (v := a.eval y) (by simp) hve
 let w' := w.alloc (.cells arr' el)
 let G' : Gh := { S := G.S, loc := fun c => if c = s then some w.heap.size else G.loc c, hd := fun c => if c = s then .slice (some ⟨w.heap.size, 0, none⟩) 1 1 else G.hd c, more := fun c => if c = s then (fun γ => ∃ b, b ∈ Di cs ∧ G.has b γ) else G.more c }
 have hheap : ∀ γ, γ < w.heap.size → w'.heap[γ]? = w.heap[γ]? := fun γ hγ => by show (w.alloc _).heap[γ]? = _; rw [CP, if_neg (by omega)]
 have hatw : w'.heap[w.heap.size]? = some (.cells arr' el) := by show (w.alloc _).heap[_]? = _; rw [CP, if_pos rfl]
 have hsz : w'.heap.size = w.heap.size + 1 := by show (w.heap.push _).size = _; simp
 have hbx : ∀ d, A6 st'.bx ((s, .dvec e cols [ts]) :: FY (Di cs)) d = if d = s then some (.dvec e cols [ts]) else if d ∈ Di cs then some .gone else st'.bx d := fun d => by
  simp only [A6]; split
  ·rfl
  ·exact Jp
 have hsome : ∀ c, (st'.bx c).isSome = true → c ≠ s := fun c hc e => by rw [e, hnew] at hc; cases hc
 have hasO : ∀ d γ, d ≠ s → (G'.has d γ ↔ G.has d γ) := fun d γ h => by unfold Gh.has; simp only [G', if_neg h]
 have hasS : ∀ γ, G'.has s γ → γ = w.heap.size ∨ ∃ b, b ∈ Di cs ∧ G.has b γ := fun γ h => by
  unfold Gh.has at h
  simp only [G', if_true] at h
  rcases h with h | h
  ·cases h; exact .inl rfl
  ·exact .inr h
 have hlt : ∀ b γ, b ∈ Di cs → G.has b γ → Mf X b γ ∧ γ < w.heap.size ∧ ¬ G.S γ := fun b γ hbm hγ => by
  obtain ⟨_, _, _, _, _, _, h⟩ := hgn b hbm
  exact hs.at_ok b _ γ h Cq hγ
 have hcsj : ∀ (j : Nat) (c : C), cs[j]? = some c → DS P w G (Aw (a.eval y).cells j) c := hcr
 have key : C0 P X G' ⟨st'.env, A6 st'.bx ((s, .dvec e cols [ts]) :: FY (Di cs))⟩ a w' := by
  refine hs.frame2 (fun d hd => ?_) (fun _ h => h) (fun c hc => by simp only [G']; rw [if_neg (hsome c hc)]) (fun c hc => by simp only [G']; rw [if_neg (hsome c hc)]) (fun γ hγ => hheap γ (hs.S_lt γ hγ)) ?_ ?_ ?_ (fun γ hγ => by have := hs.S_lt γ hγ; omega) hs.S_src (hs.below.alloc hs.below.size _) (fun d hd => ?_)
  ·rw [hbx]; split
   ·rfl
   ·split
    ·rfl
    ·exact hd
  ·intro d kk hd
   rw [hbx] at hd
   split at hd
   ·rename_i e1; subst e1; cases hd
    refine .inr ⟨.inr ⟨w.heap.size, 1, arr', el, fun i0 j0 γ => i0 = 0 ∧ ∃ b, cs[j0]? = some (.own b) ∧ G.has b γ, by simp [G'], by simp [G'], hatw, by simp, r2, ?_, ?_, ?_, ?_, ?_⟩, fun c' hc' => by cases hc'⟩
    ·intro i0 row hi
     cases i0 with
     | zero => simp at hi; subst hi; rw [← hcx0.1, hlen]
     | succ i0 => simp at hi
    ·intro i0 row j0 t0 hi hj
     cases i0 with
     | succ i0 => simp at hi
     | zero =>
      simp at hi; subst hi
      have hj0 : j0 < cs.length := by rw [hcx0.1]; exact AA hj
      have hcj : cs[j0]? = some cs[j0] := by simp [hj0]
      rw [Nat.zero_mul, Nat.zero_add, r3 j0 (by omega)]
      have hR := hcsj j0 _ hcj
      rcases hown j0 _ t0 hcj hj with ⟨v, h1, h2, h3⟩ | ⟨b, e2, cols2, rows2, h1, h2, h3, h4⟩
      ·rw [h2, h3]
       rw [h1] at hR
       exact .s ((show Do w G.S _ v from hR).mono (fun γ hγ => hheap γ (hs.S_lt γ hγ)) fun _ h => h)
      ·rw [h2, h3]
       rw [h1] at hR hcj
       have hvv : Aw (a.eval y).cells j0 = G.hd b := hR.1
       rw [hvv]
       refine (KY (hs.blk b _ h4)).mono (fun γ hγ => hheap γ ?_) (fun _ h => h) (fun γ hγ => ⟨rfl, b, hcj, hγ⟩)
       rcases hγ with h | h
       ·exact hs.S_lt γ h
       ·exact (hs.at_ok b _ γ h4 Cq h).2.1
    ·rintro i0 j0 γ ⟨_, b, hcb, hγ⟩
     simp only [G', if_true]
     exact ⟨b, FB.2 (lM hcb), hγ⟩
    ·rintro i0 j0 ⟨_, b, hcb, hγ⟩
     exact Nat.lt_irrefl _ (hlt b _ (FB.2 (lM hcb)) hγ).2.1
    ·rintro i0 j0 i1 j1 γ ⟨q0, b, hcb, hγ⟩ ⟨q1, b', hcb', hγ'⟩
     refine ⟨q0.trans q1.symm, ?_⟩
     obtain ⟨_, _, _, _, _, _, k1⟩ := hgn b (FB.2 (lM hcb))
     obtain ⟨_, _, _, _, _, _, k2⟩ := hgn b' (FB.2 (lM hcb'))
     have := hs.at_inj b b' _ _ γ k1 k2 Cq Cq hγ hγ'
     subst this
     exact LB hndp _ _ b hcb hcb'
   ·rename_i e1
    split at hd
    ·cases hd; exact .inr ⟨trivial, fun c' hc' => by cases hc'⟩
    ·exact .inl ⟨hd, by simp only [G', if_neg e1], fun γ hr hγ => hheap γ (hs.at_ok d kk γ hd hr hγ).2.1⟩
  ·intro d kk γ hd hr hγ
   rw [hbx] at hd
   split at hd
   ·rename_i e1; subst e1
    rcases hasS γ hγ with h | ⟨b, hbm, h⟩
    ·subst h
     exact ⟨.new hs.below.size, by omega, fun h => Nat.lt_irrefl _ (hs.S_lt _ h)⟩
    ·have := hlt b γ hbm h
     have hbl : Bn b = false := by
      have := List.all_eq_true.1 hnl b hbm
      simpa using this
     exact ⟨.new (this.1.1 hbl), by omega, this.2.2⟩
   ·rename_i e1
    split at hd
    ·cases hd; cases hr
    ·have := hs.at_ok d kk γ hd hr ((hasO d γ e1).1 hγ)
     exact ⟨this.1, by omega, this.2.2⟩
  ·intro d d' kk kk' γ hd hd' hr hr' hγ hγ'
   rw [hbx] at hd hd'
   have cl : ∀ d kk, (if d = s then some (Bo.dvec e cols [ts]) else if d ∈ Di cs then some .gone else st'.bx d) = some kk → kk.real = true → G'.has d γ → (d = s ∧ (γ = w.heap.size ∨ ∃ b, b ∈ Di cs ∧ G.has b γ)) ∨ (d ≠ s ∧ d ∉ Di cs ∧ st'.bx d = some kk ∧ G.has d γ) := by
    intro d kk hd hr hγ
    split at hd
    ·rename_i e1; subst e1; exact .inl ⟨rfl, hasS γ hγ⟩
    ·rename_i e1
     split at hd
     ·cases hd; cases hr
     ·rename_i e2'; exact .inr ⟨e1, e2', hd, (hasO d γ e1).1 hγ⟩
   have cross : ∀ d kk, d ∉ Di cs → st'.bx d = some kk → kk.real = true → G.has d γ → (γ = w.heap.size ∨ ∃ b, b ∈ Di cs ∧ G.has b γ) → False := by
    intro d kk hdm hd hr hγ h
    rcases h with h | ⟨b, hbm, h⟩
    ·have := (hs.at_ok d kk γ hd hr hγ).2.1; omega
    ·obtain ⟨_, _, _, _, _, _, k1⟩ := hgn b hbm
     exact hdm (hs.at_inj d b _ _ γ hd k1 hr Cq hγ h ▸ hbm)
   rcases cl d kk hd hr hγ with ⟨q1, q2⟩ | ⟨q1, q2, q3, q4⟩ <;> rcases cl d' kk' hd' hr' hγ' with ⟨q1', q2'⟩ | ⟨q1', q2', q3', q4'⟩
   ·rw [q1, q1']
   ·exact (cross d' kk' q2' q3' hr' q4' q2).elim
   ·exact (cross d kk q2 q3 hr q4 q2').elim
   ·exact hs.at_inj d d' kk kk' γ q3 q3' hr hr' q4 q4'
  ·have e1 : d ≠ s := fun e' => by rw [e', hs.nl hn] at hd; cases hd
   refine ⟨?_, ?_, ?_⟩ <;> simp only [G', if_neg e1]
 refine ⟨.slice (some ⟨w.heap.size, 0, none⟩) 1 1, w', G', ?_, key, ?_⟩
 ·simp only [execOp, hop, hps]
  refine Am (w1 := w') (a := .slice (some ⟨w.heap.size, 0, none⟩) 1 1) ?_ rfl
  have hpa : ((#[(0, y)] : Array (Nat × Operand)).map fun (i, x) => (i, a.eval x)) = #[(0, a.eval y)] := by simp
  unfold sliceB at ht
  split at ht
  ·rename_i e' hu
   have : e' = el := by simpa using ht
   subst this
   rw [hpa]
   unfold Instr.buildSlice
   refine Am (AF hu w) ?_
   refine Am (DE he w) ?_
   rw [if_neg (by omega)]
   by_cases hne : 1 * e = 0
   ·rw [if_pos hne] at r1
    rw [if_pos hne]
    refine Am (a := (#[] : Array Value)) (w1 := w) rfl ?_
    simp only [r1]
    rfl
   ·rw [if_neg hne] at r1
    rw [if_neg hne]
    refine Am (Ej hz w) ?_
    refine Am (a := z.cells) (w1 := w) rfl ?_
    simp only [r1]
    rfl
  ·cases ht
 ·rintro d ⟨⟩
  refine ⟨⟨by simp [G'], _, _, _, rfl⟩, fun b hb => ?_⟩
  have : b = s := by simpa [D.names, E.names, C.names] using hb
  subst this
  rw [hbx, if_pos rfl]; rfl
end run
end Go.Lift
namespace Go.Lift
open Go.RowKit
variable {P : Program} {X : H3} {ops : Array Oper}
theorem LT {α : Type} (f : α → List T) (xs : List α) (n e : Nat) (cols : List Ow) : vl (.pvec n e cols (xs.map f)) = some (e, xs.length) := by simp [vl]
theorem Mb {st : St} (b : Nat) (k k' : Bo) (hb : st.bx b = some k) (hr : k.real = true) (hn : k'.names = []) (h : ∀ (w : World) (G : Gh), DQ P w G b k → DQ P w G b k') : Fc P X st (St.setB st b k') := by
 rintro a w ⟨G, hs⟩
 refine ⟨G, hs.frame (bx' := (St.setB st b k').bx) ?_ ⟨fun _ h => h, fun _ _ => rfl, fun _ _ => rfl, fun _ _ => rfl⟩ (fun _ _ => rfl) ?_ ?_ ?_ hs.S_lt hs.S_src hs.below (fun _ _ => ⟨rfl, rfl, rfl⟩)⟩
 ·intro c hc; simp only [St.setB]; split <;> simp [hc]
 ·intro c kk hc
  simp only [St.setB] at hc
  split at hc
  ·rename_i e1; subst e1; cases hc
   exact .inr ⟨h w G (hs.blk c _ hb), fun c' hc' => by rw [hn] at hc'; cases hc'⟩
  ·exact .inl ⟨hc, fun _ _ _ => rfl⟩
 ·intro c kk β hc hr' hβ
  simp only [St.setB] at hc
  split at hc
  ·rename_i e1; subst e1; exact hs.at_ok _ _ β hb hr hβ
  ·exact hs.at_ok c kk β hc hr' hβ
 ·intro c c' kk kk' β hc hc' hr1 hr2 hβ hβ'
  simp only [St.setB] at hc hc'
  have old : ∀ c kk, (if c = b then some k' else st.bx c) = some kk → kk.real = true → ∃ k0, st.bx c = some k0 ∧ k0.real = true := by
   intro c kk hc hr'
   split at hc
   ·rename_i e1; subst e1; exact ⟨_, hb, hr⟩
   ·exact ⟨kk, hc, hr'⟩
  obtain ⟨k0, q1, q2⟩ := old c kk hc hr1
  obtain ⟨k0', q1', q2'⟩ := old c' kk' hc' hr2
  exact hs.at_inj c c' k0 k0' β q1 q1' q2 q2' hβ hβ'
theorem OU {st : St} (b e : Nat) (cols : List Ow) (rows : List (List T)) (hb : st.bx b = some (.vec e rows)) : Fc P X st (St.setB st b (.pvec 0 e cols rows)) :=
 Mb b _ _ hb rfl rfl fun _ _ h => ⟨Nat.zero_le _, h.imp id fun ⟨β, cap, arr, el, h0, h1, h2, h3, h4, h5, h6⟩ =>
  ⟨β, cap, arr, el, fun _ _ _ => False, h0, h1, h2, h3, h4, h5, fun i row j t hi hj => by rw [if_neg (by omega)]; exact .s (h6 i row j t hi hj), fun _ _ _ h => h.elim, fun _ _ h => h, fun _ _ _ _ _ h => h.elim⟩⟩
theorem O0 {st : St} (b : Nat) {n m e : Nat} {cols : List Ow} {rows : List (List T)} (hb : st.bx b = some (.pvec n e cols rows)) (h : n = m) : Fc P X st (St.setB st b (.pvec m e cols rows)) :=
 Mb b _ _ hb rfl rfl fun _ _ hk => h ▸ hk
theorem Pm {st : St} (b : Nat) {n e : Nat} {cols : List Ow} {rows : List (List T)} (hb : st.bx b = some (.pvec n e cols rows)) (h : n = rows.length) : Fc P X st (St.setB st b (.dvec e cols rows)) :=
 Mb b _ _ hb rfl rfl fun _ _ hk => by
  obtain ⟨_, hk⟩ := hk
  refine hk.imp id fun ⟨β, cap, arr, el, Rf, h0, h1, h2, h3, h4, h5, h6, h7⟩ => ⟨β, cap, arr, el, Rf, h0, h1, h2, h3, h4, h5, fun i row j t hi hj => ?_, h7⟩
  have := h6 i row j t hi hj
  rwa [if_pos (by rw [h]; exact AA hi)] at this
section run
variable {dr : Bool} {Q : St → Prop} {r i : Nat} {st : St} {log : List (Nat × CI)} {o : Oper} {gs : List (Operand × D)}
theorem Po {x : Operand} {b n e ix k s : Nat} {cols : List Ow} {rows : List (List T)} {row : List T} {u : T} {t : TypeId} (hat : At st.env ops i X.n (.load t x) s gs)
  (hx : opd st.env x = some (.e (.one (.eptr b e ix k)))) (ht : EQ P t false = true) (hb : st.bx b = some (.pvec n e cols rows)) (hrow : rows[ix]? = some row) (hc : row[k]? = some u) (hn : n ≤ ix)
  (next : A5 P X ops dr Q r (i + 1) (CI.upd ⟨gs ++ [(x, .e (.one (.eptr b e ix k)))], [(b, .pvec n e cols rows)], some s, some (one u), [], []⟩ st) ((i, ⟨gs ++ [(x, .e (.one (.eptr b e ix k)))], [(b, .pvec n e cols rows)], some s, some (one u), [], []⟩) :: log)) : A5 P X ops dr Q (r + 1) i st log := by
 obtain ⟨o, ho, hop, hd, hn', hg, hgp⟩ := hat.out
 refine A5.step next ⟨Ap.2 ⟨hgp, hx, trivial⟩, ⟨hb, trivial⟩, trivial⟩ (LR.value ho hg rfl hd.symm (CS hd hn') ?_)
 intro G st a w hs hpre
 have hx := (Ap.1 hpre.r).2.1
 have hb := hpre.b.1
 obtain ⟨β, hβ, hv⟩ : DS P w G (a.eval x) (.eptr b e ix k) := hs.opd hx
 obtain ⟨_, hbk⟩ := hs.blk b _ hb
 obtain ⟨β', cap, arr, el, Rf, h0, h1, h2, h3, h4, h5, h6, h7⟩ := hbk.resolve_left (fun ⟨_, _, h, _⟩ => by rw [h] at hrow; cases hrow)
 rw [hβ] at h0; cases h0
 have hre := h5 ix row hrow
 have hk := AA hc
 have hix := AA hrow
 have hbnd : ix * e + e ≤ arr.size := by rw [h4, ← Nat.succ_mul]; exact Nat.mul_le_mul_right e (Nat.le_trans hix h3)
 have hcell := h6 ix row k u hrow hc
 rw [if_neg (by omega)] at hcell
 refine ⟨Aw arr (ix * e + k), w, G, ?_, hs, ?_⟩
 ·simp only [execOp, hop, hv]
  exact Am (Hp ht h2 (by omega)) rfl
 ·rintro d ⟨⟩
  cases hcell with
  | s h => exact ⟨h, fun b hb => by cases hb⟩
theorem Nu {x y : Operand} {b c n ix e2 : Nat} {cols cols2 : List Ow} {rows rows2 rows' : List (List T)} {row : List T} {t : TypeId} (hat : M1 ops i = some (.store t x y))
  (hx : opd st.env x = some (.e (.one (.eptr b 1 ix 0)))) (hy : opd st.env y = some (.e (.one (.own c)))) (hb : st.bx b = some (.pvec n 1 cols rows)) (hc : st.bx c = some (D3 e2 cols2 rows2)) (hcol : cols.getD 0 .s = .x e2 cols2) (hrow : rows[ix]? = some row) (hixn : n = ix) (hz : Gu P t 1 = true)
  (hbl : Bn b = false) (hcl : Bn c = false) (hr : rows.set ix (row.set 0 (.sl rows2)) = rows')
  (next : A5 P X ops dr Q r (i + 1) (CI.upd ⟨[(x, .e (.one (.eptr b 1 ix 0))), (y, .e (.one (.own c)))], [(b, .pvec n 1 cols rows), (c, D3 e2 cols2 rows2)], none, none, [(b, .pvec (n + 1) 1 cols rows'), (c, .gone)], []⟩ st) ((i, ⟨[(x, .e (.one (.eptr b 1 ix 0))), (y, .e (.one (.own c)))], [(b, .pvec n 1 cols rows), (c, D3 e2 cols2 rows2)], none, none, [(b, .pvec (n + 1) 1 cols rows'), (c, .gone)], []⟩) :: log)) : A5 P X ops dr Q (r + 1) i st log := by
 obtain ⟨o, ho, hop, hd, hgn⟩ := JY hat
 have hg : QF ops o [] := .none hgn
 have hcb : c ≠ b := fun e' => by rw [e', hb] at hc; unfold D3 at hc; split at hc <;> cases hc
 refine A5.step next ⟨⟨hx, hy, trivial⟩, ⟨hb, hc, trivial⟩, trivial⟩ (LR.skip (rs := [(x, .e (.one (.eptr b 1 ix 0))), (y, .e (.one (.own c)))]) ho hg rfl hd rfl ?_)
 intro G st a w hs hpre
 obtain ⟨hx, hy, _⟩ := hpre.r
 obtain ⟨hb, hc, _⟩ := hpre.b
 subst hr
 obtain ⟨β, hβ, hv⟩ : DS P w G (a.eval x) (.eptr b 1 ix 0) := hs.opd hx
 obtain ⟨hy1, pp, pn, pq, hy2⟩ : DS P w G (a.eval y) (.own c) := hs.opd hy
 obtain ⟨hnl, hbk⟩ := hs.blk b _ hb
 obtain ⟨β', cap, arr, el, Rf, h0, h1, h2, h3, h4, h5, h6, h7, h8, h9⟩ := hbk.resolve_left (fun ⟨_, _, h, _⟩ => by rw [h] at hrow; cases hrow)
 rw [hβ] at h0; cases h0
 subst hixn
 have hX := KY (hs.blk c _ hc)
 have hatb := hs.at_ok b _ β hb rfl (.inl hβ)
 have hre := h5 n row hrow
 have hix := AA hrow
 have hbnd : n * 1 + 1 ≤ arr.size := by rw [h4, ← Nat.succ_mul]; exact Nat.mul_le_mul_right 1 (Nat.le_trans hix h3)
 have hone : Gl (a.eval y) = true := by rw [hy2]; rfl
 have hst := DF (P := P) (β := β) (el := el) [a.eval y] w (n * 1 + 0) 0 arr h2 (by simp; omega) (fun v hv => by simp at hv; subst hv; exact hone)
 rw [Nat.add_zero] at hst
 let G' : Gh := { G with more := fun d => if d = b then (fun γ => G.more b γ ∨ G.has c γ) else G.more d }
 let arr' := Em arr (n * 1 + 0) [a.eval y]
 let w' := EE w β (.cells arr' el (0, 0))
 have hover : ∀ j, Aw arr' j = if j = n * 1 + 0 then a.eval y else Aw arr j := fun j => by
  show Aw (Em arr (n * 1 + 0) [a.eval y]) j = _
  rw [DL _ _ _ _ (by simp; omega)]
  simp only [List.length_singleton]
  by_cases hj : j = n * 1 + 0
  ·subst hj; rw [if_pos (by omega), if_pos rfl]; simp
  ·rw [if_neg (by omega), if_neg hj]
 have hheap : ∀ γ, γ ≠ β → w'.heap[γ]? = w.heap[γ]? := fun γ hγ => by show (EE w β _).heap[γ]? = _; rw [C7, if_neg (fun h => hγ h.1)]
 have hsz : w'.heap.size = w.heap.size := by show (EE w β _).heap.size = _; simp [EE]
 have hcβ : ∀ γ, G.has c γ → γ ≠ β := fun γ h e' => hcb (hs.at_inj c b _ _ γ hc hb Cq rfl h (.inl (e' ▸ hβ)))
 have hbx : ∀ d, A6 st.bx [(b, .pvec (n + 1) 1 cols (rows.set n (row.set 0 (.sl rows2)))), (c, .gone)] d = if d = b then some (.pvec (n + 1) 1 cols (rows.set n (row.set 0 (.sl rows2)))) else if d = c then some .gone else st.bx d := fun d => rfl
 have hasO : ∀ d γ, d ≠ b → (G'.has d γ ↔ G.has d γ) := fun d γ h => by unfold Gh.has; simp only [G', if_neg h]
 have hasB : ∀ γ, G'.has b γ → G.has b γ ∨ G.has c γ := fun γ h => by
  unfold Gh.has at h
  simp only [G', if_true] at h
  rcases h with h | h | h
  ·exact .inl (.inl h)
  ·exact .inl (.inr h)
  ·exact .inr h
 have hix2 : ∀ i0 j0, j0 < 1 → i0 * 1 + j0 = n * 1 + 0 → i0 = n ∧ j0 = 0 := by
  intro i0 j0 hj0 he
  rcases Nat.lt_trichotomy i0 n with h | h | h
  ·have : i0 * 1 + 1 ≤ n * 1 := by rw [← Nat.succ_mul]; exact Nat.mul_le_mul_right 1 h
   omega
  ·subst h; exact ⟨rfl, by omega⟩
  ·have : n * 1 + 1 ≤ i0 * 1 := by rw [← Nat.succ_mul]; exact Nat.mul_le_mul_right 1 h
   omega
 refine ⟨w', G', ?_, ?_⟩
 ·simp only [execOp, hop, hv]
  have hcells : (a.eval y).cells.toList = [a.eval y] := by rw [hy2]; rfl
  refine Am (a := ()) (w1 := w') ?_ rfl
  have := Ib (P := P) (n := 1) hz (v := a.eval y) (by rw [hy2]; rfl) h2 (show n * 1 + 0 + 1 ≤ arr.size by omega) (fun u hu => by rw [hcells] at hu; simp at hu; subst hu; exact hone)
  rw [hcells] at this
  exact this
 ·refine hs.frame2 (fun d hd => ?_) (fun _ h => h) (fun _ _ => rfl) (fun _ _ => rfl) (fun γ hγ => hheap γ fun e' => hatb.2.2 (e' ▸ hγ)) ?_ ?_ ?_ (fun γ hγ => by rw [hsz]; exact hs.S_lt γ hγ) hs.S_src (HZ hs.below hatb.1.2 _) (fun d hd => ?_)
  ·rw [hbx]; split
   ·rfl
   ·split
    ·rfl
    ·exact hd
  ·intro d kk hd
   rw [hbx] at hd
   split at hd
   ·rename_i e1; subst e1; cases hd
    refine .inr ⟨⟨by rw [List.length_set]; exact AA hrow, .inr ⟨β, cap, arr', el, fun i0 j0 γ => if i0 = n ∧ j0 = 0 then G.has c γ else Rf i0 j0 γ, hβ, by rw [List.length_set]; exact h1, by show (EE w β _).heap[β]? = _; rw [C7, if_pos ⟨rfl, hatb.2.1⟩], by rw [List.length_set]; exact h3, by show (Em _ _ _).size = _; rw [EC, h4], ?_, ?_, ?_, ?_, ?_⟩⟩, fun c' hc' => by cases hc'⟩
    ·intro j0 row' hj
     rcases DP hj with ⟨_, rfl⟩ | ⟨_, hj⟩
     ·rw [List.length_set]; exact hre
     ·exact h5 j0 row' hj
    ·intro i0 row' j0 t0 hi hj
     have hj0 : j0 < 1 := by
      have := AA hj
      rcases DP hi with ⟨_, rfl⟩ | ⟨_, hi⟩
      ·rw [List.length_set] at this; omega
      ·have := h5 i0 row' hi; omega
     rw [hover]
     by_cases hh : i0 = n ∧ j0 = 0
     ·obtain ⟨rfl, rfl⟩ := hh
      rw [if_pos rfl, hcol]
      have ht0 : t0 = .sl rows2 := by
       rcases DP hi with ⟨_, rfl⟩ | ⟨hne, _⟩
       ·rcases DP hj with ⟨_, rfl⟩ | ⟨hne, _⟩
        ·rfl
        ·exact (hne rfl).elim
       ·exact (hne rfl).elim
      subst ht0
      rw [hy1, if_pos (Nat.lt_succ_self _)]
      refine hX.mono (fun γ hγ => hheap γ ?_) (fun _ h => h) (fun γ hγ => by simp only [and_self, if_true]; exact hγ)
      rcases hγ with h | h
      ·exact fun e' => hatb.2.2 (e' ▸ h)
      ·exact hcβ γ h
     ·rw [if_neg (fun h => hh (hix2 i0 j0 hj0 h))]
      have hold : ∃ row0, rows[i0]? = some row0 ∧ row0[j0]? = some t0 := by
       rcases DP hi with ⟨hii, rfl⟩ | ⟨_, hi⟩
       ·subst hii
        rcases DP hj with ⟨hjj, _⟩ | ⟨_, hj⟩
        ·exact (hh ⟨rfl, hjj⟩).elim
        ·exact ⟨row, hrow, hj⟩
       ·exact ⟨row', hi, hj⟩
      obtain ⟨row0, q1, q2⟩ := hold
      have hne : i0 ≠ n := fun e' => hh ⟨e', by omega⟩
      have hif : (if i0 < n + 1 then cols.getD j0 .s else .s) = if i0 < n then cols.getD j0 .s else .s := by
       by_cases hl : i0 < n
       ·rw [if_pos hl, if_pos (by omega)]
       ·rw [if_neg hl, if_neg (by omega)]
      rw [hif]
      refine (h6 i0 row0 j0 t0 q1 q2).mono (fun γ hγ => hheap γ ?_) (fun _ h => h) (fun γ hγ => by simp only [if_neg hh]; exact hγ)
      rcases hγ with h | h
      ·exact fun e' => hatb.2.2 (e' ▸ h)
      ·exact fun e' => h8 i0 j0 (e' ▸ h)
    ·intro i0 j0 γ hγ
     simp only [G', if_true]
     split at hγ
     ·exact .inr hγ
     ·exact .inl (h7 i0 j0 γ hγ)
    ·intro i0 j0 hγ
     split at hγ
     ·exact hcβ β hγ rfl
     ·exact h8 i0 j0 hγ
    ·intro i0 j0 i1 j1 γ hγ hγ'
     have cross : ∀ i j, Rf i j γ → G.has c γ → False := fun i j hr hh => hcb (hs.at_inj c d _ _ γ hc hb Cq rfl hh (.inr (h7 i j γ hr)))
     split at hγ <;> split at hγ'
     ·rename_i q q'; exact ⟨q.1.trans q'.1.symm, q.2.trans q'.2.symm⟩
     ·exact (cross _ _ hγ' hγ).elim
     ·exact (cross _ _ hγ hγ').elim
     ·exact h9 i0 j0 i1 j1 γ hγ hγ'
   ·rename_i e1
    split at hd
    ·cases hd; exact .inr ⟨trivial, fun c' hc' => by cases hc'⟩
    ·rename_i e2'
     refine .inl ⟨hd, by simp only [G', if_neg e1], fun γ hr hγ => hheap γ fun e' => e1 (hs.at_inj d b kk _ γ hd hb hr rfl hγ (.inl (e' ▸ hβ)))⟩
  ·intro d kk γ hd hr hγ
   rw [hbx] at hd
   rw [hsz]
   split at hd
   ·rename_i e1; subst e1
    rcases hasB γ hγ with h | h
    ·exact hs.at_ok d _ γ hb rfl h
    ·have := hs.at_ok c _ γ hc Cq h
     exact ⟨.new (this.1.1 hcl), this.2⟩
   ·rename_i e1
    split at hd
    ·cases hd; cases hr
    ·exact hs.at_ok d kk γ hd hr ((hasO d γ e1).1 hγ)
  ·intro d d' kk kk' γ hd hd' hr hr' hγ hγ'
   rw [hbx] at hd hd'
   have cl : ∀ d kk, (if d = b then some (Bo.pvec (n + 1) 1 cols (rows.set n (row.set 0 (.sl rows2)))) else if d = c then some .gone else st.bx d) = some kk → kk.real = true → G'.has d γ → (d = b ∧ (G.has b γ ∨ G.has c γ)) ∨ (d ≠ b ∧ d ≠ c ∧ st.bx d = some kk ∧ G.has d γ) := by
    intro d kk hd hr hγ
    split at hd
    ·rename_i e1; subst e1; exact .inl ⟨rfl, hasB γ hγ⟩
    ·rename_i e1
     split at hd
     ·cases hd; cases hr
     ·rename_i e2'; exact .inr ⟨e1, e2', hd, (hasO d γ e1).1 hγ⟩
   rcases cl d kk hd hr hγ with ⟨q1, q2⟩ | ⟨q1, q2, q3, q4⟩ <;> rcases cl d' kk' hd' hr' hγ' with ⟨q1', q2'⟩ | ⟨q1', q2', q3', q4'⟩
   ·rw [q1, q1']
   ·rcases q2 with h | h
    ·exact (q1' (hs.at_inj d' b _ _ γ q3' hb hr' rfl q4' h)).elim
    ·exact (q2' (hs.at_inj d' c _ _ γ q3' hc hr' Cq q4' h)).elim
   ·rcases q2' with h | h
    ·exact (q1 (hs.at_inj d b _ _ γ q3 hb hr rfl q4 h)).elim
    ·exact (q2 (hs.at_inj d c _ _ γ q3 hc hr Cq q4 h)).elim
   ·exact hs.at_inj d d' kk kk' γ q3 q3' hr hr' q4 q4'
  ·have e1 : d ≠ b := fun e' => by rw [e', hbl] at hd; cases hd
   refine ⟨rfl, rfl, ?_⟩
   simp only [G', if_neg e1]
end run
theorem Sx {α : Type} {f : α → List T} {xs : List α} {b e len : Nat} {bs : List (Nat × Bo)} {l l' : List D} (h : 0 + len ≤ xs.length) (hb : lent bs b = some (xs.map f)) (h2 : l.map (fun d => (d.lend bs).nrm) = l') :
  (D.e (.one (.view b e 0 len)) :: l).map (fun d => (d.lend bs).nrm) = .e (.one (.pure (.sl ((xs.take len).map f)))) :: l' := by
 rw [List.map_cons, h2, PA h bs hb]; rfl
theorem SF {d : D} {bs : List (Nat × Bo)} {l l' : List D} (h2 : l.map (fun d => (d.lend bs).nrm) = l') : (d :: l).map (fun d => (d.lend bs).nrm) = (d.lend bs).nrm :: l' := by
 rw [List.map_cons, h2]
end Go.Lift
namespace Go.Lift
def Aj (n : Int) : List T := [.val (.int .i64 n)]
def DO (n : Int) : List T := [.val (.int .u8 n)]
abbrev Ce (n : Int) : T := .val (.int .i64 n)
abbrev tB (b : Bool) : T := .val (.bool b)
def eB (b : Bool) : List T := [.val (.bool b)]
def CL {α : Type} (f : α → List T) (xs : List α) : List T := [.sl (xs.map f)]
theorem N5 : QW Aj := ⟨by intro x y h; simpa [Aj] using h⟩
theorem UT : QW DO := ⟨by intro x y h; simpa [DO] using h⟩
theorem VG : QW eB := ⟨by intro x y h; simpa [eB] using h⟩
theorem UO {α : Type} {f : α → List T} (h : QW f) : QW (CL f) := ⟨by intro x y hx; simp only [CL, List.cons.injEq, T.sl.injEq, and_true] at hx; exact JQ h.inj _ _ hx⟩
structure Av where
 fe : Int
 fh : Int
 fm : Int
 fo : Bool
 fj : List (List Bool)
 fk : List (List Bool)
def Ak (x : Av) : List T := [.val (.int .i64 x.fe), .val (.int .i64 x.fh), .val (.int .i64 x.fm), .val (.bool x.fo), .sl (x.fj.map (CL eB)), .sl (x.fk.map (CL eB))]
structure Ah where
 fb : List Int
 fc : List Int
 fd : List Int
 fa : List Av
def Or (x : Ah) : List T := [.sl (x.fb.map Aj), .sl (x.fc.map Aj), .sl (x.fd.map Aj), .sl (x.fa.map Ak)]
structure Ab where
 ft : Int
 fr : Int
 fq : Int
def Ac (x : Ab) : List T := [.val (.int .i64 x.ft), .val (.int .i64 x.fr), .val (.int .i64 x.fq)]
theorem AT : QW Ac := ⟨by
 rintro ⟨a1, a2, a3⟩ ⟨b1, b2, b3⟩ h
 simp only [Ac, List.cons.injEq, T.val.injEq, Value.int.injEq, and_true, true_and] at h
 obtain ⟨h1, h2, h3⟩ := h
 subst h1
 subst h2
 subst h3
 rfl⟩
structure AC where
 fg : List Int
 ff : List Int
 fi : List Int
def Hi (x : AC) : List T := [.sl (x.fg.map Aj), .sl (x.ff.map Aj), .sl (x.fi.map DO)]
structure Ax where
 fe : Int
 fp : Int
 fu : Int
def AK (x : Ax) : List T := [.val (.int .i64 x.fe), .val (.int .i64 x.fp), .val (.int .i64 x.fu)]
theorem Ms : QW AK := ⟨by
 rintro ⟨a1, a2, a3⟩ ⟨b1, b2, b3⟩ h
 simp only [AK, List.cons.injEq, T.val.injEq, Value.int.injEq, and_true, true_and] at h
 obtain ⟨h1, h2, h3⟩ := h
 subst h1
 subst h2
 subst h3
 rfl⟩
structure AV where
 fv : AC
 fh : Int
 fw : Ax
 ff : List Int
def Bc (x : AV) : List T := [.sl (x.fv.fg.map Aj), .sl (x.fv.ff.map Aj), .sl (x.fv.fi.map DO), .val (.int .i64 x.fh), .val (.int .i64 x.fw.fe), .val (.int .i64 x.fw.fp), .val (.int .i64 x.fw.fu), .sl (x.ff.map Aj)]
theorem Om : QW Bc := ⟨by
 rintro ⟨⟨a1, a2, a3⟩, a4, ⟨a5, a6, a7⟩, a8⟩ ⟨⟨b1, b2, b3⟩, b4, ⟨b5, b6, b7⟩, b8⟩ h
 simp only [Bc, List.cons.injEq, T.val.injEq, T.sl.injEq, Value.int.injEq, and_true, true_and] at h
 obtain ⟨h1, h2, h3, h4, h5, h6, h7, h8⟩ := h
 have h1 := JQ N5.inj _ _ h1
 subst h1
 have h2 := JQ N5.inj _ _ h2
 subst h2
 have h3 := JQ UT.inj _ _ h3
 subst h3
 subst h4
 subst h5
 subst h6
 subst h7
 have h8 := JQ N5.inj _ _ h8
 subst h8
 rfl⟩
open IntKind renaming wrap → wI
def C8 (_ : Nat) : Option Ah :=
 some ((Ah.mk (([2, 2] : List Int)) (([0, 0] : List Int)) (([1, 1] : List Int)) (([(Av.mk 1 0 1 false (([([true, false] : List Bool), ([false, true] : List Bool)] : List (List Bool))) (([] : List (List Bool))))] : List Av))))
def DK (_ : Nat) (p0 : Int) (p1 : Int) : Option Bool :=
 BQ (fun (v1 : Bool) =>
  some v1)
 fun j1 =>
 AR ((decide (0 ≤ p0)))
  (j1 (decide (p0 < p1)))
  (j1 false)
def F8 (_ : Nat) (p0 : Int) (p1 : Bool) : Option Bool :=
 BQ (fun (v1 : Bool) =>
  some v1)
 fun j1 =>
 AR ((p0 == 1))
  (j1 true)
  (AR ((p0 == 2))
   (j1 true)
   (AR ((p0 == 3))
    (j1 (!p1))
    (AR ((p0 == 4))
     (j1 (!p1))
     (j1 false))))
def DH (_ : Nat) (p0 : List Bool) (p1 : Int) : Option Bool :=
 some (((p0.length : Int) != p1))
def Bm (N : Nat) (p0 : List (List Bool)) (p1 : (List Bool) → Option Bool) (j1 : Unit → Option Int) : Nat → Int → Option Int
 | 0, _ => none
 | n1 + 1, v1 =>
  AR ((decide (v1 < (p0.length : Int))))
   ((Bg p0 v1).bind fun v4 =>
   (p1 v4).bind fun v5 =>
   AR v5
    (some v1)
    (Bm N p0 p1 j1 n1 (wI .i64 (v1 + 1))))
   (j1 ())
def Dh (N : Nat) (p0 : List (List Bool)) (p1 : (List Bool) → Option Bool) : Option Int :=
 Bm N p0 p1 (fun (_ : Unit) =>
  some ((-1))) N 0
def CQ (N : Nat) (p0 : List (List Bool)) (p1 : (List Bool) → Option Bool) : Option Bool :=
 (Dh N p0 p1).bind fun v1 =>
 some ((decide (0 ≤ v1)))
def ED (N : Nat) (p0 : List (List Bool)) (p1 : Int) (p2 : Int) : Option Bool :=
 BQ (fun (v1 : Bool) =>
  some v1)
 fun j1 =>
 AR (((p0.length : Int) == p1))
  ((CQ N p0 ((fun (x : List Bool) => DH N x p2))).bind fun v3 =>
  j1 (!v3))
  (j1 false)
def CZ (N : Nat) (p1 : Av) (j19 : Unit → Option Int) : Nat → Int → Option Int
 | 0, _ => none
 | n19 + 1, v19 =>
  AR ((decide (v19 < (p1.fk.length : Int))))
   ((Bg p1.fk v19).bind fun v22 =>
   (Bg v22 v19).bind fun v23 =>
   AR ((!v23))
    (some 1)
    (CZ N p1 j19 n19 (wI .i64 (v19 + 1))))
   (j19 ())
def Fy (N : Nat) (p0 : Ah) (p1 : Av) : Option Int :=
 (F8 N p1.fe p1.fo).bind fun v1 =>
 AR ((!v1))
  (some 1)
  (BQ (fun (v3 : Bool) =>
   AR v3
    (some 4)
    ((Bg p0.fb p1.fh).bind fun v8 =>
    BQ (fun (v9 : Bool) =>
     AR v9
      (some 6)
      (CZ N p1 (fun (_ : Unit) =>
       some 0) N 0))
    fun j9 =>
    (Bg p0.fb p1.fm).bind fun v10 =>
    (ED N p1.fj v8 v10).bind fun v11 =>
    AR ((!v11))
     (j9 true)
     (AR ((p1.fe == 4))
      ((ED N p1.fk v8 v8).bind fun v14 =>
      AR ((!v14))
       (j9 true)
       (AR ((!((p1.fe == 4))))
        (j9 (decide (0 < (p1.fk.length : Int))))
        (j9 false)))
      (AR ((!((p1.fe == 4))))
       (j9 (decide (0 < (p1.fk.length : Int))))
       (j9 false)))))
  fun j3 =>
  (DK N p1.fh ((p0.fb.length : Int))).bind fun v4 =>
  AR ((!v4))
   (j3 true)
   ((DK N p1.fm ((p0.fb.length : Int))).bind fun v6 =>
   j3 (!v6)))
def BS (N : Nat) (p0 : Ah) (j7 : Unit → Option Int) : Nat → Int → Option Int
 | 0, _ => none
 | n7 + 1, v7 =>
  AR ((decide (v7 < (p0.fb.length : Int))))
   ((Bg p0.fb v7).bind fun v10 =>
   BQ (fun (v11 : Bool) =>
    AR v11
     (some 7)
     (BS N p0 j7 n7 (wI .i64 (v7 + 1))))
   fun j11 =>
   AR ((decide (v10 < 1)))
    (j11 true)
    (AR ((decide (6 < v10)))
     (j11 true)
     ((Bg p0.fc v7).bind fun v14 =>
     (DK N v14 v10).bind fun v15 =>
     AR ((!v15))
      (j11 true)
      ((Bg p0.fd v7).bind fun v17 =>
      (DK N v17 v10).bind fun v18 =>
      j11 (!v18)))))
   (j7 ())
def BI (N : Nat) (p0 : Ah) (j20 : Unit → Option Int) : Nat → Int → Option Int
 | 0, _ => none
 | n20 + 1, v20 =>
  AR ((decide (v20 < (p0.fa.length : Int))))
   ((Bg p0.fa v20).bind fun v23 =>
   (Fy N p0 v23).bind fun v24 =>
   AR ((v24 != 0))
    (some v24)
    (BI N p0 j20 n20 (wI .i64 (v20 + 1))))
   (j20 ())
def Br (N : Nat) (p0 : Ah) : Option Int :=
 BQ (fun (v1 : Bool) =>
  AR v1
   (some 3)
   (BQ (fun (v4 : Bool) =>
    AR v4
     (some 6)
     (BS N p0 (fun (_ : Unit) =>
      BI N p0 (fun (_ : Unit) =>
       some 0) N 0) N 0))
   fun j4 =>
   AR (((p0.fc.length : Int) != (p0.fb.length : Int)))
    (j4 true)
    (j4 ((p0.fd.length : Int) != (p0.fb.length : Int)))))
 fun j1 =>
 AR ((decide (6 < (p0.fb.length : Int))))
  (j1 true)
  (j1 (decide (12 < (p0.fa.length : Int))))
def CM (N : Nat) (v1 : (List Ab) × Int) (v5 : (List Ab) × Int) (v8 : List Bool) (j9 : ((List Ab)) → Option ((List Ab))) : Nat → ((List Ab) × Int) → Option ((List Ab))
 | 0, _ => none
 | n9 + 1, v9 =>
  AR ((decide (v9.2 < (v8.length : Int))))
   (BQ (fun (v12 : (List Ab)) =>
    CM N v1 v5 v8 j9 n9 (v12, (wI .i64 (v9.2 + 1))))
   fun j12 =>
   (Bg v8 v9.2).bind fun v13 =>
   AR ((!v13))
    ((Ft (v9.1.length + (([(Ab.mk v1.2 v5.2 v9.2)] : List Ab)).length ≤ FQ)).bind fun _ =>
    j12 (v9.1 ++ (([(Ab.mk v1.2 v5.2 v9.2)] : List Ab))))
    (j12 v9.1))
   (j9 v9.1)
def Cm (N : Nat) (v1 : (List Ab) × Int) (v4 : Av) (j5 : ((List Ab)) → Option ((List Ab))) : Nat → ((List Ab) × Int) → Option ((List Ab))
 | 0, _ => none
 | n5 + 1, v5 =>
  AR ((decide (v5.2 < (v4.fj.length : Int))))
   ((Bg v4.fj v5.2).bind fun v8 =>
   CM N v1 v5 v8 (fun (v10 : (List Ab)) =>
    Cm N v1 v4 j5 n5 (v10, (wI .i64 (v5.2 + 1)))) N (v5.1, 0))
   (j5 v5.1)
def B1 (N : Nat) (p0 : Ah) (j1 : ((List Ab)) → Option ((List Ab))) : Nat → ((List Ab) × Int) → Option ((List Ab))
 | 0, _ => none
 | n1 + 1, v1 =>
  AR ((decide (v1.2 < (p0.fa.length : Int))))
   ((Bg p0.fa v1.2).bind fun v4 =>
   Cm N v1 v4 (fun (v6 : (List Ab)) =>
    B1 N p0 j1 n1 (v6, (wI .i64 (v1.2 + 1)))) N (v1.1, 0))
   (j1 v1.1)
def Dr (N : Nat) (p0 : Ah) : Option ((List Ab)) :=
 B1 N p0 (fun (v2 : (List Ab)) =>
  some v2) N (([] : List Ab), 0)
def Dq (N : Nat) (p0 : Ah) : Option ((List Ab) × Int) :=
 (Br N p0).bind fun v1 =>
 AR ((v1 != 0))
  (some (([] : List Ab), v1))
  ((Dr N p0).bind fun v3 =>
  some (v3, 0))
def E9 (N : Nat) (v5 : Ab) (v7 : (List (List Ab))) (j8 : ((List (List Ab))) → Option ((List (List Ab)))) : Nat → ((List (List Ab)) × Int) → Option ((List (List Ab)))
 | 0, _ => none
 | n8 + 1, v8 =>
  AR ((decide (v8.2 < (v7.length : Int))))
   ((Bg v7 v8.2).bind fun v11 =>
   (Ft ((([v5] : List Ab)).length + v11.length ≤ FQ)).bind fun _ =>
   (Ft (v8.1.length + (([(([v5] : List Ab)) ++ v11] : List (List Ab))).length ≤ FQ)).bind fun _ =>
   E9 N v5 v7 j8 n8 (v8.1 ++ (([(([v5] : List Ab)) ++ v11] : List (List Ab))), (wI .i64 (v8.2 + 1))))
   (j8 v8.1)
def Fb (N : Nat) (p0 : List Ab) (p1 : Int) (rc : (List Ab) → Int → Option ((List (List Ab)))) (j2 : ((List (List Ab))) → Option ((List (List Ab)))) : Nat → ((List (List Ab)) × Int) → Option ((List (List Ab)))
 | 0, _ => none
 | n2 + 1, v2 =>
  AR ((decide (v2.2 < (p0.length : Int))))
   ((Bg p0 v2.2).bind fun v5 =>
   (Ft ((0 : Int) ≤ (wI .i64 (v2.2 + 1)) ∧ ((wI .i64 (v2.2 + 1))).toNat ≤ p0.length ∧ p0.length ≤ p0.length)).bind fun _ =>
   (rc (((p0.drop ((wI .i64 (v2.2 + 1))).toNat).take (p0.length - ((wI .i64 (v2.2 + 1))).toNat))) ((wI .i64 (p1 - 1)))).bind fun v7 =>
   E9 N v5 v7 (fun (v9 : (List (List Ab))) =>
    Fb N p0 p1 rc j2 n2 (v9, (wI .i64 (v2.2 + 1)))) N (v2.1, 0))
   (j2 v2.1)
def GR (N : Nat) (rc : (List Ab) → Int → Option ((List (List Ab)))) (p0 : List Ab) (p1 : Int) : Option ((List (List Ab))) :=
 AR ((p1 == 0))
  (some (([([] : List Ab)] : List (List Ab))))
  (Fb N p0 p1 rc (fun (v3 : (List (List Ab))) =>
   some v3) N (([] : List (List Ab)), 0))
def Fs (N : Nat) : Nat → (List Ab) → Int → Option ((List (List Ab)))
 | 0, _, _ => none
 | k + 1, p0, p1 => GR N (Fs N k) p0 p1
def Jg (N : Nat) (p0 : List Ab) (p1 : Int) : Option ((List (List Ab))) := Fs N N p0 p1
def A4 (_ : Nat) (p0 : List Int) : Option ((List Int)) :=
 (Ft ((([] : List Int)).length + p0.length ≤ FQ)).bind fun _ =>
 some ((([] : List Int)) ++ p0)
def CC (_ : Nat) (p0 : List (List Bool)) : Option ((List (List Bool))) :=
 (Ft ((([] : List (List Bool))).length + p0.length ≤ FQ)).bind fun _ =>
 some ((([] : List (List Bool))) ++ p0)
def Ci (_ : Nat) (p0 : List Bool) : Option ((List Bool)) :=
 (Ft ((([] : List Bool)).length + p0.length ≤ FQ)).bind fun _ =>
 some ((([] : List Bool)) ++ p0)
def C1 (N : Nat) (v1 : (List (List Bool))) (j3 : ((List (List Bool))) → Option Av) : Nat → ((List (List Bool)) × Int) → Option Av
 | 0, _ => none
 | n3 + 1, v3 =>
  AR ((decide (v3.2 < (v1.length : Int))))
   ((Bg v3.1 v3.2).bind fun v6 =>
   (Ci N v6).bind fun v7 =>
   (Bg v3.1 v3.2).bind fun _ =>
   (Ft (((v3.2).toNat) + 1 = ((wI .i64 (v3.2 + 1))).toNat)).bind fun _ =>
   C1 N v1 j3 n3 (v3.1.set ((v3.2).toNat) v7, (wI .i64 (v3.2 + 1))))
   ((Ft ((v3.2).toNat = v3.1.length)).bind fun _ =>
   j3 v3.1)
def BG (N : Nat) (v2 : (List (List Bool))) (j11 : ((List (List Bool))) → Option Av) : Nat → ((List (List Bool)) × Int) → Option Av
 | 0, _ => none
 | n11 + 1, v11 =>
  AR ((decide (v11.2 < (v2.length : Int))))
   ((Bg v11.1 v11.2).bind fun v14 =>
   (Ci N v14).bind fun v15 =>
   (Bg v11.1 v11.2).bind fun _ =>
   (Ft (((v11.2).toNat) + 1 = ((wI .i64 (v11.2 + 1))).toNat)).bind fun _ =>
   BG N v2 j11 n11 (v11.1.set ((v11.2).toNat) v15, (wI .i64 (v11.2 + 1))))
   ((Ft ((v11.2).toNat = v11.1.length)).bind fun _ =>
   j11 v11.1)
def EI (N : Nat) (p0 : Av) : Option Av :=
 (CC N p0.fj).bind fun v1 =>
 (CC N p0.fk).bind fun v2 =>
 C1 N v1 (fun (v4 : (List (List Bool))) =>
  BG N v2 (fun (v12 : (List (List Bool))) =>
   some ((Av.mk p0.fe p0.fh p0.fm p0.fo v4 v12))) N (v2, 0)) N (v1, 0)
def CO (N : Nat) (p0 : Ah) (j6 : ((List Av)) → Option (Ah × Int)) : Nat → ((List Av) × Int) → Option (Ah × Int)
 | 0, _ => none
 | n6 + 1, v6 =>
  AR ((decide (v6.2 < (p0.fa.length : Int))))
   ((Bg p0.fa v6.2).bind fun v9 =>
   (EI N v9).bind fun v10 =>
   (Ft (v6.1.length + (([v10] : List Av)).length ≤ FQ)).bind fun _ =>
   CO N p0 j6 n6 (v6.1 ++ (([v10] : List Av)), (wI .i64 (v6.2 + 1))))
   (j6 v6.1)
def Ep (N : Nat) (p0 : Ah) (p1 : List Int) (p2 : List Int) : Option (Ah × Int) :=
 (Br N p0).bind fun v1 =>
 AR ((v1 != 0))
  (some ((Ah.mk (([] : List Int)) (([] : List Int)) (([] : List Int)) (([] : List Av))), v1))
  ((A4 N p0.fb).bind fun v3 =>
  (A4 N p1).bind fun v4 =>
  (A4 N p2).bind fun v5 =>
  CO N p0 (fun (v7 : (List Av)) =>
   (Br N ((Ah.mk v3 v4 v5 v7))).bind fun v12 =>
   AR ((v12 != 0))
    (some ((Ah.mk (([] : List Int)) (([] : List Int)) (([] : List Int)) (([] : List Av))), v12))
    (some ((Ah.mk v3 v4 v5 v7), 0))) N (([] : List Av), 0))
def Du (N : Nat) (p1 : List Ab) (j2 : ((List Av)) → Option Ah) : Nat → ((List Av) × Int) → Option Ah
 | 0, _ => none
 | n2 + 1, v2 =>
  AR ((decide (v2.2 < (p1.length : Int))))
   ((Bg p1 v2.2).bind fun v5 =>
   (Bg v2.1 v5.ft).bind fun v6 =>
   (Bg v6.fj v5.fr).bind fun v7 =>
   (Bg v7 v5.fq).bind fun _ =>
   Du N p1 j2 n2 (v2.1.set ((v5.ft).toNat) ((Av.mk v6.fe v6.fh v6.fm v6.fo (v6.fj.set ((v5.fr).toNat) (v7.set ((v5.fq).toNat) true)) v6.fk)), (wI .i64 (v2.2 + 1))))
   (j2 v2.1)
def EB (N : Nat) (p0 : Ah) (p1 : List Ab) : Option Ah :=
 (Ep N p0 p0.fc p0.fd).bind fun v1 =>
 Du N p1 (fun (v3 : (List Av)) =>
  some ((Ah.mk v1.1.fb v1.1.fc v1.1.fd v3))) N (v1.1.fa, 0)
def Gy (_ : Nat) (p0 : Int) (p1 : Int) : Option (Int × Int) :=
 some ((wI .u32 ((E4 .u64 ((wI .u64 ((wI .u64 p0) * (wI .u64 p1)))) 32))), (wI .u32 ((wI .u64 ((wI .u64 p0) * (wI .u64 p1))))))
def Gz (_ : Nat) (p0 : Int) (p1 : Int) : Option (Int × Int) :=
 some ((wI .u64 ((wI .u64 ((wI .u64 ((E4 .u64 p0 32) * (E4 .u64 p1 32))) + (E4 .u64 ((wI .u64 ((wI .u64 ((E4 .u64 p0 32) * (Hs .u64 p1 4294967295))) + (E4 .u64 ((wI .u64 ((Hs .u64 p0 4294967295) * (Hs .u64 p1 4294967295)))) 32)))) 32))) + (E4 .u64 ((wI .u64 ((Hs .u64 ((wI .u64 ((wI .u64 ((E4 .u64 p0 32) * (Hs .u64 p1 4294967295))) + (E4 .u64 ((wI .u64 ((Hs .u64 p0 4294967295) * (Hs .u64 p1 4294967295)))) 32)))) 4294967295) + (wI .u64 ((Hs .u64 p0 4294967295) * (E4 .u64 p1 32)))))) 32))), (wI .u64 (p0 * p1)))
def Hf (N : Nat) (p0 : Int) (p1 : Int) : Option (Int × Int) :=
 AR false
  ((Gy N ((wI .u32 p0)) ((wI .u32 p1))).bind fun v2 =>
  some ((wI .u64 v2.1), (wI .u64 v2.2)))
  ((Gz N p0 p1).bind fun v3 =>
  some (v3.1, v3.2))
def Dy (N : Nat) (j9 : ((List Int)) → Option ((List Int))) : Nat → ((List Int) × Int) → Option ((List Int))
 | 0, _ => none
 | n9 + 1, v9 =>
  AR ((decide (v9.2 < (v9.1.length : Int))))
   ((Ft ((0 : Int) ≤ v9.2 ∧ (v9.2).toNat ≤ v9.1.length ∧ v9.1.length ≤ v9.1.length)).bind fun _ =>
   (Ft ((0 : Int) ≤ v9.2 ∧ 0 ≤ (v9.2).toNat ∧ (v9.2).toNat ≤ v9.1.length)).bind fun _ =>
   Dy N j9 n9 (Gf v9.1 ((v9.2).toNat) ((((v9.1.drop 0).take ((v9.2).toNat))).take (Nat.min (((v9.1.drop 0).take ((v9.2).toNat))).length ((v9.1.length - (v9.2).toNat)))), (wI .i64 (v9.2 + (((Nat.min (((v9.1.drop 0).take ((v9.2).toNat))).length ((v9.1.length - (v9.2).toNat))) : Nat) : Int)))))
   (j9 v9.1)
def EN (N : Nat) (p0 : List Int) (p1 : Int) : Option ((List Int)) :=
 BQ (fun (_ : Unit) =>
  (Hf N ((wI .u64 ((p0.length : Int)))) ((wI .u64 p1))).bind fun v3 =>
  BQ (fun (_ : Unit) =>
   (Ft ((0 : Int) ≤ (wI .i64 v3.2) ∧ (wI .i64 v3.2) ≤ (wI .i64 v3.2) ∧ (wI .i64 v3.2) ≤ (FQ : Int))).bind fun _ =>
   Dy N (fun (v10 : (List Int)) =>
    some v10) N (Gf (List.replicate ((wI .i64 v3.2)).toNat ((0 : Int))) 0 (p0.take (Nat.min p0.length ((List.replicate ((wI .i64 v3.2)).toNat ((0 : Int))).length))), (((Nat.min p0.length ((List.replicate ((wI .i64 v3.2)).toNat ((0 : Int))).length)) : Nat) : Int)))
  fun j4 =>
  BQ (fun (v5 : Bool) =>
   AR v5
    (none)
    (j4 ()))
  fun j5 =>
  AR ((decide (0 < v3.1)))
   (j5 true)
   (j5 (decide (9223372036854775807 < v3.2))))
 fun j1 =>
 AR ((decide (p1 < 0)))
  (none)
  (j1 ())
def F5 (_ : Nat) (p0 : Av) : Option Bool :=
 BQ (fun (v1 : Bool) =>
  some v1)
 fun j1 =>
 AR ((p0.fe == 3))
  (j1 true)
  (j1 (p0.fe == 4))
def Gi (N : Nat) (p0 : Ah) (j6 : ((List Int)) → Option (AC × Int)) : Nat → ((List Int) × Int) → Option (AC × Int)
 | 0, _ => none
 | n6 + 1, v6 =>
  AR ((decide (v6.2 < (p0.fa.length : Int))))
   (BQ (fun (v9 : (List Int)) =>
    Gi N p0 j6 n6 (v9, (wI .i64 (v6.2 + 1))))
   fun j9 =>
   (Bg p0.fa v6.2).bind fun v10 =>
   (F5 N v10).bind fun v11 =>
   AR v11
    ((Bg p0.fc v10.fh).bind fun v13 =>
    (Ft (0 ≤ v13)).bind fun _ =>
    (Bg v6.1 v6.2).bind fun _ =>
    j9 (v6.1.set ((v6.2).toNat) ((EA .u8 1 v13))))
    (j9 v6.1))
   (j6 v6.1)
def IV (N : Nat) (p0 : Ah) : Option (AC × Int) :=
 (Br N p0).bind fun v1 =>
 AR ((v1 != 0))
  (some ((AC.mk (([] : List Int)) (([] : List Int)) (([] : List Int))), v1))
  ((A4 N p0.fc).bind fun v3 =>
  (EN N (([(-1)] : List Int)) ((p0.fc.length : Int))).bind fun v4 =>
  (Ft ((0 : Int) ≤ (p0.fa.length : Int) ∧ (p0.fa.length : Int) ≤ (p0.fa.length : Int) ∧ (p0.fa.length : Int) ≤ (FQ : Int))).bind fun _ =>
  Gi N p0 (fun (v7 : (List Int)) =>
   some ((AC.mk v3 v4 v7), 0)) N (List.replicate ((p0.fa.length : Int)).toNat ((0 : Int)), 0))
def Fz (_ : Nat) (p0 : AC) (p1 : Int) : Option Int :=
 (Bg p0.fg p1).bind fun v1 =>
 (Ft (0 ≤ v1)).bind fun _ =>
 BQ (fun (v3 : Int) =>
  some v3)
 fun j3 =>
 (Bg p0.ff p1).bind fun v4 =>
 AR ((decide (0 ≤ v4)))
  ((Bg p0.ff p1).bind fun v6 =>
  (Ft (0 ≤ v6)).bind fun _ =>
  j3 (Su .u8 ((EA .u8 1 v1)) ((EA .u8 1 v6))))
  (j3 (EA .u8 1 v1))
def Gj (N : Nat) (p0 : Ah) (p1 : AC) (j7 : Unit → Option Int) : Nat → Int → Option Int
 | 0, _ => none
 | n7 + 1, v7 =>
  AR ((decide (v7 < (p0.fb.length : Int))))
   ((Bg p0.fb v7).bind fun v10 =>
   BQ (fun (v11 : Bool) =>
    AR v11
     (some 7)
     ((Bg p1.fg v7).bind fun v20 =>
     (Bg p1.ff v7).bind fun v21 =>
     AR ((v20 == v21))
      (some 1)
      (Gj N p0 p1 j7 n7 (wI .i64 (v7 + 1)))))
   fun j11 =>
   (Bg p1.fg v7).bind fun v12 =>
   AR ((decide (v12 < 0)))
    (j11 true)
    ((Bg p1.fg v7).bind fun v14 =>
    AR ((decide (v10 ≤ v14)))
     (j11 true)
     ((Bg p1.ff v7).bind fun v16 =>
     AR ((decide (v16 < (-1))))
      (j11 true)
      ((Bg p1.ff v7).bind fun v18 =>
      j11 (decide (v10 ≤ v18))))))
   (j7 ())
def FU (N : Nat) (p0 : Ah) (p1 : AC) (j23 : Unit → Option Int) : Nat → Int → Option Int
 | 0, _ => none
 | n23 + 1, v23 =>
  AR ((decide (v23 < (p0.fa.length : Int))))
   ((Bg p0.fa v23).bind fun v26 =>
   BQ (fun (v27 : Int × Int) =>
    BQ (fun (v33 : Bool) =>
     AR v33
      (some 1)
      (FU N p0 p1 j23 n23 (wI .i64 (v23 + 1))))
    fun j33 =>
    (Bg p1.fi v23).bind fun v34 =>
    AR (((I1 .u8 v27.1 v34) != 0))
     (j33 true)
     ((Bg p1.fi v23).bind fun v36 =>
     j33 ((I1 .u8 v36 v27.2) != 0)))
   fun j27 =>
   (F5 N v26).bind fun v28 =>
   AR v28
    ((Fz N p1 v26.fh).bind fun v30 =>
    (Bg p0.fb v26.fh).bind fun v31 =>
    (Ft (0 ≤ v31)).bind fun _ =>
    j27 (v30, (wI .u8 ((EA .u8 1 v31) - 1))))
    (j27 (0, 0)))
   (j23 ())
def FX (N : Nat) (p0 : Ah) (p1 : AC) : Option Int :=
 (Br N p0).bind fun v1 =>
 AR ((v1 != 0))
  (some v1)
  (BQ (fun (v3 : Bool) =>
   AR v3
    (some 6)
    (Gj N p0 p1 (fun (_ : Unit) =>
     FU N p0 p1 (fun (_ : Unit) =>
      some 0) N 0) N 0))
  fun j3 =>
  AR (((p1.fg.length : Int) != (p0.fb.length : Int)))
   (j3 true)
   (AR (((p1.ff.length : Int) != (p0.fb.length : Int)))
    (j3 true)
    (j3 ((p1.fi.length : Int) != (p0.fa.length : Int)))))
def CY (_ : Nat) (p0 : List Int) : Option ((List Int)) :=
 (Ft ((([] : List Int)).length + p0.length ≤ FQ)).bind fun _ =>
 some ((([] : List Int)) ++ p0)
def FV (N : Nat) (p1 : AC) (j3 : ((List Int)) → Option ((List AC) × Int)) : Nat → ((List Int) × Int) → Option ((List AC) × Int)
 | 0, _ => none
 | n3 + 1, v3 =>
  AR ((decide (v3.2 < (p1.ff.length : Int))))
   (BQ (fun (v6 : (List Int)) =>
    FV N p1 j3 n3 (v6, (wI .i64 (v3.2 + 1))))
   fun j6 =>
   (Bg p1.ff v3.2).bind fun v7 =>
   AR ((decide (0 ≤ v7)))
    ((Ft (v3.1.length + (([v3.2] : List Int)).length ≤ FQ)).bind fun _ =>
    j6 (v3.1 ++ (([v3.2] : List Int))))
    (j6 v3.1))
   (j3 v3.1)
def Fq (N : Nat) (v4 : (List Int)) (v11 : (List AC) × Int) (j17 : ((List Int)) → Option ((List AC) × Int)) : Nat → ((List Int) × Int) → Option ((List AC) × Int)
 | 0, _ => none
 | n17 + 1, v17 =>
  AR ((decide (v17.2 < (v4.length : Int))))
   (BQ (fun (v20 : (List Int)) =>
    Fq N v4 v11 j17 n17 (v20, (wI .i64 (v17.2 + 1))))
   fun j20 =>
   (Bg v4 v17.2).bind fun v21 =>
   (Ft (0 ≤ v17.2)).bind fun _ =>
   AR (((Hs .i64 ((E4 .i64 v11.2 v17.2)) 1) == 1))
    ((Bg v17.1 v21).bind fun _ =>
    j20 (v17.1.set ((v21).toNat) ((-1))))
    (j20 v17.1))
   (j17 v17.1)
def Fv (N : Nat) (p1 : AC) (v4 : (List Int)) (j11 : ((List AC)) → Option ((List AC) × Int)) : Nat → ((List AC) × Int) → Option ((List AC) × Int)
 | 0, _ => none
 | n11 + 1, v11 =>
  AR ((decide (v11.2 < (EA .i64 1 ((v4.length : Int))))))
   ((A4 N p1.fg).bind fun v14 =>
   (A4 N p1.ff).bind fun v15 =>
   (CY N p1.fi).bind fun v16 =>
   Fq N v4 v11 (fun (v18 : (List Int)) =>
    (Ft (v11.1.length + (([(AC.mk v14 v18 v16)] : List AC)).length ≤ FQ)).bind fun _ =>
    Fv N p1 v4 j11 n11 (v11.1 ++ (([(AC.mk v14 v18 v16)] : List AC)), (wI .i64 (v11.2 + 1)))) N (v15, 0))
   (j11 v11.1)
def Ii (N : Nat) (p0 : Ah) (p1 : AC) : Option ((List AC) × Int) :=
 (FX N p0 p1).bind fun v1 =>
 AR ((v1 != 0))
  (some (([] : List AC), v1))
  (FV N p1 (fun (v4 : (List Int)) =>
   (Ft (0 ≤ (v4.length : Int))).bind fun _ =>
   Fv N p1 v4 (fun (v12 : (List AC)) =>
    some (v12, 0)) N (([] : List AC), 0)) N (([] : List Int), 0))
def EF (N : Nat) (v1 : (List Ab) × Int) (v4 : Av) (v6 : Int) (v11 : (List Ab) × Int) (v17 : List Bool) (j18 : ((List Ab) × Bool) → Option ((List Ab))) : Nat → ((List Ab) × Bool × Int) → Option ((List Ab))
 | 0, _ => none
 | n18 + 1, v18 =>
  AR ((decide (v18.2.2 < (v17.length : Int))))
   (BQ (fun (v21 : (List Ab) × Bool) =>
    EF N v1 v4 v6 v11 v17 j18 n18 (v21.1, v21.2, (wI .i64 (v18.2.2 + 1))))
   fun j21 =>
   (Bg v17 v18.2.2).bind fun v22 =>
   (Ft (0 ≤ v18.2.2)).bind fun _ =>
   AR (((Hs .u8 ((E4 .u8 v6 v18.2.2)) 1) == 0))
    (j21 (v18.1, v18.2.1))
    (BQ (fun (v25 : Bool) =>
     BQ (fun (v27 : Bool) =>
      AR v27
       ((Ft (v18.1.length + (([(Ab.mk v1.2 v11.2 v18.2.2)] : List Ab)).length ≤ FQ)).bind fun _ =>
       j21 (v18.1 ++ (([(Ab.mk v1.2 v11.2 v18.2.2)] : List Ab)), v25))
       (j21 (v18.1, v25)))
     fun j27 =>
     AR ((!v22))
      (j27 (!v4.fo))
      (j27 false))
    fun j25 =>
    AR v18.2.1
     (j25 true)
     (j25 v22)))
   (j18 (v18.1, v18.2.1))
def EK (N : Nat) (v1 : (List Ab) × Int) (v4 : Av) (v6 : Int) (v7 : Int) (j11 : ((List Ab)) → Option ((List Ab))) : Nat → ((List Ab) × Int) → Option ((List Ab))
 | 0, _ => none
 | n11 + 1, v11 =>
  AR ((decide (v11.2 < (v4.fj.length : Int))))
   (BQ (fun (v14 : (List Ab)) =>
    EK N v1 v4 v6 v7 j11 n11 (v14, (wI .i64 (v11.2 + 1))))
   fun j14 =>
   (Ft (0 ≤ v11.2)).bind fun _ =>
   AR (((Hs .u8 ((E4 .u8 v7 v11.2)) 1) == 0))
    (j14 v11.1)
    ((Bg v4.fj v11.2).bind fun v17 =>
    EF N v1 v4 v6 v11 v17 (fun (v19 : (List Ab) × Bool) =>
     BQ (fun (v31 : Bool) =>
      AR v31
       ((Ft (v19.1.length + (([(Ab.mk v1.2 v11.2 ((-1)))] : List Ab)).length ≤ FQ)).bind fun _ =>
       j14 (v19.1 ++ (([(Ab.mk v1.2 v11.2 ((-1)))] : List Ab))))
       (j14 v19.1))
     fun j31 =>
     AR v4.fo
      (j31 (!v19.2))
      (j31 false)) N (v11.1, false, 0)))
   (j11 v11.1)
def ER (N : Nat) (p0 : Ah) (p1 : AC) (j1 : ((List Ab)) → Option ((List Ab))) : Nat → ((List Ab) × Int) → Option ((List Ab))
 | 0, _ => none
 | n1 + 1, v1 =>
  AR ((decide (v1.2 < (p0.fa.length : Int))))
   ((Bg p0.fa v1.2).bind fun v4 =>
   (Fz N p1 v4.fh).bind fun v5 =>
   (Fz N p1 v4.fm).bind fun v6 =>
   BQ (fun (v7 : Int) =>
    EK N v1 v4 v6 v7 (fun (v12 : (List Ab)) =>
     ER N p0 p1 j1 n1 (v12, (wI .i64 (v1.2 + 1)))) N (v1.1, 0))
   fun j7 =>
   (F5 N v4).bind fun v8 =>
   AR v8
    ((Bg p1.fi v1.2).bind fun v10 =>
    j7 v10)
    (j7 v5))
   (j1 v1.1)
def Hc (N : Nat) (p0 : Ah) (p1 : AC) : Option ((List Ab)) :=
 ER N p0 p1 (fun (v2 : (List Ab)) =>
  some v2) N (([] : List Ab), 0)
def Gk (N : Nat) (p0 : Ah) (v1 : (List AC) × Int) (j3 : Unit → Option (AC × Ab × Int)) : Nat → Int → Option (AC × Ab × Int)
 | 0, _ => none
 | n3 + 1, v3 =>
  AR ((decide (v3 < (v1.1.length : Int))))
   ((Bg v1.1 v3).bind fun v6 =>
   (Hc N p0 v6).bind fun v7 =>
   AR ((decide (0 < (v7.length : Int))))
    ((Bg v7 0).bind fun v9 =>
    some (v6, v9, 0))
    (Gk N p0 v1 j3 n3 (wI .i64 (v3 + 1))))
   (j3 ())
def I2 (N : Nat) (p0 : Ah) (p1 : AC) : Option (AC × Ab × Int) :=
 (Ii N p0 p1).bind fun v1 =>
 AR ((v1.2 != 0))
  (some ((AC.mk (([] : List Int)) (([] : List Int)) (([] : List Int))), (Ab.mk 0 0 0), v1.2))
  (Gk N p0 v1 (fun (_ : Unit) =>
   some ((AC.mk (([] : List Int)) (([] : List Int)) (([] : List Int))), (Ab.mk 0 0 0), 15)) N 0)
def Hj (N : Nat) (p0 : Ah) (p1 : AC) : Option (Bool × Int) :=
 (I2 N p0 p1).bind fun v1 =>
 AR ((v1.2.2 == 0))
  (some (false, 0))
  (AR ((v1.2.2 == 15))
   (some (true, 0))
   (some (false, v1.2.2)))
def GS (N : Nat) (p0 : AC) (j2 : ((List Int)) → Option ByteArray) : Nat → ((List Int) × Int) → Option ByteArray
 | 0, _ => none
 | n2 + 1, v2 =>
  AR ((decide (v2.2 < (p0.fg.length : Int))))
   ((Bg p0.fg v2.2).bind fun v5 =>
   (Bg p0.ff v2.2).bind fun v6 =>
   (Ft (v2.1.length + (([(wI .u8 v5), (wI .u8 ((wI .i64 (v6 + 1))))] : List Int)).length ≤ FQ)).bind fun _ =>
   GS N p0 j2 n2 (v2.1 ++ (([(wI .u8 v5), (wI .u8 ((wI .i64 (v6 + 1))))] : List Int)), (wI .i64 (v2.2 + 1))))
   (j2 v2.1)
def GU (N : Nat) (p0 : AC) (j8 : ((List Int)) → Option ByteArray) : Nat → ((List Int) × Int) → Option ByteArray
 | 0, _ => none
 | n8 + 1, v8 =>
  AR ((decide (v8.2 < (p0.fi.length : Int))))
   ((Bg p0.fi v8.2).bind fun v11 =>
   (Ft (v8.1.length + (([v11] : List Int)).length ≤ FQ)).bind fun _ =>
   GU N p0 j8 n8 (v8.1 ++ (([v11] : List Int)), (wI .i64 (v8.2 + 1))))
   (j8 v8.1)
def Ih (N : Nat) (p0 : AC) : Option ByteArray :=
 (Ft ((0 : Int) ≤ 0 ∧ 0 ≤ (wI .i64 ((wI .i64 (2 * (p0.fg.length : Int))) + (p0.fi.length : Int))) ∧ (wI .i64 ((wI .i64 (2 * (p0.fg.length : Int))) + (p0.fi.length : Int))) ≤ (FQ : Int))).bind fun _ =>
 GS N p0 (fun (v3 : (List Int)) =>
  GU N p0 (fun (v9 : (List Int)) =>
   some ((H5 v9))) N (v3, 0)) N (List.replicate (0 : Int).toNat ((0 : Int)), 0)
def GQ (N : Nat) (v1 : (List Ax) × Int) (v4 : Int) (j5 : ((List Ax)) → Option ((List Ax))) : Nat → ((List Ax) × Int) → Option ((List Ax))
 | 0, _ => none
 | n5 + 1, v5 =>
  AR ((decide (v5.2 < v4)))
   ((Ft (v5.1.length + (([(Ax.mk 1 v1.2 v5.2)] : List Ax)).length ≤ FQ)).bind fun _ =>
   GQ N v1 v4 j5 n5 (v5.1 ++ (([(Ax.mk 1 v1.2 v5.2)] : List Ax)), (wI .i64 (v5.2 + 1))))
   (j5 v5.1)
def GI (N : Nat) (p0 : Ah) (j1 : ((List Ax)) → Option ((List Ax))) : Nat → ((List Ax) × Int) → Option ((List Ax))
 | 0, _ => none
 | n1 + 1, v1 =>
  AR ((decide (v1.2 < (p0.fb.length : Int))))
   ((Bg p0.fb v1.2).bind fun v4 =>
   GQ N v1 v4 (fun (v6 : (List Ax)) =>
    GI N p0 j1 n1 (v6, (wI .i64 (v1.2 + 1)))) N (v1.1, 0))
   (j1 v1.1)
def GW (N : Nat) (p0 : Ah) (j9 : ((List Ax)) → Option ((List Ax))) : Nat → ((List Ax) × Int) → Option ((List Ax))
 | 0, _ => none
 | n9 + 1, v9 =>
  AR ((decide (v9.2 < (p0.fb.length : Int))))
   ((Ft (v9.1.length + (([(Ax.mk 2 v9.2 0)] : List Ax)).length ≤ FQ)).bind fun _ =>
   GW N p0 j9 n9 (v9.1 ++ (([(Ax.mk 2 v9.2 0)] : List Ax)), (wI .i64 (v9.2 + 1))))
   (j9 v9.1)
def Gg (N : Nat) (p0 : Ah) (j13 : ((List Ax)) → Option ((List Ax))) : Nat → ((List Ax) × Int) → Option ((List Ax))
 | 0, _ => none
 | n13 + 1, v13 =>
  AR ((decide (v13.2 < (p0.fa.length : Int))))
   ((Ft (v13.1.length + (([(Ax.mk 3 v13.2 0)] : List Ax)).length ≤ FQ)).bind fun _ =>
   Gg N p0 j13 n13 (v13.1 ++ (([(Ax.mk 3 v13.2 0)] : List Ax)), (wI .i64 (v13.2 + 1))))
   (j13 v13.1)
def Js (N : Nat) (p0 : Ah) : Option ((List Ax)) :=
 GI N p0 (fun (v2 : (List Ax)) =>
  GW N p0 (fun (v10 : (List Ax)) =>
   Gg N p0 (fun (v14 : (List Ax)) =>
    some v14) N (v10, 0)) N (v2, 0)) N (([] : List Ax), 0)
def HL (N : Nat) (p0 : AC) : Option AC :=
 (A4 N p0.fg).bind fun v1 =>
 (A4 N p0.ff).bind fun v2 =>
 (CY N p0.fi).bind fun v3 =>
 some ((AC.mk v1 v2 v3))
def GZ (_ : Nat) (p0 : Av) : Option Bool :=
 BQ (fun (v1 : Bool) =>
  some v1)
 fun j1 =>
 AR ((p0.fe == 3))
  (j1 true)
  (j1 (p0.fe == 4))
def FN (N : Nat) (p0 : Ah) (p2 : Ax) (j7 : ((List Int)) → Option (Bool × (List Int) × (List Int))) : Nat → ((List Int) × Int) → Option (Bool × (List Int) × (List Int))
 | 0, _ => none
 | n7 + 1, v7 =>
  AR ((decide (v7.2 < (p0.fa.length : Int))))
   (BQ (fun (v10 : (List Int)) =>
    FN N p0 p2 j7 n7 (v10, (wI .i64 (v7.2 + 1))))
   fun j10 =>
   (Bg p0.fa v7.2).bind fun v11 =>
   BQ (fun (v12 : Bool) =>
    AR v12
     ((Bg v7.1 v7.2).bind fun v16 =>
     (Ft (0 ≤ p2.fu)).bind fun _ =>
     (Bg v7.1 v7.2).bind fun _ =>
     j10 (v7.1.set ((v7.2).toNat) ((Su .u8 v16 ((EA .u8 1 p2.fu))))))
     (j10 v7.1))
   fun j12 =>
   AR ((v11.fh == p2.fp))
    ((GZ N v11).bind fun v14 =>
    j12 v14)
    (j12 false))
   (j7 v7.1)
def Ip (N : Nat) (p0 : Ah) (p1 : AC) (p2 : Ax) : Option (Bool × (List Int) × (List Int)) :=
 BQ (fun (v1 : Bool) =>
  AR v1
   (some (false, p1.ff, p1.fi))
   ((Bg p1.ff p2.fp).bind fun _ =>
   FN N p0 p2 (fun (v8 : (List Int)) =>
    some (true, p1.ff.set ((p2.fp).toNat) p2.fu, v8)) N (p1.fi, 0)))
 fun j1 =>
 (Bg p1.ff p2.fp).bind fun v2 =>
 AR ((decide (0 ≤ v2)))
  (j1 true)
  ((Bg p1.fg p2.fp).bind fun v4 =>
  j1 (v4 == p2.fu))
def Hx (_ : Nat) (p0 : AC) (p1 : Int) : Option Int :=
 (Bg p0.fg p1).bind fun v1 =>
 (Ft (0 ≤ v1)).bind fun _ =>
 BQ (fun (v3 : Int) =>
  some v3)
 fun j3 =>
 (Bg p0.ff p1).bind fun v4 =>
 AR ((decide (0 ≤ v4)))
  ((Bg p0.ff p1).bind fun v6 =>
  (Ft (0 ≤ v6)).bind fun _ =>
  j3 (Su .u8 ((EA .u8 1 v1)) ((EA .u8 1 v6))))
  (j3 (EA .u8 1 v1))
def Eh (_ : Nat) (p0 : Int) : Option Int :=
 (QK ((⟨⟨(List.append (List.append [8, 0, 1, 0, 2, 0, 1, 0, 3, 0, 1, 0, 2, 0, 1, 0, 4, 0, 1, 0, 2, 0, 1, 0, 3, 0, 1, 0, 2, 0, 1, 0, 5, 0, 1, 0, 2, 0, 1, 0, 3, 0, 1, 0, 2, 0, 1, 0, 4, 0, 1, 0, 2, 0, 1, 0, 3, 0, 1, 0, 2, 0, 1, 0] [6, 0, 1, 0, 2, 0, 1, 0, 3, 0, 1, 0, 2, 0, 1, 0, 4, 0, 1, 0, 2, 0, 1, 0, 3, 0, 1, 0, 2, 0, 1, 0, 5, 0, 1, 0, 2, 0, 1, 0, 3, 0, 1, 0, 2, 0, 1, 0, 4, 0, 1, 0, 2, 0, 1, 0, 3, 0, 1, 0, 2, 0, 1, 0]) (List.append [7, 0, 1, 0, 2, 0, 1, 0, 3, 0, 1, 0, 2, 0, 1, 0, 4, 0, 1, 0, 2, 0, 1, 0, 3, 0, 1, 0, 2, 0, 1, 0, 5, 0, 1, 0, 2, 0, 1, 0, 3, 0, 1, 0, 2, 0, 1, 0, 4, 0, 1, 0, 2, 0, 1, 0, 3, 0, 1, 0, 2, 0, 1, 0] [6, 0, 1, 0, 2, 0, 1, 0, 3, 0, 1, 0, 2, 0, 1, 0, 4, 0, 1, 0, 2, 0, 1, 0, 3, 0, 1, 0, 2, 0, 1, 0, 5, 0, 1, 0, 2, 0, 1, 0, 3, 0, 1, 0, 2, 0, 1, 0, 4, 0, 1, 0, 2, 0, 1, 0, 3, 0, 1, 0, 2, 0, 1, 0]))⟩⟩ : ByteArray)) p0).bind fun v1 =>
 some ((wI .i64 v1))
def Ey (N : Nat) (p0 : Av) (p2 : Int) (j1 : Unit → Option Bool) : Nat → Int → Option Bool
 | 0, _ => none
 | n1 + 1, v1 =>
  AR ((v1 != 0))
   ((Eh N v1).bind fun v4 =>
   (Bg p0.fk v4).bind fun v5 =>
   (Bg v5 p2).bind fun v6 =>
   AR ((!v6))
    (some false)
    (Ey N p0 p2 j1 n1 (Hs .u8 v1 ((wI .u8 (v1 - 1))))))
   (j1 ())
def Gn (N : Nat) (p0 : Av) (p1 : Int) (p2 : Int) : Option Bool :=
 Ey N p0 p2 (fun (_ : Unit) =>
  some true) N p1
def Iq (N : Nat) (p0 : Ah) (p1 : AC) (p2 : Int) : Option (Bool × (List Int)) :=
 (Bg p0.fa p2).bind fun v1 =>
 (GZ N v1).bind fun v2 =>
 AR ((!v2))
  (some (false, p1.fi))
  ((Hx N p1 v1.fh).bind fun v4 =>
  (Bg p1.fi p2).bind fun v5 =>
  BQ (fun (v6 : Bool) =>
   AR v6
    (some (false, p1.fi))
    ((Bg p1.fi p2).bind fun _ =>
    some (true, p1.fi.set ((p2).toNat) v4)))
  fun j6 =>
  (Bg p1.fi p2).bind fun v7 =>
  AR ((v7 == v4))
   (j6 true)
   (AR ((v1.fe == 4))
    ((Bg p1.fg v1.fh).bind fun v10 =>
    (Gn N v1 ((I1 .u8 v5 v4)) v10).bind fun v11 =>
    j6 (!v11))
    (j6 false)))
def Hk (N : Nat) (p0 : Ah) (p1 : AC) (p2 : Ax) : Option (AC × Bool) :=
 (HL N p1).bind fun v1 =>
 AR ((p2.fe == 1))
  ((Ip N p0 v1 p2).bind fun v3 =>
  some ((AC.mk v1.fg v3.2.1 v3.2.2), v3.1))
  (AR ((p2.fe == 3))
   ((Iq N p0 v1 p2.fp).bind fun v5 =>
   some ((AC.mk v1.fg v1.ff v5.2), v5.1))
   ((Bg v1.ff p2.fp).bind fun v6 =>
   AR ((decide (v6 < 0)))
    (some (v1, false))
    ((Bg v1.ff p2.fp).bind fun _ =>
    BQ (fun (v9 : (List Int)) =>
     some ((AC.mk v9 (v1.ff.set ((p2.fp).toNat) ((-1))) v1.fi), true))
    fun j9 =>
    AR ((p2.fe == 2))
     ((Bg v1.fg p2.fp).bind fun _ =>
     j9 (v1.fg.set ((p2.fp).toNat) v6))
     (j9 v1.fg))))
def EH (N : Nat) (p0 : Ax) (p1 : List Int) (p2 : List Int) (p3 : List Int) (p4 : List Av) (p5 : List Int) (p6 : List Int) (p7 : List Int) : Option Bool :=
 (Hk N ((Ah.mk p1 p2 p3 p4)) ((AC.mk p5 p6 p7)) p0).bind fun v1 =>
 some ((!v1.2))
def B2 (N : Nat) (p0 : List Ax) (p1 : Ax → Option Bool) (j1 : Unit → Option Int) : Nat → Int → Option Int
 | 0, _ => none
 | n1 + 1, v1 =>
  AR ((decide (v1 < (p0.length : Int))))
   ((Bg p0 v1).bind fun v4 =>
   (p1 v4).bind fun v5 =>
   AR v5
    (some v1)
    (B2 N p0 p1 j1 n1 (wI .i64 (v1 + 1))))
   (j1 ())
def Dd (N : Nat) (p0 : List Ax) (p1 : Ax → Option Bool) : Option Int :=
 B2 N p0 p1 (fun (_ : Unit) =>
  some ((-1))) N 0
def BV (N : Nat) (p1 : Ax → Option Bool) (j3 : ((List Ax) × Int) → Option (Nat × (List Ax))) : Nat → ((List Ax) × Int × Int) → Option (Nat × (List Ax))
 | 0, _ => none
 | n3 + 1, v3 =>
  AR ((decide (v3.2.2 < (v3.1.length : Int))))
   (BQ (fun (v6 : (List Ax) × Int) =>
    BV N p1 j3 n3 (v6.1, v6.2, (wI .i64 (v3.2.2 + 1))))
   fun j6 =>
   (Bg v3.1 v3.2.2).bind fun v7 =>
   (p1 v7).bind fun v8 =>
   AR ((!v8))
    ((Bg v3.1 v3.2.1).bind fun _ =>
    j6 (v3.1.set ((v3.2.1).toNat) v7, (wI .i64 (v3.2.1 + 1))))
    (j6 (v3.1, v3.2.1)))
   (j3 (v3.1, v3.2.1))
def C3 (N : Nat) (p0 : List Ax) (p1 : Ax → Option Bool) : Option (Nat × (List Ax)) :=
 (Dd N p0 p1).bind fun v1 =>
 AR ((v1 == (-1)))
  (some (p0.length, p0))
  (BV N p1 (fun (v4 : (List Ax) × Int) =>
   (Ft ((0 : Int) ≤ v4.2 ∧ (v4.2).toNat ≤ v4.1.length ∧ v4.1.length ≤ v4.1.length)).bind fun _ =>
   (Ft ((0 : Int) ≤ v4.2 ∧ 0 ≤ (v4.2).toNat ∧ (v4.2).toNat ≤ (Gf v4.1 ((v4.2).toNat) (List.replicate ((v4.1.length - (v4.2).toNat)) ((Ax.mk 0 0 0)))).length)).bind fun _ =>
   some ((v4.2).toNat, Gf v4.1 ((v4.2).toNat) (List.replicate ((v4.1.length - (v4.2).toNat)) ((Ax.mk 0 0 0))))) N (p0, v1, (wI .i64 (v1 + 1))))
def Ht (N : Nat) (p0 : Ah) (p1 : AC) : Option ((List Ax) × Int) :=
 (FX N p0 p1).bind fun v1 =>
 AR ((v1 != 0))
  (some (([] : List Ax), v1))
  ((Js N p0).bind fun v3 =>
  (C3 N v3 ((fun (x : Ax) => EH N x p0.fb p0.fc p0.fd p0.fa p1.fg p1.ff p1.fi))).bind fun v4 =>
  (Ft (v4.1 ≤ v4.2.length)).bind fun _ =>
  some (v4.2.take v4.1, 0))
def Ij (_ : Nat) (p0 : Ax) : Option Bool :=
 BQ (fun (v1 : Bool) =>
  AR v1
   (some false)
   (BQ (fun (v5 : Bool) =>
    some v5)
   fun j5 =>
   AR ((p0.fe == 1))
    (j5 true)
    (j5 (p0.fu == 0))))
 fun j1 =>
 AR ((decide ((Sj p0.fp p0.fu) < 0)))
  (j1 true)
  (AR ((decide (p0.fe < 1)))
   (j1 true)
   (j1 (decide (4 < p0.fe))))
def HK (_ : Nat) (p0 : Ah) (p1 : Ax) : Option Bool :=
 AR ((p1.fe == 3))
  (some ((decide (p1.fp < (p0.fa.length : Int)))))
  (BQ (fun (v2 : Bool) =>
   some v2)
  fun j2 =>
  AR ((decide (p1.fp < (p0.fb.length : Int))))
   (AR ((p1.fe != 1))
    (j2 true)
    ((Bg p0.fb p1.fp).bind fun v5 =>
    j2 (decide (p1.fu < v5))))
   (j2 false))
def In (N : Nat) (p0 : Ah) (p1 : AC) (p2 : Ax) : Option (AC × Int) :=
 (Ij N p2).bind fun v1 =>
 AR ((!v1))
  (some ((AC.mk (([] : List Int)) (([] : List Int)) (([] : List Int))), 1))
  ((HK N p0 p2).bind fun v3 =>
  AR ((!v3))
   (some ((AC.mk (([] : List Int)) (([] : List Int)) (([] : List Int))), 4))
   ((Hk N p0 p1 p2).bind fun v5 =>
   AR ((!v5.2))
    (some ((AC.mk (([] : List Int)) (([] : List Int)) (([] : List Int))), 11))
    (some (v5.1, 0))))
def Ik (N : Nat) (p0 : Ah) (p1 : AC) (p2 : Ax) : Option (AC × Int) :=
 (FX N p0 p1).bind fun v1 =>
 AR ((v1 != 0))
  (some ((AC.mk (([] : List Int)) (([] : List Int)) (([] : List Int))), v1))
  ((In N p0 p1 p2).bind fun v3 =>
  some (v3.1, v3.2))
def Fu (N : Nat) (p0 : Ah) (v2 : (List AV) × (List (ByteArray × Int)) × Int) (v6 : (List Ax) × Int) (j8 : ((List AV) × (List (ByteArray × Int))) → Option ((List AV) × Int)) : Nat → ((List AV) × (List (ByteArray × Int)) × Int) → Option ((List AV) × Int)
 | 0, _ => none
 | n8 + 1, v8 =>
  AR ((decide (v8.2.2 < (v6.1.length : Int))))
   ((Bg v6.1 v8.2.2).bind fun v11 =>
   (Bg v8.1 v2.2.2).bind fun v12 =>
   (Ik N p0 ((AC.mk v12.fv.fg v12.fv.ff v12.fv.fi)) v11).bind fun v13 =>
   AR ((v13.2 != 0))
    (some (([] : List AV), v13.2))
    ((Ih N v13.1).bind fun v15 =>
    BQ (fun (v16 : (List AV) × (List (ByteArray × Int)) × Int) =>
     BQ (fun (v24 : (List AV)) =>
      AR ((decide (20000 < (v24.length : Int))))
       (some (([] : List AV), 3))
       (Fu N p0 v2 v6 j8 n8 (v24, v16.2.1, (wI .i64 (v8.2.2 + 1)))))
     fun j24 =>
     AR ((decide (0 ≤ v16.2.2)))
      ((Bg v16.1 v2.2.2).bind fun v26 =>
      (Ft (v26.ff.length + (([v16.2.2] : List Int)).length ≤ FQ)).bind fun _ =>
      (Bg v16.1 v2.2.2).bind fun v28 =>
      j24 (v16.1.set ((v2.2.2).toNat) ((AV.mk ((AC.mk v28.fv.fg v28.fv.ff v28.fv.fi)) v28.fh ((Ax.mk v28.fw.fe v28.fw.fp v28.fw.fu)) (v26.ff ++ (([v16.2.2] : List Int)))))))
      (j24 v16.1))
    fun j16 =>
    AR ((!((Ku v15 v8.2.1).isSome)))
     (BQ (fun (v18 : (List AV) × Int) =>
      j16 (v18.1, Ld v15 v18.2 v8.2.1, v18.2))
     fun j18 =>
     (Hj N p0 v13.1).bind fun v19 =>
     BQ (fun (v20 : Bool) =>
      AR v20
       (j18 (v8.1, (-1)))
       ((Ft (v8.1.length + (([(AV.mk v13.1 v2.2.2 v11 (([] : List Int)))] : List AV)).length ≤ FQ)).bind fun _ =>
       j18 (v8.1 ++ (([(AV.mk v13.1 v2.2.2 v11 (([] : List Int)))] : List AV)), (v8.1.length : Int))))
     fun j20 =>
     AR ((v19.2 != 0))
      (j20 true)
      (j20 (!v19.1)))
     (j16 (v8.1, v8.2.1, ((Ku v15 v8.2.1).getD 0)))))
   (j8 (v8.1, v8.2.1))
def Fo (N : Nat) (p0 : Ah) (j2 : ((List AV)) → Option ((List AV) × Int)) : Nat → ((List AV) × (List (ByteArray × Int)) × Int) → Option ((List AV) × Int)
 | 0, _ => none
 | n2 + 1, v2 =>
  AR ((decide (v2.2.2 < (v2.1.length : Int))))
   ((Bg v2.1 v2.2.2).bind fun v5 =>
   (Ht N p0 ((AC.mk v5.fv.fg v5.fv.ff v5.fv.fi))).bind fun v6 =>
   AR ((v6.2 != 0))
    (some (([] : List AV), v6.2))
    (Fu N p0 v2 v6 (fun (v9 : (List AV) × (List (ByteArray × Int))) =>
     Fo N p0 j2 n2 (v9.1, v9.2, (wI .i64 (v2.2.2 + 1)))) N (v2.1, v2.2.1, 0)))
   (j2 v2.1)
def HP (N : Nat) (p0 : Ah) (p1 : AC) : Option ((List AV) × Int) :=
 (Ih N p1).bind fun v1 =>
 Fo N p0 (fun (v3 : (List AV)) =>
  some (v3, 0)) N (([(AV.mk p1 ((-1)) ((Ax.mk 0 0 0)) (([] : List Int)))] : List AV), Ld v1 0 (([] : List (ByteArray × Int))), 0)
def DB (N : Nat) (p0 : List Int) (p1 : List Int) (j2 : Unit → Option Bool) : Nat → Int → Option Bool
 | 0, _ => none
 | n2 + 1, v2 =>
  AR ((decide (v2 < (p0.length : Int))))
   ((Bg p0 v2).bind fun v5 =>
   (Bg p1 v2).bind fun v6 =>
   AR ((v5 != v6))
    (some false)
    (DB N p0 p1 j2 n2 (wI .i64 (v2 + 1))))
   (j2 ())
def EY (N : Nat) (p0 : List Int) (p1 : List Int) : Option Bool :=
 AR (((p0.length : Int) != (p1.length : Int)))
  (some false)
  (DB N p0 p1 (fun (_ : Unit) =>
   some true) N 0)
def C5 (N : Nat) (p0 : List Int) (p1 : Int → Option Bool) (j1 : Unit → Option Int) : Nat → Int → Option Int
 | 0, _ => none
 | n1 + 1, v1 =>
  AR ((decide (v1 < (p0.length : Int))))
   ((Bg p0 v1).bind fun v4 =>
   (p1 v4).bind fun v5 =>
   AR v5
    (some v1)
    (C5 N p0 p1 j1 n1 (wI .i64 (v1 + 1))))
   (j1 ())
def Ec (N : Nat) (p0 : List Int) (p1 : Int → Option Bool) : Option Int :=
 C5 N p0 p1 (fun (_ : Unit) =>
  some ((-1))) N 0
def DU (N : Nat) (p0 : List Int) (p1 : Int → Option Bool) : Option Bool :=
 (Ec N p0 p1).bind fun v1 =>
 some ((decide (0 ≤ v1)))
def Hm (_ : Nat) (p0 : Int) : Option Bool :=
 some ((decide (0 ≤ p0)))
def Jq (N : Nat) (p0 : Ah) (p1 : AC) : Option Bool :=
 BQ (fun (v1 : Bool) =>
  some v1)
 fun j1 =>
 (FX N p0 p1).bind fun v2 =>
 AR ((v2 == 0))
  ((EY N p1.fg p0.fd).bind fun v4 =>
  AR v4
   ((DU N p1.ff ((fun (x : Int) => Hm N x))).bind fun v6 =>
   j1 (!v6))
   (j1 false))
  (j1 false)
def FE (N : Nat) (p0 : AV) (p1 : List Int) (p2 : List Int) (p3 : List Int) (p4 : List Av) : Option Bool :=
 (Jq N ((Ah.mk p1 p2 p3 p4)) ((AC.mk p0.fv.fg p0.fv.ff p0.fv.fi))).bind fun v1 =>
 some v1
def BP (N : Nat) (p0 : List AV) (p1 : AV → Option Bool) (j1 : Unit → Option Int) : Nat → Int → Option Int
 | 0, _ => none
 | n1 + 1, v1 =>
  AR ((decide (v1 < (p0.length : Int))))
   ((Bg p0 v1).bind fun v4 =>
   (p1 ((AV.mk ((AC.mk v4.fv.fg v4.fv.ff v4.fv.fi)) v4.fh ((Ax.mk v4.fw.fe v4.fw.fp v4.fw.fu)) v4.ff))).bind fun v5 =>
   AR v5
    (some v1)
    (BP N p0 p1 j1 n1 (wI .i64 (v1 + 1))))
   (j1 ())
def CU (N : Nat) (p0 : List AV) (p1 : AV → Option Bool) : Option Int :=
 BP N p0 p1 (fun (_ : Unit) =>
  some ((-1))) N 0
def Cd (N : Nat) (j1 : ((List Ax)) → Option ((List Ax))) : Nat → ((List Ax) × Int × Int) → Option ((List Ax))
 | 0, _ => none
 | n1 + 1, v1 =>
  AR ((decide (v1.2.1 < v1.2.2)))
   ((Bg v1.1 v1.2.2).bind fun v4 =>
   (Bg v1.1 v1.2.1).bind fun v5 =>
   (Bg v1.1 v1.2.1).bind fun _ =>
   (Bg (v1.1.set ((v1.2.1).toNat) v4) v1.2.2).bind fun _ =>
   Cd N j1 n1 ((v1.1.set ((v1.2.1).toNat) v4).set ((v1.2.2).toNat) v5, (wI .i64 (v1.2.1 + 1)), (wI .i64 (v1.2.2 - 1))))
   (j1 v1.1)
def Dm (N : Nat) (p0 : List Ax) : Option ((List Ax)) :=
 Cd N (fun (v2 : (List Ax)) =>
  some v2) N (p0, 0, (wI .i64 ((p0.length : Int) - 1)))
def GM (N : Nat) (p0 : List AV) (j1 : ((List Ax)) → Option ((List Ax))) : Nat → (Int × (List Ax)) → Option ((List Ax))
 | 0, _ => none
 | n1 + 1, v1 =>
  (Bg p0 v1.1).bind fun v3 =>
  AR ((decide (0 ≤ v3.fh)))
   ((Bg p0 v1.1).bind fun v5 =>
   (Ft (v1.2.length + (([(Ax.mk v5.fw.fe v5.fw.fp v5.fw.fu)] : List Ax)).length ≤ FQ)).bind fun _ =>
   (Bg p0 v1.1).bind fun v7 =>
   GM N p0 j1 n1 (v7.fh, v1.2 ++ (([(Ax.mk v5.fw.fe v5.fw.fp v5.fw.fu)] : List Ax))))
   (j1 v1.2)
def Jy (N : Nat) (p0 : List AV) (p1 : Int) : Option ((List Ax)) :=
 GM N p0 (fun (v2 : (List Ax)) =>
  (Dm N v2).bind fun v8 =>
  some v8) N (p1, ([] : List Ax))
def IR (N : Nat) (p0 : Ah) (p1 : AC) : Option ((List Ax) × Int) :=
 (Hj N p0 p1).bind fun v1 =>
 AR ((v1.2 != 0))
  (some (([] : List Ax), v1.2))
  (AR ((!v1.1))
   (some (([] : List Ax), 13))
   ((HP N p0 p1).bind fun v4 =>
   AR ((v4.2 != 0))
    (some (([] : List Ax), v4.2))
    ((CU N v4.1 ((fun (x : AV) => FE N x p0.fb p0.fc p0.fd p0.fa))).bind fun v6 =>
    AR ((decide (v6 < 0)))
     (some (([] : List Ax), 14))
     ((Jy N v4.1 v6).bind fun v8 =>
     some (v8, 0)))))
def IT (N : Nat) (p0 : Ah) : Option ((List Ax) × Int) :=
 (IV N p0).bind fun v1 =>
 AR ((v1.2 != 0))
  (some (([] : List Ax), v1.2))
  ((IR N p0 v1.1).bind fun v3 =>
  some (v3.1, v3.2))
def Es (N : Nat) (p0 : Ah) (p1 : List Ab) : Option (Bool × Int) :=
 (EB N p0 p1).bind fun v1 =>
 (IT N v1).bind fun v2 =>
 AR ((v2.2 == 3))
  (some (false, v2.2))
  (some ((v2.2 == 0), 0))
def Fn (N : Nat) (p0 : Ah) (v7 : (List (List Ab))) (j8 : ((List (List Ab))) → Option ((List (List Ab)) × Int)) : Nat → ((List (List Ab)) × Int) → Option ((List (List Ab)) × Int)
 | 0, _ => none
 | n8 + 1, v8 =>
  AR ((decide (v8.2 < (v7.length : Int))))
   (BQ (fun (v11 : (List (List Ab))) =>
    Fn N p0 v7 j8 n8 (v11, (wI .i64 (v8.2 + 1))))
   fun j11 =>
   (Bg v7 v8.2).bind fun v12 =>
   (Es N p0 v12).bind fun v13 =>
   AR ((v13.2 != 0))
    (some (([] : List (List Ab)), v13.2))
    (AR v13.1
     ((Ft (v8.1.length + (([v12] : List (List Ab))).length ≤ FQ)).bind fun _ =>
     j11 (v8.1 ++ (([v12] : List (List Ab)))))
     (j11 v8.1)))
   (j8 v8.1)
def Fp (N : Nat) (p0 : Ah) (j4 : Unit → Option ((List (List Ab)) × Int)) : Nat → ((List Ab) × Int) → Option ((List (List Ab)) × Int)
 | 0, _ => none
 | n4 + 1, v4 =>
  AR ((decide (v4.2 ≤ 3)))
   ((Jg N v4.1 v4.2).bind fun v7 =>
   Fn N p0 v7 (fun (v9 : (List (List Ab))) =>
    AR ((decide (0 < (v9.length : Int))))
     (some (v9, 0))
     (Fp N p0 j4 n4 (v4.1, (wI .i64 (v4.2 + 1))))) N (([] : List (List Ab)), 0))
   (j4 ())
def GG (N : Nat) (p0 : Ah) : Option ((List (List Ab)) × Int) :=
 (Dq N p0).bind fun v1 =>
 AR ((v1.2 != 0))
  (some (([] : List (List Ab)), v1.2))
  (AR ((decide (24 < (v1.1.length : Int))))
   (some (([] : List (List Ab)), 3))
   (Fp N p0 (fun (_ : Unit) =>
    some (([] : List (List Ab)), 14)) N (v1.1, 0)))
def AU (N : Nat) (p0 : List Ab) (p1 : Ab) (j1 : Unit → Option Int) : Nat → Int → Option Int
 | 0, _ => none
 | n1 + 1, v1 =>
  AR ((decide (v1 < (p0.length : Int))))
   ((Bg p0 v1).bind fun v4 =>
   AR (((p1.ft == v4.ft) && ((p1.fr == v4.fr) && ((p1.fq == v4.fq) && true))))
    (some v1)
    (AU N p0 p1 j1 n1 (wI .i64 (v1 + 1))))
   (j1 ())
def BW (N : Nat) (p0 : List Ab) (p1 : Ab) : Option Int :=
 AU N p0 p1 (fun (_ : Unit) =>
  some ((-1))) N 0
def Bj (N : Nat) (p0 : List Ab) (p1 : Ab) : Option Bool :=
 (BW N p0 p1).bind fun v1 =>
 some ((decide (0 ≤ v1)))
def DI (N : Nat) (p1 : List Ab) (v3 : (List Ab)) (j4 : Unit → Option Int) : Nat → Int → Option Int
 | 0, _ => none
 | n4 + 1, v4 =>
  AR ((decide (v4 < (p1.length : Int))))
   ((Bg p1 v4).bind fun v7 =>
   (Bj N v3 v7).bind fun v8 =>
   AR ((!v8))
    (some 4)
    (DI N p1 v3 j4 n4 (wI .i64 (v4 + 1))))
   (j4 ())
def En (N : Nat) (p0 : Ah) (p1 : List Ab) : Option Int :=
 (Br N p0).bind fun v1 =>
 AR ((v1 != 0))
  (some v1)
  ((Dr N p0).bind fun v3 =>
  DI N p1 v3 (fun (_ : Unit) =>
   some 0) N 0)
def AZ (_ : Nat) (p0 : List Ab) : Option ((List Ab)) :=
 (Ft ((([] : List Ab)).length + p0.length ≤ FQ)).bind fun _ =>
 some ((([] : List Ab)) ++ p0)
def Gx (_ : Nat) (p0 : Int) : Option Int :=
 BQ (fun (v1 : Int × Int) =>
  BQ (fun (v3 : Int × Int) =>
   (QK ((⟨⟨(List.append (List.append [0, 1, 2, 2, 3, 3, 3, 3, 4, 4, 4, 4, 4, 4, 4, 4, 5, 5, 5, 5, 5, 5, 5, 5, 5, 5, 5, 5, 5, 5, 5, 5, 6, 6, 6, 6, 6, 6, 6, 6, 6, 6, 6, 6, 6, 6, 6, 6, 6, 6, 6, 6, 6, 6, 6, 6, 6, 6, 6, 6, 6, 6, 6, 6] [7, 7, 7, 7, 7, 7, 7, 7, 7, 7, 7, 7, 7, 7, 7, 7, 7, 7, 7, 7, 7, 7, 7, 7, 7, 7, 7, 7, 7, 7, 7, 7, 7, 7, 7, 7, 7, 7, 7, 7, 7, 7, 7, 7, 7, 7, 7, 7, 7, 7, 7, 7, 7, 7, 7, 7, 7, 7, 7, 7, 7, 7, 7, 7]) (List.append [8, 8, 8, 8, 8, 8, 8, 8, 8, 8, 8, 8, 8, 8, 8, 8, 8, 8, 8, 8, 8, 8, 8, 8, 8, 8, 8, 8, 8, 8, 8, 8, 8, 8, 8, 8, 8, 8, 8, 8, 8, 8, 8, 8, 8, 8, 8, 8, 8, 8, 8, 8, 8, 8, 8, 8, 8, 8, 8, 8, 8, 8, 8, 8] [8, 8, 8, 8, 8, 8, 8, 8, 8, 8, 8, 8, 8, 8, 8, 8, 8, 8, 8, 8, 8, 8, 8, 8, 8, 8, 8, 8, 8, 8, 8, 8, 8, 8, 8, 8, 8, 8, 8, 8, 8, 8, 8, 8, 8, 8, 8, 8, 8, 8, 8, 8, 8, 8, 8, 8, 8, 8, 8, 8, 8, 8, 8, 8]))⟩⟩ : ByteArray)) ((wI .u8 v3.1))).bind fun v5 =>
   some ((wI .i64 (v3.2 + (wI .i64 v5)))))
  fun j3 =>
  AR ((decide (256 ≤ v1.1)))
   (j3 ((E4 .u32 v1.1 8), (wI .i64 (v1.2 + 8))))
   (j3 (v1.1, v1.2)))
 fun j1 =>
 AR ((decide (65536 ≤ p0)))
  (j1 ((E4 .u32 p0 16), 16))
  (j1 (p0, 0))
def Gw (_ : Nat) (p0 : Int) : Option Int :=
 BQ (fun (v1 : Int × Int) =>
  BQ (fun (v3 : Int × Int) =>
   BQ (fun (v5 : Int × Int) =>
    (QK ((⟨⟨(List.append (List.append [0, 1, 2, 2, 3, 3, 3, 3, 4, 4, 4, 4, 4, 4, 4, 4, 5, 5, 5, 5, 5, 5, 5, 5, 5, 5, 5, 5, 5, 5, 5, 5, 6, 6, 6, 6, 6, 6, 6, 6, 6, 6, 6, 6, 6, 6, 6, 6, 6, 6, 6, 6, 6, 6, 6, 6, 6, 6, 6, 6, 6, 6, 6, 6] [7, 7, 7, 7, 7, 7, 7, 7, 7, 7, 7, 7, 7, 7, 7, 7, 7, 7, 7, 7, 7, 7, 7, 7, 7, 7, 7, 7, 7, 7, 7, 7, 7, 7, 7, 7, 7, 7, 7, 7, 7, 7, 7, 7, 7, 7, 7, 7, 7, 7, 7, 7, 7, 7, 7, 7, 7, 7, 7, 7, 7, 7, 7, 7]) (List.append [8, 8, 8, 8, 8, 8, 8, 8, 8, 8, 8, 8, 8, 8, 8, 8, 8, 8, 8, 8, 8, 8, 8, 8, 8, 8, 8, 8, 8, 8, 8, 8, 8, 8, 8, 8, 8, 8, 8, 8, 8, 8, 8, 8, 8, 8, 8, 8, 8, 8, 8, 8, 8, 8, 8, 8, 8, 8, 8, 8, 8, 8, 8, 8] [8, 8, 8, 8, 8, 8, 8, 8, 8, 8, 8, 8, 8, 8, 8, 8, 8, 8, 8, 8, 8, 8, 8, 8, 8, 8, 8, 8, 8, 8, 8, 8, 8, 8, 8, 8, 8, 8, 8, 8, 8, 8, 8, 8, 8, 8, 8, 8, 8, 8, 8, 8, 8, 8, 8, 8, 8, 8, 8, 8, 8, 8, 8, 8]))⟩⟩ : ByteArray)) ((wI .u8 v5.1))).bind fun v7 =>
    some ((wI .i64 (v5.2 + (wI .i64 v7)))))
   fun j5 =>
   AR ((decide (256 ≤ v3.1)))
    (j5 ((E4 .u64 v3.1 8), (wI .i64 (v3.2 + 8))))
    (j5 (v3.1, v3.2)))
  fun j3 =>
  AR ((decide (65536 ≤ v1.1)))
   (j3 ((E4 .u64 v1.1 16), (wI .i64 (v1.2 + 16))))
   (j3 (v1.1, v1.2)))
 fun j1 =>
 AR ((decide (4294967296 ≤ p0)))
  (j1 ((E4 .u64 p0 32), 32))
  (j1 (p0, 0))
def FM (N : Nat) (p0 : Int) : Option Int :=
 AR false
  ((Gx N ((wI .u32 p0))).bind fun v2 =>
  some v2)
  ((Gw N p0).bind fun v3 =>
  some v3)
def BE (N : Nat) (p1 : Int) (p3 : (Ab × Ab) → Option Int) (j4 : ((List Ab)) → Option ((List Ab))) : Nat → ((List Ab) × Int) → Option ((List Ab))
 | 0, _ => none
 | n4 + 1, v4 =>
  BQ (fun (v6 : Bool) =>
   AR v6
    ((Bg v4.1 ((wI .i64 (v4.2 - 1)))).bind fun v12 =>
    (Bg v4.1 v4.2).bind fun v13 =>
    (Bg v4.1 v4.2).bind fun _ =>
    (Bg (v4.1.set ((v4.2).toNat) v12) ((wI .i64 (v4.2 - 1)))).bind fun _ =>
    BE N p1 p3 j4 n4 ((v4.1.set ((v4.2).toNat) v12).set (((wI .i64 (v4.2 - 1))).toNat) v13, (wI .i64 (v4.2 - 1))))
    (j4 v4.1))
  fun j6 =>
  AR ((decide (p1 < v4.2)))
   ((Bg v4.1 v4.2).bind fun v8 =>
   (Bg v4.1 ((wI .i64 (v4.2 - 1)))).bind fun v9 =>
   (p3 ((v8, v9))).bind fun v10 =>
   j6 (decide (v10 < 0)))
   (j6 false)
def Bz (N : Nat) (p1 : Int) (p2 : Int) (p3 : (Ab × Ab) → Option Int) (j1 : ((List Ab)) → Option ((List Ab))) : Nat → ((List Ab) × Int) → Option ((List Ab))
 | 0, _ => none
 | n1 + 1, v1 =>
  AR ((decide (v1.2 < p2)))
   (BE N p1 p3 (fun (v5 : (List Ab)) =>
    Bz N p1 p2 p3 j1 n1 (v5, (wI .i64 (v1.2 + 1)))) N (v1.1, v1.2))
   (j1 v1.1)
def CA (N : Nat) (p0 : List Ab) (p1 : Int) (p2 : Int) (p3 : (Ab × Ab) → Option Int) : Option ((List Ab)) :=
 Bz N p1 p2 p3 (fun (v2 : (List Ab)) =>
  some v2) N (p0, (wI .i64 (p1 + 1)))
def BY (N : Nat) (p2 : Int) (p3 : Int) (p4 : (Ab × Ab) → Option Int) (j1 : ((List Ab)) → Option ((List Ab))) : Nat → ((List Ab) × Int) → Option ((List Ab))
 | 0, _ => none
 | n1 + 1, v1 =>
  AR ((decide (p2 ≤ (wI .i64 ((wI .i64 (2 * v1.2)) + 1)))))
   (j1 v1.1)
   (BQ (fun (v4 : Int) =>
    (Bg v1.1 ((wI .i64 (p3 + v1.2)))).bind fun v11 =>
    (Bg v1.1 ((wI .i64 (p3 + v4)))).bind fun v12 =>
    (p4 ((v11, v12))).bind fun v13 =>
    AR ((!((decide (v13 < 0)))))
     (some v1.1)
     ((Bg v1.1 ((wI .i64 (p3 + v4)))).bind fun v15 =>
     (Bg v1.1 ((wI .i64 (p3 + v1.2)))).bind fun v16 =>
     (Bg v1.1 ((wI .i64 (p3 + v1.2)))).bind fun _ =>
     (Bg (v1.1.set (((wI .i64 (p3 + v1.2))).toNat) v15) ((wI .i64 (p3 + v4)))).bind fun _ =>
     BY N p2 p3 p4 j1 n1 ((v1.1.set (((wI .i64 (p3 + v1.2))).toNat) v15).set (((wI .i64 (p3 + v4))).toNat) v16, v4)))
   fun j4 =>
   BQ (fun (v5 : Bool) =>
    AR v5
     (j4 (wI .i64 ((wI .i64 ((wI .i64 (2 * v1.2)) + 1)) + 1)))
     (j4 (wI .i64 ((wI .i64 (2 * v1.2)) + 1))))
   fun j5 =>
   AR ((decide ((wI .i64 ((wI .i64 ((wI .i64 (2 * v1.2)) + 1)) + 1)) < p2)))
    ((Bg v1.1 ((wI .i64 (p3 + (wI .i64 ((wI .i64 (2 * v1.2)) + 1)))))).bind fun v7 =>
    (Bg v1.1 ((wI .i64 ((wI .i64 (p3 + (wI .i64 ((wI .i64 (2 * v1.2)) + 1)))) + 1)))).bind fun v8 =>
    (p4 ((v7, v8))).bind fun v9 =>
    j5 (decide (v9 < 0)))
    (j5 false))
def B9 (N : Nat) (p0 : List Ab) (p1 : Int) (p2 : Int) (p3 : Int) (p4 : (Ab × Ab) → Option Int) : Option ((List Ab)) :=
 BY N p2 p3 p4 (fun (v2 : (List Ab)) =>
  some v2) N (p0, p1)
def BZ (N : Nat) (p1 : Int) (p2 : Int) (p3 : (Ab × Ab) → Option Int) (j1 : ((List Ab)) → Option ((List Ab))) : Nat → ((List Ab) × Int) → Option ((List Ab))
 | 0, _ => none
 | n1 + 1, v1 =>
  AR ((decide (0 ≤ v1.2)))
   ((B9 N v1.1 v1.2 ((wI .i64 (p2 - p1))) p1 p3).bind fun v4 =>
   BZ N p1 p2 p3 j1 n1 (v4, (wI .i64 (v1.2 - 1))))
   (j1 v1.1)
def BX (N : Nat) (p1 : Int) (p3 : (Ab × Ab) → Option Int) (j5 : ((List Ab)) → Option ((List Ab))) : Nat → ((List Ab) × Int) → Option ((List Ab))
 | 0, _ => none
 | n5 + 1, v5 =>
  AR ((decide (0 ≤ v5.2)))
   ((Bg v5.1 ((wI .i64 (p1 + v5.2)))).bind fun v8 =>
   (Bg v5.1 p1).bind fun v9 =>
   (Bg v5.1 p1).bind fun _ =>
   (Bg (v5.1.set ((p1).toNat) v8) ((wI .i64 (p1 + v5.2)))).bind fun _ =>
   (B9 N ((v5.1.set ((p1).toNat) v8).set (((wI .i64 (p1 + v5.2))).toNat) v9) 0 v5.2 p1 p3).bind fun v12 =>
   BX N p1 p3 j5 n5 (v12, (wI .i64 (v5.2 - 1))))
   (j5 v5.1)
def C2 (N : Nat) (p0 : List Ab) (p1 : Int) (p2 : Int) (p3 : (Ab × Ab) → Option Int) : Option ((List Ab)) :=
 BZ N p1 p2 p3 (fun (v2 : (List Ab)) =>
  BX N p1 p3 (fun (v6 : (List Ab)) =>
   some v6) N (v2, (wI .i64 ((wI .i64 (p2 - p1)) - 1)))) N (p0, (wI .i64 (Int.tdiv ((wI .i64 ((wI .i64 (p2 - p1)) - 1))) 2)))
def EM (N : Nat) (p0 : Int) : Option Int :=
 (FM N ((wI .u64 p0))).bind fun v1 =>
 (Ft (0 ≤ v1)).bind fun _ =>
 some ((EA .u64 1 v1))
def EX (_ : Nat) (p0 : Int) : Option (Int × Int) :=
 some ((Gt .u64 ((Gt .u64 ((Gt .u64 p0 ((EA .u64 p0 13)))) ((E4 .u64 ((Gt .u64 p0 ((EA .u64 p0 13)))) 7)))) ((EA .u64 ((Gt .u64 ((Gt .u64 p0 ((EA .u64 p0 13)))) ((E4 .u64 ((Gt .u64 p0 ((EA .u64 p0 13)))) 7)))) 17))), (Gt .u64 ((Gt .u64 ((Gt .u64 p0 ((EA .u64 p0 13)))) ((E4 .u64 ((Gt .u64 p0 ((EA .u64 p0 13)))) 7)))) ((EA .u64 ((Gt .u64 ((Gt .u64 p0 ((EA .u64 p0 13)))) ((E4 .u64 ((Gt .u64 p0 ((EA .u64 p0 13)))) 7)))) 17))))
def BB (N : Nat) (p1 : Int) (p2 : Int) (v2 : Int) (j3 : ((List Ab)) → Option ((List Ab))) : Nat → ((List Ab) × Int × Int) → Option ((List Ab))
 | 0, _ => none
 | n3 + 1, v3 =>
  AR ((decide (v3.2.2 ≤ (wI .i64 ((wI .i64 (p1 + (wI .i64 ((wI .i64 (Int.tdiv ((wI .i64 (p2 - p1))) 4)) * 2)))) + 1)))))
   ((EX N v3.2.1).bind fun v6 =>
   BQ (fun (v7 : Int) =>
    (Bg v3.1 ((wI .i64 (p1 + v7)))).bind fun v9 =>
    (Bg v3.1 v3.2.2).bind fun v10 =>
    (Bg v3.1 v3.2.2).bind fun _ =>
    (Bg (v3.1.set ((v3.2.2).toNat) v9) ((wI .i64 (p1 + v7)))).bind fun _ =>
    BB N p1 p2 v2 j3 n3 ((v3.1.set ((v3.2.2).toNat) v9).set (((wI .i64 (p1 + v7))).toNat) v10, v6.2, (wI .i64 (v3.2.2 + 1))))
   fun j7 =>
   AR ((decide ((wI .i64 (p2 - p1)) ≤ (wI .i64 ((Hs .u64 v6.1 ((wI .u64 (v2 - 1)))))))))
    (j7 (wI .i64 ((wI .i64 ((Hs .u64 v6.1 ((wI .u64 (v2 - 1)))))) - (wI .i64 (p2 - p1)))))
    (j7 (wI .i64 ((Hs .u64 v6.1 ((wI .u64 (v2 - 1))))))))
   (j3 v3.1)
def Cz (N : Nat) (p0 : List Ab) (p1 : Int) (p2 : Int) (_ : (Ab × Ab) → Option Int) : Option ((List Ab)) :=
 AR ((decide (8 ≤ (wI .i64 (p2 - p1)))))
  ((EM N ((wI .i64 (p2 - p1)))).bind fun v2 =>
  BB N p1 p2 v2 (fun (v4 : (List Ab)) =>
   some v4) N (p0, (wI .u64 ((wI .i64 (p2 - p1)))), (wI .i64 ((wI .i64 (p1 + (wI .i64 ((wI .i64 (Int.tdiv ((wI .i64 (p2 - p1))) 4)) * 2)))) - 1))))
  (some p0)
def BN (_ : Nat) (p0 : List Ab) (p1 : Int) (p2 : Int) (p3 : Int) (p4 : (Ab × Ab) → Option Int) : Option (Int × Int × Int) :=
 (Bg p0 p2).bind fun v1 =>
 (Bg p0 p1).bind fun v2 =>
 (p4 ((v1, v2))).bind fun v3 =>
 AR ((decide (v3 < 0)))
  (some (p2, p1, (wI .i64 (p3 + 1))))
  (some (p1, p2, p3))
def Cp (N : Nat) (p0 : List Ab) (p1 : Int) (p2 : Int) (p3 : Int) (p4 : Int) (p5 : (Ab × Ab) → Option Int) : Option (Int × Int) :=
 (BN N p0 p1 p2 p4 p5).bind fun v1 =>
 (BN N p0 v1.2.1 p3 v1.2.2 p5).bind fun v2 =>
 (BN N p0 v1.1 v2.1 v2.2.2 p5).bind fun v3 =>
 some (v3.2.1, v3.2.2)
def Bh (N : Nat) (p0 : List Ab) (p1 : Int) (p2 : Int) (p3 : (Ab × Ab) → Option Int) : Option (Int × Int) :=
 (Cp N p0 ((wI .i64 (p1 - 1))) p1 ((wI .i64 (p1 + 1))) p2 p3).bind fun v1 =>
 some (v1.1, v1.2)
def CJ (N : Nat) (p0 : List Ab) (p1 : Int) (p2 : Int) (p3 : (Ab × Ab) → Option Int) : Option (Int × Int) :=
 BQ (fun (v1 : Int × Int) =>
  AR ((v1.1 == 0))
   (some (v1.2, 1))
   (AR ((v1.1 == 12))
    (some (v1.2, 2))
    (some (v1.2, 0))))
 fun j1 =>
 AR ((decide (8 ≤ (wI .i64 (p2 - p1)))))
  (BQ (fun (v3 : Int × Int × Int × Int) =>
   (Cp N p0 v3.2.1 v3.2.2.1 v3.2.2.2 v3.1 p3).bind fun v8 =>
   j1 (v8.2, v8.1))
  fun j3 =>
  AR ((decide (50 ≤ (wI .i64 (p2 - p1)))))
   ((Bh N p0 ((wI .i64 (p1 + (wI .i64 ((wI .i64 (Int.tdiv ((wI .i64 (p2 - p1))) 4)) * 1))))) 0 p3).bind fun v5 =>
   (Bh N p0 ((wI .i64 (p1 + (wI .i64 ((wI .i64 (Int.tdiv ((wI .i64 (p2 - p1))) 4)) * 2))))) v5.2 p3).bind fun v6 =>
   (Bh N p0 ((wI .i64 (p1 + (wI .i64 ((wI .i64 (Int.tdiv ((wI .i64 (p2 - p1))) 4)) * 3))))) v6.2 p3).bind fun v7 =>
   j3 (v7.2, v5.1, v6.1, v7.1))
   (j3 (0, (wI .i64 (p1 + (wI .i64 ((wI .i64 (Int.tdiv ((wI .i64 (p2 - p1))) 4)) * 1)))), (wI .i64 (p1 + (wI .i64 ((wI .i64 (Int.tdiv ((wI .i64 (p2 - p1))) 4)) * 2)))), (wI .i64 (p1 + (wI .i64 ((wI .i64 (Int.tdiv ((wI .i64 (p2 - p1))) 4)) * 3)))))))
  (j1 (0, (wI .i64 (p1 + (wI .i64 ((wI .i64 (Int.tdiv ((wI .i64 (p2 - p1))) 4)) * 2))))))
def BF (N : Nat) (j1 : ((List Ab)) → Option ((List Ab))) : Nat → ((List Ab) × Int × Int) → Option ((List Ab))
 | 0, _ => none
 | n1 + 1, v1 =>
  AR ((decide (v1.2.1 < v1.2.2)))
   ((Bg v1.1 v1.2.2).bind fun v4 =>
   (Bg v1.1 v1.2.1).bind fun v5 =>
   (Bg v1.1 v1.2.1).bind fun _ =>
   (Bg (v1.1.set ((v1.2.1).toNat) v4) v1.2.2).bind fun _ =>
   BF N j1 n1 ((v1.1.set ((v1.2.1).toNat) v4).set ((v1.2.2).toNat) v5, (wI .i64 (v1.2.1 + 1)), (wI .i64 (v1.2.2 - 1))))
   (j1 v1.1)
def CG (N : Nat) (p0 : List Ab) (p1 : Int) (p2 : Int) (_ : (Ab × Ab) → Option Int) : Option ((List Ab)) :=
 BF N (fun (v2 : (List Ab)) =>
  some v2) N (p0, p1, (wI .i64 (p2 - 1)))
def Be (N : Nat) (p2 : Int) (p3 : (Ab × Ab) → Option Int) (v1 : (List Ab) × Int × Int) (j5 : Int → Option (Bool × (List Ab))) : Nat → Int → Option (Bool × (List Ab))
 | 0, _ => none
 | n5 + 1, v5 =>
  BQ (fun (v7 : Bool) =>
   AR v7
    (Be N p2 p3 v1 j5 n5 (wI .i64 (v5 + 1)))
    (j5 v5))
  fun j7 =>
  AR ((decide (v5 < p2)))
   ((Bg v1.1 v5).bind fun v9 =>
   (Bg v1.1 ((wI .i64 (v5 - 1)))).bind fun v10 =>
   (p3 ((v9, v10))).bind fun v11 =>
   j7 (!((decide (v11 < 0)))))
   (j7 false)
def Bb (N : Nat) (p3 : (Ab × Ab) → Option Int) (j21 : ((List Ab)) → Option (Bool × (List Ab))) : Nat → ((List Ab) × Int) → Option (Bool × (List Ab))
 | 0, _ => none
 | n21 + 1, v21 =>
  AR ((decide (1 ≤ v21.2)))
   ((Bg v21.1 v21.2).bind fun v24 =>
   (Bg v21.1 ((wI .i64 (v21.2 - 1)))).bind fun v25 =>
   (p3 ((v24, v25))).bind fun v26 =>
   AR ((!((decide (v26 < 0)))))
    (j21 v21.1)
    ((Bg v21.1 ((wI .i64 (v21.2 - 1)))).bind fun v28 =>
    (Bg v21.1 v21.2).bind fun v29 =>
    (Bg v21.1 v21.2).bind fun _ =>
    (Bg (v21.1.set ((v21.2).toNat) v28) ((wI .i64 (v21.2 - 1)))).bind fun _ =>
    Bb N p3 j21 n21 ((v21.1.set ((v21.2).toNat) v28).set (((wI .i64 (v21.2 - 1))).toNat) v29, (wI .i64 (v21.2 - 1)))))
   (j21 v21.1)
def Ba (N : Nat) (p2 : Int) (p3 : (Ab × Ab) → Option Int) (j33 : ((List Ab)) → Option (Bool × (List Ab))) : Nat → ((List Ab) × Int) → Option (Bool × (List Ab))
 | 0, _ => none
 | n33 + 1, v33 =>
  AR ((decide (v33.2 < p2)))
   ((Bg v33.1 v33.2).bind fun v36 =>
   (Bg v33.1 ((wI .i64 (v33.2 - 1)))).bind fun v37 =>
   (p3 ((v36, v37))).bind fun v38 =>
   AR ((!((decide (v38 < 0)))))
    (j33 v33.1)
    ((Bg v33.1 ((wI .i64 (v33.2 - 1)))).bind fun v40 =>
    (Bg v33.1 v33.2).bind fun v41 =>
    (Bg v33.1 v33.2).bind fun _ =>
    (Bg (v33.1.set ((v33.2).toNat) v40) ((wI .i64 (v33.2 - 1)))).bind fun _ =>
    Ba N p2 p3 j33 n33 ((v33.1.set ((v33.2).toNat) v40).set (((wI .i64 (v33.2 - 1))).toNat) v41, (wI .i64 (v33.2 + 1)))))
   (j33 v33.1)
def Bf (N : Nat) (p1 : Int) (p2 : Int) (p3 : (Ab × Ab) → Option Int) (j1 : ((List Ab)) → Option (Bool × (List Ab))) : Nat → ((List Ab) × Int × Int) → Option (Bool × (List Ab))
 | 0, _ => none
 | n1 + 1, v1 =>
  AR ((decide (v1.2.2 < 5)))
   (BQ (fun (v4 : (List Ab) × Int) =>
    Bf N p1 p2 p3 j1 n1 (v4.1, v4.2, (wI .i64 (v1.2.2 + 1))))
   fun j4 =>
   Be N p2 p3 v1 (fun (v6 : Int) =>
    AR ((v6 == p2))
     (some (true, v1.1))
     (AR ((decide ((wI .i64 (p2 - p1)) < 50)))
      (some (false, v1.1))
      ((Bg v1.1 ((wI .i64 (v6 - 1)))).bind fun v15 =>
      (Bg v1.1 v6).bind fun v16 =>
      (Bg v1.1 v6).bind fun _ =>
      (Bg (v1.1.set ((v6).toNat) v15) ((wI .i64 (v6 - 1)))).bind fun _ =>
      BQ (fun (v19 : (List Ab)) =>
       AR ((decide (2 ≤ (wI .i64 (p2 - v6)))))
        (Ba N p2 p3 (fun (v34 : (List Ab)) =>
         j4 (v34, v6)) N (v19, (wI .i64 (v6 + 1))))
        (j4 (v19, v6)))
      fun j19 =>
      AR ((decide (2 ≤ (wI .i64 (v6 - p1)))))
       (Bb N p3 (fun (v22 : (List Ab)) =>
        j19 v22) N ((v1.1.set ((v6).toNat) v15).set (((wI .i64 (v6 - 1))).toNat) v16, (wI .i64 (v6 - 1))))
       (j19 ((v1.1.set ((v6).toNat) v15).set (((wI .i64 (v6 - 1))).toNat) v16))))) N v1.2.1)
   (j1 v1.1)
def B0 (N : Nat) (p0 : List Ab) (p1 : Int) (p2 : Int) (p3 : (Ab × Ab) → Option Int) : Option (Bool × (List Ab)) :=
 Bf N p1 p2 p3 (fun (v2 : (List Ab)) =>
  some (false, v2)) N (p0, (wI .i64 (p1 + 1)), 0)
def Bw (N : Nat) (p1 : Int) (p4 : (Ab × Ab) → Option Int) (v5 : (List Ab) × Int × Int) (j7 : Int → Option (Int × (List Ab))) : Nat → Int → Option (Int × (List Ab))
 | 0, _ => none
 | n7 + 1, v7 =>
  BQ (fun (v9 : Bool) =>
   AR v9
    (Bw N p1 p4 v5 j7 n7 (wI .i64 (v7 + 1)))
    (j7 v7))
  fun j9 =>
  AR ((decide (v7 ≤ v5.2.2)))
   ((Bg v5.1 p1).bind fun v11 =>
   (Bg v5.1 v7).bind fun v12 =>
   (p4 ((v11, v12))).bind fun v13 =>
   j9 (!((decide (v13 < 0)))))
   (j9 false)
def Bp (N : Nat) (p1 : Int) (p4 : (Ab × Ab) → Option Int) (v5 : (List Ab) × Int × Int) (v8 : Int) (j15 : Int → Option (Int × (List Ab))) : Nat → Int → Option (Int × (List Ab))
 | 0, _ => none
 | n15 + 1, v15 =>
  BQ (fun (v17 : Bool) =>
   AR v17
    (Bp N p1 p4 v5 v8 j15 n15 (wI .i64 (v15 - 1)))
    (j15 v15))
  fun j17 =>
  AR ((decide (v8 ≤ v15)))
   ((Bg v5.1 p1).bind fun v19 =>
   (Bg v5.1 v15).bind fun v20 =>
   (p4 ((v19, v20))).bind fun v21 =>
   j17 (decide (v21 < 0)))
   (j17 false)
def Bs (N : Nat) (p1 : Int) (p4 : (Ab × Ab) → Option Int) (j5 : ((List Ab) × Int) → Option (Int × (List Ab))) : Nat → ((List Ab) × Int × Int) → Option (Int × (List Ab))
 | 0, _ => none
 | n5 + 1, v5 =>
  Bw N p1 p4 v5 (fun (v8 : Int) =>
   Bp N p1 p4 v5 v8 (fun (v16 : Int) =>
    AR ((decide (v16 < v8)))
     (j5 (v5.1, v8))
     ((Bg v5.1 v16).bind fun v24 =>
     (Bg v5.1 v8).bind fun v25 =>
     (Bg v5.1 v8).bind fun _ =>
     (Bg (v5.1.set ((v8).toNat) v24) v16).bind fun _ =>
     Bs N p1 p4 j5 n5 ((v5.1.set ((v8).toNat) v24).set ((v16).toNat) v25, (wI .i64 (v8 + 1)), (wI .i64 (v16 - 1))))) N v5.2.2) N v5.2.1
def Cr (N : Nat) (p0 : List Ab) (p1 : Int) (p2 : Int) (p3 : Int) (p4 : (Ab × Ab) → Option Int) : Option (Int × (List Ab)) :=
 (Bg p0 p3).bind fun v1 =>
 (Bg p0 p1).bind fun v2 =>
 (Bg p0 p1).bind fun _ =>
 (Bg (p0.set ((p1).toNat) v1) p3).bind fun _ =>
 Bs N p1 p4 (fun (v6 : (List Ab) × Int) =>
  some (v6.2, v6.1)) N ((p0.set ((p1).toNat) v1).set ((p3).toNat) v2, (wI .i64 (p1 + 1)), (wI .i64 (p2 - 1)))
def BR (N : Nat) (p0 : List Ab) (p1 : Int) (p2 : Int) (p3 : Int) (p4 : (Ab × Ab) → Option Int) (v1 : Ab) (v2 : Ab) (j5 : Int → Option (Int × Bool × (List Ab))) : Nat → Int → Option (Int × Bool × (List Ab))
 | 0, _ => none
 | n5 + 1, v5 =>
  BQ (fun (v7 : Bool) =>
   AR v7
    (BR N p0 p1 p2 p3 p4 v1 v2 j5 n5 (wI .i64 (v5 + 1)))
    (j5 v5))
  fun j7 =>
  AR ((decide (v5 ≤ (wI .i64 (p2 - 1)))))
   ((Bg ((p0.set ((p1).toNat) v1).set ((p3).toNat) v2) v5).bind fun v9 =>
   (Bg ((p0.set ((p1).toNat) v1).set ((p3).toNat) v2) p1).bind fun v10 =>
   (p4 ((v9, v10))).bind fun v11 =>
   j7 (decide (v11 < 0)))
   (j7 false)
def BM (N : Nat) (p0 : List Ab) (p1 : Int) (p3 : Int) (p4 : (Ab × Ab) → Option Int) (v1 : Ab) (v2 : Ab) (v6 : Int) (j13 : Int → Option (Int × Bool × (List Ab))) : Nat → Int → Option (Int × Bool × (List Ab))
 | 0, _ => none
 | n13 + 1, v13 =>
  BQ (fun (v15 : Bool) =>
   AR v15
    (BM N p0 p1 p3 p4 v1 v2 v6 j13 n13 (wI .i64 (v13 - 1)))
    (j13 v13))
  fun j15 =>
  AR ((decide (v6 ≤ v13)))
   ((Bg ((p0.set ((p1).toNat) v1).set ((p3).toNat) v2) v13).bind fun v17 =>
   (Bg ((p0.set ((p1).toNat) v1).set ((p3).toNat) v2) p1).bind fun v18 =>
   (p4 ((v17, v18))).bind fun v19 =>
   j15 (!((decide (v19 < 0)))))
   (j15 false)
def BL (N : Nat) (p1 : Int) (p4 : (Ab × Ab) → Option Int) (v30 : (List Ab) × Int × Int) (j32 : Int → Option (Int × Bool × (List Ab))) : Nat → Int → Option (Int × Bool × (List Ab))
 | 0, _ => none
 | n32 + 1, v32 =>
  BQ (fun (v34 : Bool) =>
   AR v34
    (BL N p1 p4 v30 j32 n32 (wI .i64 (v32 + 1)))
    (j32 v32))
  fun j34 =>
  AR ((decide (v32 ≤ v30.2.2)))
   ((Bg v30.1 v32).bind fun v36 =>
   (Bg v30.1 p1).bind fun v37 =>
   (p4 ((v36, v37))).bind fun v38 =>
   j34 (decide (v38 < 0)))
   (j34 false)
def BK (N : Nat) (p1 : Int) (p4 : (Ab × Ab) → Option Int) (v30 : (List Ab) × Int × Int) (v33 : Int) (j40 : Int → Option (Int × Bool × (List Ab))) : Nat → Int → Option (Int × Bool × (List Ab))
 | 0, _ => none
 | n40 + 1, v40 =>
  BQ (fun (v42 : Bool) =>
   AR v42
    (BK N p1 p4 v30 v33 j40 n40 (wI .i64 (v40 - 1)))
    (j40 v40))
  fun j42 =>
  AR ((decide (v33 ≤ v40)))
   ((Bg v30.1 v40).bind fun v44 =>
   (Bg v30.1 p1).bind fun v45 =>
   (p4 ((v44, v45))).bind fun v46 =>
   j42 (!((decide (v46 < 0)))))
   (j42 false)
def BJ (N : Nat) (p1 : Int) (p4 : (Ab × Ab) → Option Int) (j30 : ((List Ab) × Int) → Option (Int × Bool × (List Ab))) : Nat → ((List Ab) × Int × Int) → Option (Int × Bool × (List Ab))
 | 0, _ => none
 | n30 + 1, v30 =>
  BL N p1 p4 v30 (fun (v33 : Int) =>
   BK N p1 p4 v30 v33 (fun (v41 : Int) =>
    AR ((decide (v41 < v33)))
     (j30 (v30.1, v41))
     ((Bg v30.1 v41).bind fun v49 =>
     (Bg v30.1 v33).bind fun v50 =>
     (Bg v30.1 v33).bind fun _ =>
     (Bg (v30.1.set ((v33).toNat) v49) v41).bind fun _ =>
     BJ N p1 p4 j30 n30 ((v30.1.set ((v33).toNat) v49).set ((v41).toNat) v50, (wI .i64 (v33 + 1)), (wI .i64 (v41 - 1))))) N v30.2.2) N v30.2.1
def CV (N : Nat) (p0 : List Ab) (p1 : Int) (p2 : Int) (p3 : Int) (p4 : (Ab × Ab) → Option Int) : Option (Int × Bool × (List Ab)) :=
 (Bg p0 p3).bind fun v1 =>
 (Bg p0 p1).bind fun v2 =>
 (Bg p0 p1).bind fun _ =>
 (Bg (p0.set ((p1).toNat) v1) p3).bind fun _ =>
 BR N p0 p1 p2 p3 p4 v1 v2 (fun (v6 : Int) =>
  BM N p0 p1 p3 p4 v1 v2 v6 (fun (v14 : Int) =>
   AR ((decide (v14 < v6)))
    ((Bg ((p0.set ((p1).toNat) v1).set ((p3).toNat) v2) p1).bind fun v22 =>
    (Bg ((p0.set ((p1).toNat) v1).set ((p3).toNat) v2) v14).bind fun v23 =>
    (Bg ((p0.set ((p1).toNat) v1).set ((p3).toNat) v2) v14).bind fun _ =>
    (Bg (((p0.set ((p1).toNat) v1).set ((p3).toNat) v2).set ((v14).toNat) v22) p1).bind fun _ =>
    some (v14, true, (((p0.set ((p1).toNat) v1).set ((p3).toNat) v2).set ((v14).toNat) v22).set ((p1).toNat) v23))
    ((Bg ((p0.set ((p1).toNat) v1).set ((p3).toNat) v2) v14).bind fun v26 =>
    (Bg ((p0.set ((p1).toNat) v1).set ((p3).toNat) v2) v6).bind fun v27 =>
    (Bg ((p0.set ((p1).toNat) v1).set ((p3).toNat) v2) v6).bind fun _ =>
    (Bg (((p0.set ((p1).toNat) v1).set ((p3).toNat) v2).set ((v6).toNat) v26) v14).bind fun _ =>
    BJ N p1 p4 (fun (v31 : (List Ab) × Int) =>
     (Bg v31.1 p1).bind fun v53 =>
     (Bg v31.1 v31.2).bind fun v54 =>
     (Bg v31.1 v31.2).bind fun _ =>
     (Bg (v31.1.set ((v31.2).toNat) v53) p1).bind fun _ =>
     some (v31.2, false, (v31.1.set ((v31.2).toNat) v53).set ((p1).toNat) v54)) N ((((p0.set ((p1).toNat) v1).set ((p3).toNat) v2).set ((v6).toNat) v26).set ((v14).toNat) v27, (wI .i64 (v6 + 1)), (wI .i64 (v14 - 1))))) N (wI .i64 (p2 - 1))) N (wI .i64 (p1 + 1))
def A8 (N : Nat) (p4 : (Ab × Ab) → Option Int) (rc : (List Ab) → Int → Int → Int → ((Ab × Ab) → Option Int) → Option ((List Ab))) (j1 : Unit → Option ((List Ab))) : Nat → ((List Ab) × Int × Int × Int × Bool × Bool) → Option ((List Ab))
 | 0, _ => none
 | n1 + 1, v1 =>
  AR ((decide ((wI .i64 (v1.2.2.1 - v1.2.1)) ≤ 12)))
   ((CA N v1.1 v1.2.1 v1.2.2.1 p4).bind fun v4 =>
   some v4)
   (AR ((v1.2.2.2.1 == 0))
    ((C2 N v1.1 v1.2.1 v1.2.2.1 p4).bind fun v6 =>
    some v6)
    (BQ (fun (v7 : (List Ab) × Int) =>
     (CJ N v7.1 v1.2.1 v1.2.2.1 p4).bind fun v10 =>
     BQ (fun (v11 : (List Ab) × Int × Int) =>
      BQ (fun (v14 : (List Ab)) =>
       BQ (fun (v21 : Bool) =>
        AR v21
         ((Cr N v14 v1.2.1 v1.2.2.1 v11.2.1 p4).bind fun v27 =>
         A8 N p4 rc j1 n1 (v27.2, v27.1, v1.2.2.1, v7.2, v1.2.2.2.2.1, v1.2.2.2.2.2))
         ((CV N v14 v1.2.1 v1.2.2.1 v11.2.1 p4).bind fun v28 =>
         AR ((decide ((wI .i64 (v28.1 - v1.2.1)) < (wI .i64 (v1.2.2.1 - v28.1)))))
          ((rc v28.2.2 v1.2.1 v28.1 v7.2 p4).bind fun v30 =>
          A8 N p4 rc j1 n1 (v30, (wI .i64 (v28.1 + 1)), v1.2.2.1, v7.2, (decide ((wI .i64 (Int.tdiv ((wI .i64 (v1.2.2.1 - v1.2.1))) 8)) ≤ (wI .i64 (v28.1 - v1.2.1)))), v28.2.1))
          ((rc v28.2.2 ((wI .i64 (v28.1 + 1))) v1.2.2.1 v7.2 p4).bind fun v31 =>
          A8 N p4 rc j1 n1 (v31, v1.2.1, v28.1, v7.2, (decide ((wI .i64 (Int.tdiv ((wI .i64 (v1.2.2.1 - v1.2.1))) 8)) ≤ (wI .i64 (v1.2.2.1 - v28.1)))), v28.2.1))))
       fun j21 =>
       AR ((decide (0 < v1.2.1)))
        ((Bg v14 ((wI .i64 (v1.2.1 - 1)))).bind fun v23 =>
        (Bg v14 v11.2.1).bind fun v24 =>
        (p4 ((v23, v24))).bind fun v25 =>
        j21 (!((decide (v25 < 0)))))
        (j21 false))
      fun j14 =>
      BQ (fun (v15 : Bool) =>
       AR v15
        ((B0 N v11.1 v1.2.1 v1.2.2.1 p4).bind fun v19 =>
        AR v19.1
         (some v19.2)
         (j14 v19.2))
        (j14 v11.1))
      fun j15 =>
      AR v1.2.2.2.2.1
       (AR v1.2.2.2.2.2
        (j15 (v11.2.2 == 1))
        (j15 false))
       (j15 false))
     fun j11 =>
     AR ((v10.2 == 2))
      ((CG N v7.1 v1.2.1 v1.2.2.1 p4).bind fun v13 =>
      j11 (v13, (wI .i64 ((wI .i64 (v1.2.2.1 - 1)) - (wI .i64 (v10.1 - v1.2.1)))), 1))
      (j11 (v7.1, v10.1, v10.2)))
    fun j7 =>
    AR ((!v1.2.2.2.2.1))
     ((Cz N v1.1 v1.2.1 v1.2.2.1 p4).bind fun v9 =>
     j7 (v9, (wI .i64 (v1.2.2.2.1 - 1))))
     (j7 (v1.1, v1.2.2.2.1))))
def CW (N : Nat) (rc : (List Ab) → Int → Int → Int → ((Ab × Ab) → Option Int) → Option ((List Ab))) (p0 : List Ab) (p1 : Int) (p2 : Int) (p3 : Int) (p4 : (Ab × Ab) → Option Int) : Option ((List Ab)) :=
 A8 N p4 rc (fun (_ : Unit) =>
  none) N (p0, p1, p2, p3, true, true)
def B5 (N : Nat) : Nat → (List Ab) → Int → Int → Int → ((Ab × Ab) → Option Int) → Option ((List Ab))
 | 0, _, _, _, _, _ => none
 | k + 1, p0, p1, p2, p3, p4 => CW N (B5 N k) p0 p1 p2 p3 p4
def D0 (N : Nat) (p0 : List Ab) (p1 : Int) (p2 : Int) (p3 : Int) (p4 : (Ab × Ab) → Option Int) : Option ((List Ab)) := B5 N N p0 p1 p2 p3 p4
def Cs (N : Nat) (p0 : List Ab) (p1 : (Ab × Ab) → Option Int) : Option ((List Ab)) :=
 (FM N ((wI .u64 ((p0.length : Int))))).bind fun v1 =>
 (D0 N p0 0 ((p0.length : Int)) v1 p1).bind fun v2 =>
 some v2
def FL (_ : Nat) (p0 : Int) : Option Bool :=
 some ((p0 != p0))
def Er (N : Nat) (p0 : Int) (p1 : Int) : Option Int :=
 (FL N p0).bind fun v1 =>
 (FL N p1).bind fun v2 =>
 AR v1
  (AR v2
   (some 0)
   (some ((-1))))
  (AR v2
   (some 1)
   (AR ((decide (p0 < p1)))
    (some ((-1)))
    (AR ((decide (p1 < p0)))
     (some 1)
     (some 0))))
def zFS (N : Nat) (p0 : List Int) (j1 : Unit → Option Int) : Nat → Int → Option Int
 | 0, _ => none
 | n1 + 1, v1 =>
  AR ((decide (v1 < (p0.length : Int))))
   ((Bg p0 v1).bind fun v4 =>
   AR ((v4 != 0))
    (some v4)
    (zFS N p0 j1 n1 (wI .i64 (v1 + 1))))
   (j1 ())
def Iu (N : Nat) (p0 : List Int) : Option Int :=
 zFS N p0 (fun (_ : Unit) =>
  some 0) N 0
def E8 (N : Nat) (p0 : Ab) (p1 : Ab) : Option Int :=
 (Er N p0.ft p1.ft).bind fun v1 =>
 (Er N p0.fr p1.fr).bind fun v2 =>
 (Er N p0.fq p1.fq).bind fun v3 =>
 (Iu N (([v1, v2, v3] : List Int))).bind fun v4 =>
 some v4
def Bu (N : Nat) (p0 : List Ab) (v2 : Int) (j10 : ((List Ab) × Int) → Option (Nat × (List Ab))) : Nat → ((List Ab) × Int × Int) → Option (Nat × (List Ab))
 | 0, _ => none
 | n10 + 1, v10 =>
  AR ((decide (v10.2.2 < ((((p0.length - (v2).toNat)) : Nat) : Int))))
   (BQ (fun (v13 : (List Ab) × Int) =>
    Bu N p0 v2 j10 n10 (v13.1, v13.2, (wI .i64 (v10.2.2 + 1))))
   fun j13 =>
   (Ft (((v2).toNat) + ((p0.length - (v2).toNat)) ≤ v10.1.length)).bind fun _ =>
   (Bg (((v10.1.drop ((v2).toNat)).take ((p0.length - (v2).toNat)))) v10.2.2).bind fun v14 =>
   (Bg (((v10.1.drop ((v2).toNat)).take ((p0.length - (v2).toNat)))) ((wI .i64 (v10.2.2 - 1)))).bind fun v16 =>
   AR ((!((v14.ft == v16.ft) && ((v14.fr == v16.fr) && ((v14.fq == v16.fq) && true)))))
    ((Bg (((v10.1.drop ((v2).toNat)).take ((p0.length - (v2).toNat)))) v10.2.2).bind fun v18 =>
    (Bg v10.1 v10.2.1).bind fun _ =>
    j13 (v10.1.set ((v10.2.1).toNat) v18, (wI .i64 (v10.2.1 + 1))))
    (j13 (v10.1, v10.2.1)))
   (j10 (v10.1, v10.2.1))
def BD (N : Nat) (p0 : List Ab) (j2 : Unit → Option (Nat × (List Ab))) : Nat → Int → Option (Nat × (List Ab))
 | 0, _ => none
 | n2 + 1, v2 =>
  AR ((decide (v2 < (p0.length : Int))))
   ((Bg p0 v2).bind fun v5 =>
   (Bg p0 ((wI .i64 (v2 - 1)))).bind fun v6 =>
   AR (((v5.ft == v6.ft) && ((v5.fr == v6.fr) && ((v5.fq == v6.fq) && true))))
    ((Ft ((0 : Int) ≤ v2 ∧ (v2).toNat ≤ p0.length ∧ p0.length ≤ p0.length)).bind fun _ =>
    Bu N p0 v2 (fun (v11 : (List Ab) × Int) =>
     (Ft ((0 : Int) ≤ v11.2 ∧ (v11.2).toNat ≤ v11.1.length ∧ v11.1.length ≤ v11.1.length)).bind fun _ =>
     (Ft ((0 : Int) ≤ v11.2 ∧ 0 ≤ (v11.2).toNat ∧ (v11.2).toNat ≤ (Gf v11.1 ((v11.2).toNat) (List.replicate ((v11.1.length - (v11.2).toNat)) ((Ab.mk 0 0 0)))).length)).bind fun _ =>
     some ((v11.2).toNat, Gf v11.1 ((v11.2).toNat) (List.replicate ((v11.1.length - (v11.2).toNat)) ((Ab.mk 0 0 0))))) N (p0, v2, 1))
    (BD N p0 j2 n2 (wI .i64 (v2 + 1))))
   (j2 ())
def Cy (N : Nat) (p0 : List Ab) : Option (Nat × (List Ab)) :=
 AR ((decide ((p0.length : Int) < 2)))
  (some (p0.length, p0))
  (BD N p0 (fun (_ : Unit) =>
   some (p0.length, p0)) N 1)
def CE (_ : Nat) (p0 : List Ab) (p1 : Int) (p2 : Int) : Option (Nat × (List Ab)) :=
 (Ft ((0 : Int) ≤ p1 ∧ (p1).toNat ≤ (p2).toNat ∧ 0 ≤ p2 ∧ (p2).toNat ≤ ((p0.length : Int)).toNat ∧ 0 ≤ (p0.length : Int) ∧ ((p0.length : Int)).toNat ≤ p0.length)).bind fun _ =>
 AR ((p1 == p2))
  (some (p0.length, p0))
  ((Ft ((0 : Int) ≤ p1 ∧ 0 ≤ (p1).toNat ∧ (p1).toNat ≤ p0.length)).bind fun _ =>
  (Ft ((0 : Int) ≤ p2 ∧ (p2).toNat ≤ p0.length ∧ p0.length ≤ p0.length)).bind fun _ =>
  (Ft ((p1).toNat + (((p0.drop ((p2).toNat)).take ((p0.length - (p2).toNat)))).length ≤ p0.length)).bind fun _ =>
  (Ft ((0 : Int) ≤ (((((p1).toNat + (((p0.drop ((p2).toNat)).take ((p0.length - (p2).toNat)))).length)) : Nat) : Int) ∧ (0 : Int) ≤ (p0.length : Int) ∧ ((((((p1).toNat + (((p0.drop ((p2).toNat)).take ((p0.length - (p2).toNat)))).length)) : Nat) : Int)).toNat ≤ ((p0.length : Int)).toNat ∧ ((p0.length : Int)).toNat ≤ (Gf p0 (0 + ((p1).toNat)) (((p0.drop ((p2).toNat)).take ((p0.length - (p2).toNat))))).length)).bind fun _ =>
  some (((p1).toNat + (((p0.drop ((p2).toNat)).take ((p0.length - (p2).toNat)))).length), Gf (Gf p0 (0 + ((p1).toNat)) (((p0.drop ((p2).toNat)).take ((p0.length - (p2).toNat))))) (((((((p1).toNat + (((p0.drop ((p2).toNat)).take ((p0.length - (p2).toNat)))).length)) : Nat) : Int)).toNat) (List.replicate ((((p0.length : Int)).toNat - ((((((p1).toNat + (((p0.drop ((p2).toNat)).take ((p0.length - (p2).toNat)))).length)) : Nat) : Int)).toNat)) ((Ab.mk 0 0 0)))))
def Ee (N : Nat) (p0 : Ah) (v5 : Nat × (List Ab)) (j14 : Bool → Option (Bool × Int)) : Nat → (Bool × Int) → Option (Bool × Int)
 | 0, _ => none
 | n14 + 1, v14 =>
  AR ((decide (v14.2 < ((v5.2.take v5.1).length : Int))))
   (BQ (fun (v17 : Bool) =>
    Ee N p0 v5 j14 n14 (v17, (wI .i64 (v14.2 + 1))))
   fun j17 =>
   (AZ N (v5.2.take v5.1)).bind fun v18 =>
   (CE N v18 v14.2 ((wI .i64 (v14.2 + 1)))).bind fun v19 =>
   (Ft (v19.1 ≤ v19.2.length)).bind fun _ =>
   (Es N p0 (((v19.2.drop 0).take v19.1))).bind fun v22 =>
   AR ((v22.2 != 0))
    (some (false, v22.2))
    (AR v14.1
     (j17 (!v22.1))
     (j17 false)))
   (j14 v14.1)
def Gv (N : Nat) (p0 : Ah) (p1 : List Ab) : Option (Bool × Int) :=
 (En N p0 p1).bind fun v1 =>
 AR ((v1 != 0))
  (some (false, v1))
  ((AZ N p1).bind fun v3 =>
  (Cs N v3 ((fun (x : Ab × Ab) => E8 N x.1 x.2))).bind fun v4 =>
  (Cy N v4).bind fun v5 =>
  (Ft (v5.1 ≤ v5.2.length)).bind fun _ =>
  BQ (fun (v8 : Bool) =>
   AR v8
    (some (false, 3))
    ((Es N p0 (v5.2.take v5.1)).bind fun v12 =>
    AR ((v12.2 != 0))
     (some (false, v12.2))
     (Ee N p0 v5 (fun (v15 : Bool) =>
      some (v15, 0)) N (v12.1, 0))))
  fun j8 =>
  (Dr N p0).bind fun v9 =>
  AR ((decide (24 < (v9.length : Int))))
   (j8 true)
   (j8 (decide (3 < ((v5.2.take v5.1).length : Int)))))
def Hg (N : Nat) (p0 : Ah) : Option ((List Ab) × Int) :=
 (GG N p0).bind fun v1 =>
 AR ((v1.2 != 0))
  (some (([] : List Ab), v1.2))
  ((Bg v1.1 0).bind fun v3 =>
  some (v3, 0))
def Dx (N : Nat) : Option Bool :=
 (C8 N).bind fun v1 =>
 (GG N v1).bind fun v2 =>
 (C8 N).bind fun v3 =>
 (Dq N v3).bind fun v4 =>
 (C8 N).bind fun v5 =>
 (Gv N v5 v4.1).bind fun v6 =>
 (C8 N).bind fun v7 =>
 (Hg N v7).bind fun v8 =>
 BQ (fun (v9 : Bool) =>
  some v9)
 fun j9 =>
 AR ((v2.2 == 0))
  (AR ((v4.2 == 0))
   (AR ((v6.2 == 0))
    (AR ((v8.2 == 0))
     (AR (((v2.1.length : Int) == 2))
      (AR (((v4.1.length : Int) == 2))
       ((Bg v4.1 0).bind fun v16 =>
       AR (((v16.ft == 0) && ((v16.fr == 0) && ((v16.fq == 1) && true))))
        (AR ((!v6.1))
         (AR (((v8.1.length : Int) == 1))
          ((Bg v8.1 0).bind fun v20 =>
          j9 ((v20.ft == 0) && ((v20.fr == 0) && ((v20.fq == 1) && true))))
          (j9 false))
         (j9 false))
        (j9 false))
       (j9 false))
      (j9 false))
     (j9 false))
    (j9 false))
   (j9 false))
  (j9 false)
def Cb (N : Nat) (p0 : Ah) (v6 : Int) (j14 : Unit → Option Bool) : Nat → Int → Option Bool
 | 0, _ => none
 | n14 + 1, v14 =>
  (Bg p0.fa v6).bind fun v16 =>
  AR ((decide (v14 < (v16.fj.length : Int))))
   ((Bg p0.fa v6).bind fun v18 =>
   (Bg v18.fj v14).bind fun v19 =>
   AR ((decide (8 < (v19.length : Int))))
    (some false)
    (Cb N p0 v6 j14 n14 (wI .i64 (v14 + 1))))
   (j14 ())
def Cc (N : Nat) (p0 : Ah) (v6 : Int) (j21 : Unit → Option Bool) : Nat → Int → Option Bool
 | 0, _ => none
 | n21 + 1, v21 =>
  (Bg p0.fa v6).bind fun v23 =>
  AR ((decide (v21 < (v23.fk.length : Int))))
   ((Bg p0.fa v6).bind fun v25 =>
   (Bg v25.fk v21).bind fun v26 =>
   AR ((decide (8 < (v26.length : Int))))
    (some false)
    (Cc N p0 v6 j21 n21 (wI .i64 (v21 + 1))))
   (j21 ())
def Dk (N : Nat) (p0 : Ah) (j6 : Unit → Option Bool) : Nat → Int → Option Bool
 | 0, _ => none
 | n6 + 1, v6 =>
  AR ((decide (v6 < (p0.fa.length : Int))))
   (BQ (fun (v9 : Bool) =>
    AR v9
     (some false)
     (Cb N p0 v6 (fun (_ : Unit) =>
      Cc N p0 v6 (fun (_ : Unit) =>
       Dk N p0 j6 n6 (wI .i64 (v6 + 1))) N 0) N 0))
   fun j9 =>
   (Bg p0.fa v6).bind fun v10 =>
   AR ((decide (8 < (v10.fj.length : Int))))
    (j9 true)
    ((Bg p0.fa v6).bind fun v12 =>
    j9 (decide (8 < (v12.fk.length : Int)))))
   (j6 ())
def Eo (N : Nat) (p0 : Ah) : Option Bool :=
 BQ (fun (v1 : Bool) =>
  AR v1
   (some false)
   (Dk N p0 (fun (_ : Unit) =>
    some true) N 0))
 fun j1 =>
 AR ((decide (8 < (p0.fb.length : Int))))
  (j1 true)
  (AR ((decide (8 < (p0.fc.length : Int))))
   (j1 true)
   (AR ((decide (8 < (p0.fd.length : Int))))
    (j1 true)
    (j1 (decide (14 < (p0.fa.length : Int))))))
def Ff (N : Nat) (p0 : Ah) (p1 : List Ab) : Option (Ah × Int) :=
 (En N p0 p1).bind fun v1 =>
 AR ((v1 != 0))
  (some ((Ah.mk (([] : List Int)) (([] : List Int)) (([] : List Int)) (([] : List Av))), v1))
  ((EB N p0 p1).bind fun v3 =>
  some (v3, 0))
def DR (_ : Nat) (p0 : Av) : Option Bool :=
 BQ (fun (v1 : Bool) =>
  some v1)
 fun j1 =>
 AR ((p0.fe == 3))
  (j1 true)
  (j1 (p0.fe == 4))
def Cf (N : Nat) (p0 : List (List Bool)) (p1 : Int) (p2 : Int) (j2 : Unit → Option Bool) : Nat → Int → Option Bool
 | 0, _ => none
 | n2 + 1, v2 =>
  AR ((decide (v2 < p1)))
   ((Bg p0 v2).bind fun v5 =>
   AR (((v5.length : Int) != p2))
    (some false)
    (Cf N p0 p1 p2 j2 n2 (wI .i64 (v2 + 1))))
   (j2 ())
def Dl (N : Nat) (p0 : List (List Bool)) (p1 : Int) (p2 : Int) : Option Bool :=
 AR (((p0.length : Int) != p1))
  (some false)
  (Cf N p0 p1 p2 (fun (_ : Unit) =>
   some true) N 0)
def BU (N : Nat) (p1 : Av) (j22 : Unit → Option Int) : Nat → Int → Option Int
 | 0, _ => none
 | n22 + 1, v22 =>
  AR ((decide (v22 < (p1.fk.length : Int))))
   ((Bg p1.fk v22).bind fun v25 =>
   (Bg v25 v22).bind fun v26 =>
   AR ((!v26))
    (some 1)
    (BU N p1 j22 n22 (wI .i64 (v22 + 1))))
   (j22 ())
def DY (N : Nat) (p0 : Ah) (p1 : Av) : Option Int :=
 BQ (fun (v1 : Bool) =>
  AR v1
   (some 1)
   (BQ (fun (v7 : Bool) =>
    AR v7
     (some 4)
     ((Bg p0.fb p1.fh).bind fun v12 =>
     (Bg p0.fb p1.fm).bind fun v13 =>
     (Dl N p1.fj v12 v13).bind fun v14 =>
     AR ((!v14))
      (some 6)
      (AR ((p1.fe != 4))
       (AR (((p1.fk.length : Int) != 0))
        (some 6)
        (some 0))
       ((Bg p0.fb p1.fh).bind fun v18 =>
       (Bg p0.fb p1.fh).bind fun v19 =>
       (Dl N p1.fk v18 v19).bind fun v20 =>
       AR ((!v20))
        (some 6)
        (BU N p1 (fun (_ : Unit) =>
         some 0) N 0)))))
   fun j7 =>
   AR ((decide (p1.fh < 0)))
    (j7 true)
    (AR ((decide ((p0.fb.length : Int) ≤ p1.fh)))
     (j7 true)
     (AR ((decide (p1.fm < 0)))
      (j7 true)
      (j7 (decide ((p0.fb.length : Int) ≤ p1.fm)))))))
 fun j1 =>
 AR ((decide (p1.fe < 1)))
  (j1 true)
  (AR ((decide (4 < p1.fe)))
   (j1 true)
   (AR p1.fo
    ((DR N p1).bind fun v5 =>
    j1 v5)
    (j1 false)))
def Bi (N : Nat) (p0 : Ah) (j7 : Unit → Option Int) : Nat → Int → Option Int
 | 0, _ => none
 | n7 + 1, v7 =>
  AR ((decide (v7 < (p0.fb.length : Int))))
   ((Bg p0.fb v7).bind fun v10 =>
   BQ (fun (v11 : Bool) =>
    AR v11
     (some 7)
     (Bi N p0 j7 n7 (wI .i64 (v7 + 1))))
   fun j11 =>
   AR ((decide (v10 < 1)))
    (j11 true)
    (AR ((decide (6 < v10)))
     (j11 true)
     ((Bg p0.fc v7).bind fun v14 =>
     AR ((decide (v14 < 0)))
      (j11 true)
      ((Bg p0.fc v7).bind fun v16 =>
      AR ((decide (v10 ≤ v16)))
       (j11 true)
       ((Bg p0.fd v7).bind fun v18 =>
       AR ((decide (v18 < 0)))
        (j11 true)
        ((Bg p0.fd v7).bind fun v20 =>
        j11 (decide (v10 ≤ v20))))))))
   (j7 ())
def A9 (N : Nat) (p0 : Ah) (j22 : Unit → Option Int) : Nat → Int → Option Int
 | 0, _ => none
 | n22 + 1, v22 =>
  AR ((decide (v22 < (p0.fa.length : Int))))
   ((Bg p0.fa v22).bind fun v25 =>
   (DY N p0 v25).bind fun v26 =>
   AR ((v26 != 0))
    (some v26)
    (A9 N p0 j22 n22 (wI .i64 (v22 + 1))))
   (j22 ())
def Cj (N : Nat) (p0 : Ah) : Option Int :=
 BQ (fun (v1 : Bool) =>
  AR v1
   (some 3)
   (BQ (fun (v4 : Bool) =>
    AR v4
     (some 6)
     (Bi N p0 (fun (_ : Unit) =>
      A9 N p0 (fun (_ : Unit) =>
       some 0) N 0) N 0))
   fun j4 =>
   AR (((p0.fc.length : Int) != (p0.fb.length : Int)))
    (j4 true)
    (j4 ((p0.fd.length : Int) != (p0.fb.length : Int)))))
 fun j1 =>
 AR ((decide (6 < (p0.fb.length : Int))))
  (j1 true)
  (j1 (decide (12 < (p0.fa.length : Int))))
def B6 (N : Nat) (p0 : Ah) (v1 : (List Ab) × Int) (v4 : (List Ab) × Int) (j8 : ((List Ab)) → Option ((List Ab))) : Nat → ((List Ab) × Int) → Option ((List Ab))
 | 0, _ => none
 | n8 + 1, v8 =>
  (Bg p0.fa v1.2).bind fun v10 =>
  (Bg v10.fj v4.2).bind fun v11 =>
  AR ((decide (v8.2 < (v11.length : Int))))
   (BQ (fun (v13 : (List Ab)) =>
    B6 N p0 v1 v4 j8 n8 (v13, (wI .i64 (v8.2 + 1))))
   fun j13 =>
   (Bg p0.fa v1.2).bind fun v14 =>
   (Bg v14.fj v4.2).bind fun v15 =>
   (Bg v15 v8.2).bind fun v16 =>
   AR ((!v16))
    ((Ft (v8.1.length + (([(Ab.mk v1.2 v4.2 v8.2)] : List Ab)).length ≤ FQ)).bind fun _ =>
    j13 (v8.1 ++ (([(Ab.mk v1.2 v4.2 v8.2)] : List Ab))))
    (j13 v8.1))
   (j8 v8.1)
def BH (N : Nat) (p0 : Ah) (v1 : (List Ab) × Int) (j4 : ((List Ab)) → Option ((List Ab))) : Nat → ((List Ab) × Int) → Option ((List Ab))
 | 0, _ => none
 | n4 + 1, v4 =>
  (Bg p0.fa v1.2).bind fun v6 =>
  AR ((decide (v4.2 < (v6.fj.length : Int))))
   (B6 N p0 v1 v4 (fun (v9 : (List Ab)) =>
    BH N p0 v1 j4 n4 (v9, (wI .i64 (v4.2 + 1)))) N (v4.1, 0))
   (j4 v4.1)
def Bq (N : Nat) (p0 : Ah) (j1 : ((List Ab)) → Option ((List Ab))) : Nat → ((List Ab) × Int) → Option ((List Ab))
 | 0, _ => none
 | n1 + 1, v1 =>
  AR ((decide (v1.2 < (p0.fa.length : Int))))
   (BH N p0 v1 (fun (v5 : (List Ab)) =>
    Bq N p0 j1 n1 (v5, (wI .i64 (v1.2 + 1)))) N (v1.1, 0))
   (j1 v1.1)
def C4 (N : Nat) (p0 : Ah) : Option ((List Ab)) :=
 Bq N p0 (fun (v2 : (List Ab)) =>
  some v2) N (([] : List Ab), 0)
def Dw (N : Nat) (p0 : List Ab) (p1 : Ab) (j1 : Unit → Option Bool) : Nat → Int → Option Bool
 | 0, _ => none
 | n1 + 1, v1 =>
  AR ((decide (v1 < (p0.length : Int))))
   ((Bg p0 v1).bind fun v4 =>
   AR (((v4.ft == p1.ft) && ((v4.fr == p1.fr) && ((v4.fq == p1.fq) && true))))
    (some true)
    (Dw N p0 p1 j1 n1 (wI .i64 (v1 + 1))))
   (j1 ())
def D2 (N : Nat) (p0 : List Ab) (p1 : Ab) : Option Bool :=
 Dw N p0 p1 (fun (_ : Unit) =>
  some false) N 0
def B3 (N : Nat) (p1 : List Ab) (v4 : (List Av) × Int) (v8 : (List (List Bool)) × Int) (j15 : ((List Bool)) → Option Ah) : Nat → ((List Bool) × Int) → Option Ah
 | 0, _ => none
 | n15 + 1, v15 =>
  AR ((decide (v15.2 < (v15.1.length : Int))))
   (BQ (fun (v18 : (List Bool)) =>
    B3 N p1 v4 v8 j15 n15 (v18, (wI .i64 (v15.2 + 1))))
   fun j18 =>
   (Bg v15.1 v15.2).bind fun v19 =>
   AR v19
    ((Bg v15.1 v15.2).bind fun _ =>
    j18 (v15.1.set ((v15.2).toNat) true))
    ((D2 N p1 ((Ab.mk v4.2 v8.2 v15.2))).bind fun v22 =>
    (Bg v15.1 v15.2).bind fun _ =>
    j18 (v15.1.set ((v15.2).toNat) v22)))
   (j15 v15.1)
def CH (N : Nat) (p0 : Ah) (p1 : List Ab) (v4 : (List Av) × Int) (j8 : ((List (List Bool))) → Option Ah) : Nat → ((List (List Bool)) × Int) → Option Ah
 | 0, _ => none
 | n8 + 1, v8 =>
  (Bg p0.fa v4.2).bind fun v10 =>
  AR ((decide (v8.2 < (v10.fj.length : Int))))
   ((Bg p0.fa v4.2).bind fun v12 =>
   (Bg v12.fj v8.2).bind fun v13 =>
   (Ft ((([] : List Bool)).length + v13.length ≤ FQ)).bind fun _ =>
   B3 N p1 v4 v8 (fun (v16 : (List Bool)) =>
    (Ft (v8.1.length + (([v16] : List (List Bool))).length ≤ FQ)).bind fun _ =>
    CH N p0 p1 v4 j8 n8 (v8.1 ++ (([v16] : List (List Bool))), (wI .i64 (v8.2 + 1)))) N ((([] : List Bool)) ++ v13, 0))
   (j8 v8.1)
def B4 (N : Nat) (p0 : Ah) (v4 : (List Av) × Int) (j25 : ((List (List Bool))) → Option Ah) : Nat → ((List (List Bool)) × Int) → Option Ah
 | 0, _ => none
 | n25 + 1, v25 =>
  (Bg p0.fa v4.2).bind fun v27 =>
  AR ((decide (v25.2 < (v27.fk.length : Int))))
   ((Bg p0.fa v4.2).bind fun v29 =>
   (Bg v29.fk v25.2).bind fun v30 =>
   (Ft ((([] : List Bool)).length + v30.length ≤ FQ)).bind fun _ =>
   (Ft (v25.1.length + (([(([] : List Bool)) ++ v30] : List (List Bool))).length ≤ FQ)).bind fun _ =>
   B4 N p0 v4 j25 n25 (v25.1 ++ (([(([] : List Bool)) ++ v30] : List (List Bool))), (wI .i64 (v25.2 + 1))))
   (j25 v25.1)
def BO (N : Nat) (p0 : Ah) (p1 : List Ab) (j4 : ((List Av)) → Option Ah) : Nat → ((List Av) × Int) → Option Ah
 | 0, _ => none
 | n4 + 1, v4 =>
  AR ((decide (v4.2 < (p0.fa.length : Int))))
   ((Bg p0.fa v4.2).bind fun v7 =>
   CH N p0 p1 v4 (fun (v9 : (List (List Bool))) =>
    B4 N p0 v4 (fun (v26 : (List (List Bool))) =>
     (Ft (v4.1.length + (([(Av.mk v7.fe v7.fh v7.fm v7.fo v9 v26)] : List Av)).length ≤ FQ)).bind fun _ =>
     BO N p0 p1 j4 n4 (v4.1 ++ (([(Av.mk v7.fe v7.fh v7.fm v7.fo v9 v26)] : List Av)), (wI .i64 (v4.2 + 1)))) N (([] : List (List Bool)), 0)) N (([] : List (List Bool)), 0))
   (j4 v4.1)
def DJ (N : Nat) (p0 : Ah) (p1 : List Ab) : Option Ah :=
 (Ft ((([] : List Int)).length + p0.fb.length ≤ FQ)).bind fun _ =>
 (Ft ((([] : List Int)).length + p0.fc.length ≤ FQ)).bind fun _ =>
 (Ft ((([] : List Int)).length + p0.fd.length ≤ FQ)).bind fun _ =>
 BO N p0 p1 (fun (v5 : (List Av)) =>
  some ((Ah.mk ((([] : List Int)) ++ p0.fb) ((([] : List Int)) ++ p0.fc) ((([] : List Int)) ++ p0.fd) v5))) N (([] : List Av), 0)
def Db (N : Nat) (p1 : List Ab) (v3 : (List Ab)) (j4 : Unit → Option (Ah × Int)) : Nat → Int → Option (Ah × Int)
 | 0, _ => none
 | n4 + 1, v4 =>
  AR ((decide (v4 < (p1.length : Int))))
   ((Bg p1 v4).bind fun v7 =>
   (D2 N v3 v7).bind fun v8 =>
   AR ((!v8))
    (some ((Ah.mk (([] : List Int)) (([] : List Int)) (([] : List Int)) (([] : List Av))), 4))
    (Db N p1 v3 j4 n4 (wI .i64 (v4 + 1))))
   (j4 ())
def Eb (N : Nat) (p0 : Ah) (p1 : List Ab) : Option (Ah × Int) :=
 (Cj N p0).bind fun v1 =>
 AR ((v1 != 0))
  (some ((Ah.mk (([] : List Int)) (([] : List Int)) (([] : List Int)) (([] : List Av))), v1))
  ((C4 N p0).bind fun v3 =>
  Db N p1 v3 (fun (_ : Unit) =>
   (DJ N p0 p1).bind fun v10 =>
   some (v10, 0)) N 0)
def DG (N : Nat) (p0 : Ah) : Option ((List Ab) × Int) :=
 (Cj N p0).bind fun v1 =>
 AR ((v1 != 0))
  (some (([] : List Ab), v1))
  ((C4 N p0).bind fun v3 =>
  some (v3, 0))
def C6 (N : Nat) (p0 : List Int) (p1 : List Int) (j2 : Unit → Option Bool) : Nat → Int → Option Bool
 | 0, _ => none
 | n2 + 1, v2 =>
  AR ((decide (v2 < (p0.length : Int))))
   ((Bg p0 v2).bind fun v5 =>
   (Bg p1 v2).bind fun v6 =>
   AR ((v5 != v6))
    (some false)
    (C6 N p0 p1 j2 n2 (wI .i64 (v2 + 1))))
   (j2 ())
def Dg (N : Nat) (p0 : List Int) (p1 : List Int) : Option Bool :=
 AR (((p0.length : Int) != (p1.length : Int)))
  (some false)
  (C6 N p0 p1 (fun (_ : Unit) =>
   some true) N 0)
def B7 (N : Nat) (p0 : List (List Bool)) (p1 : List (List Bool)) (v2 : Int) (j8 : Unit → Option Bool) : Nat → Int → Option Bool
 | 0, _ => none
 | n8 + 1, v8 =>
  (Bg p0 v2).bind fun v10 =>
  AR ((decide (v8 < (v10.length : Int))))
   ((Bg p0 v2).bind fun v12 =>
   (Bg v12 v8).bind fun v13 =>
   (Bg p1 v2).bind fun v14 =>
   (Bg v14 v8).bind fun v15 =>
   AR ((!(v13 == v15)))
    (some false)
    (B7 N p0 p1 v2 j8 n8 (wI .i64 (v8 + 1))))
   (j8 ())
def B8 (N : Nat) (p0 : List (List Bool)) (p1 : List (List Bool)) (j2 : Unit → Option Bool) : Nat → Int → Option Bool
 | 0, _ => none
 | n2 + 1, v2 =>
  AR ((decide (v2 < (p0.length : Int))))
   ((Bg p0 v2).bind fun v5 =>
   (Bg p1 v2).bind fun v6 =>
   AR (((v5.length : Int) != (v6.length : Int)))
    (some false)
    (B7 N p0 p1 v2 (fun (_ : Unit) =>
     B8 N p0 p1 j2 n2 (wI .i64 (v2 + 1))) N 0))
   (j2 ())
def CD (N : Nat) (p0 : List (List Bool)) (p1 : List (List Bool)) : Option Bool :=
 AR (((p0.length : Int) != (p1.length : Int)))
  (some false)
  (B8 N p0 p1 (fun (_ : Unit) =>
   some true) N 0)
def CX (N : Nat) (p0 : Ah) (p1 : Ah) (j9 : Unit → Option Bool) : Nat → Int → Option Bool
 | 0, _ => none
 | n9 + 1, v9 =>
  AR ((decide (v9 < (p0.fa.length : Int))))
   ((Bg p0.fa v9).bind fun v12 =>
   (Bg p1.fa v9).bind fun v13 =>
   BQ (fun (v14 : Bool) =>
    AR v14
     (some false)
     (CX N p0 p1 j9 n9 (wI .i64 (v9 + 1))))
   fun j14 =>
   AR ((v12.fe != v13.fe))
    (j14 true)
    (AR ((v12.fh != v13.fh))
     (j14 true)
     (AR ((v12.fm != v13.fm))
      (j14 true)
      (AR ((!(v12.fo == v13.fo)))
       (j14 true)
       ((CD N v12.fj v13.fj).bind fun v19 =>
       AR ((!v19))
        (j14 true)
        ((CD N v12.fk v13.fk).bind fun v21 =>
        j14 (!v21)))))))
   (j9 ())
def DW (N : Nat) (p0 : Ah) (p1 : Ah) : Option Bool :=
 BQ (fun (v1 : Bool) =>
  AR v1
   (some false)
   (CX N p0 p1 (fun (_ : Unit) =>
    some true) N 0))
 fun j1 =>
 (Dg N p0.fb p1.fb).bind fun v2 =>
 AR ((!v2))
  (j1 true)
  ((Dg N p0.fc p1.fc).bind fun v4 =>
  AR ((!v4))
   (j1 true)
   ((Dg N p0.fd p1.fd).bind fun v6 =>
   AR ((!v6))
    (j1 true)
    (j1 ((p0.fa.length : Int) != (p1.fa.length : Int)))))
def Da (N : Nat) (p0 : List Ab) (p1 : List Ab) (j2 : Unit → Option Bool) : Nat → Int → Option Bool
 | 0, _ => none
 | n2 + 1, v2 =>
  AR ((decide (v2 < (p0.length : Int))))
   ((Bg p0 v2).bind fun v5 =>
   (Bg p1 v2).bind fun v6 =>
   AR ((!((v5.ft == v6.ft) && ((v5.fr == v6.fr) && ((v5.fq == v6.fq) && true)))))
    (some false)
    (Da N p0 p1 j2 n2 (wI .i64 (v2 + 1))))
   (j2 ())
def D9 (N : Nat) (p0 : List Ab) (p1 : List Ab) : Option Bool :=
 AR (((p0.length : Int) != (p1.length : Int)))
  (some false)
  (Da N p0 p1 (fun (_ : Unit) =>
   some true) N 0)
def Ct (N : Nat) (p0 : Ah) (p1 : List Ab) : Option Bool :=
 BQ (fun (v1 : Bool) =>
  AR v1
   ((Dx N).bind fun v7 =>
   some v7)
   ((AZ N p1).bind fun v8 =>
   (Ff N p0 v8).bind fun v9 =>
   (Eb N p0 p1).bind fun v10 =>
   (Dq N p0).bind fun v11 =>
   (DG N p0).bind fun v12 =>
   BQ (fun (v13 : Bool) =>
    some v13)
   fun j13 =>
   AR ((v9.2 == v10.2))
    (AR ((v11.2 == v12.2))
     ((DW N v9.1 v10.1).bind fun v16 =>
     AR v16
      ((D9 N v11.1 v12.1).bind fun v18 =>
      j13 v18)
      (j13 false))
     (j13 false))
    (j13 false)))
 fun j1 =>
 (Dx N).bind fun v2 =>
 AR ((!v2))
  (j1 true)
  ((Eo N p0).bind fun v4 =>
  AR ((!v4))
   (j1 true)
   (j1 (decide (10 < (p1.length : Int)))))
def Pp {α : Type} (w : α → Prop) (xs : List α) : Prop := ∀ x, x ∈ xs → w x
def Mu (n : Int) : Prop := (Lit.int .i64 n).wf = true
def Le (x : Av) : Prop := Mu x.fe ∧ Mu x.fh ∧ Mu x.fm ∧ (fun _ => True) x.fo ∧ (Pp (Pp (fun _ => True))) x.fj ∧ (Pp (Pp (fun _ => True))) x.fk ∧ True
def Ju (x : Ah) : Prop := (Pp Mu) x.fb ∧ (Pp Mu) x.fc ∧ (Pp Mu) x.fd ∧ (Pp Le) x.fa ∧ True
def HE (x : Ab) : Prop := Mu x.ft ∧ Mu x.fr ∧ Mu x.fq ∧ True
open Go.RowKit
open Go.Proofs
theorem Ae : Tryz.prog.follows .mixedOrders = true := by kernel_rfl
theorem HB : EQ Tryz.prog 101 true = true := by kernel_rfl
theorem UE : EQ Tryz.prog 103 true = true := by kernel_rfl
theorem MN : EQ Tryz.prog 165 false = true := by kernel_rfl
theorem Ch : EQ Tryz.prog 26 false = true := by kernel_rfl
theorem EP : EQ Tryz.prog 27 false = true := by kernel_rfl
theorem C9 : EQ Tryz.prog 29 true = true := by kernel_rfl
theorem DA : EQ Tryz.prog 3 false = true := by kernel_rfl
theorem TH : EQ Tryz.prog 33 false = true := by kernel_rfl
theorem Pv : EQ Tryz.prog 4 false = true := by kernel_rfl
theorem Co : EQ Tryz.prog 45 true = true := by kernel_rfl
theorem Ln : EQ Tryz.prog 62 false = true := by kernel_rfl
theorem D6 : EQ Tryz.prog 64 true = true := by kernel_rfl
theorem EO : EQ Tryz.prog 74 false = true := by kernel_rfl
theorem Hw : EQ Tryz.prog 76 true = true := by kernel_rfl
theorem Il : EQ Tryz.prog 77 false = true := by kernel_rfl
theorem Pu : EQ Tryz.prog 94 false = true := by kernel_rfl
theorem Wb : Nm Tryz.prog 4 = true := by kernel_rfl
theorem Ub : N7 Tryz.prog 22 = true := by kernel_rfl
theorem N8 : EU Tryz.prog 101 24 = true := by kernel_rfl
theorem Tk : EU Tryz.prog 103 128 = true := by kernel_rfl
theorem PC : EU Tryz.prog 3 8 = true := by kernel_rfl
theorem SI : EU Tryz.prog 33 24 = true := by kernel_rfl
theorem TR : EU Tryz.prog 4 1 = true := by kernel_rfl
theorem Nr : EU Tryz.prog 45 24 = true := by kernel_rfl
theorem Ti : EU Tryz.prog 5 1 = true := by kernel_rfl
theorem UQ : EU Tryz.prog 64 72 = true := by kernel_rfl
theorem SM : EU Tryz.prog 76 80 = true := by kernel_rfl
theorem Q4 : EU Tryz.prog 77 24 = true := by kernel_rfl
theorem SZ : EU Tryz.prog 94 1 = true := by kernel_rfl
theorem HR : Dt Tryz.prog 101 0 0 = true := by kernel_rfl
theorem Fe : Dt Tryz.prog 101 1 1 = true := by kernel_rfl
theorem IC : Dt Tryz.prog 101 2 2 = true := by kernel_rfl
theorem LY : Dt Tryz.prog 103 0 0 = true := by kernel_rfl
theorem Pk : Dt Tryz.prog 103 1 3 = true := by kernel_rfl
theorem Ri : Dt Tryz.prog 103 2 4 = true := by kernel_rfl
theorem OJ : Dt Tryz.prog 103 3 7 = true := by kernel_rfl
theorem CT : Dt Tryz.prog 29 0 0 = true := by kernel_rfl
theorem FT : Dt Tryz.prog 29 1 1 = true := by kernel_rfl
theorem G1 : Dt Tryz.prog 29 2 2 = true := by kernel_rfl
theorem Bt : Dt Tryz.prog 29 3 3 = true := by kernel_rfl
theorem Od : Dt Tryz.prog 45 0 0 = true := by kernel_rfl
theorem NW : Dt Tryz.prog 45 1 1 = true := by kernel_rfl
theorem Of : Dt Tryz.prog 45 2 2 = true := by kernel_rfl
theorem E3 : Dt Tryz.prog 64 0 0 = true := by kernel_rfl
theorem Ex : Dt Tryz.prog 64 1 1 = true := by kernel_rfl
theorem FR : Dt Tryz.prog 64 2 2 = true := by kernel_rfl
theorem Fr : Dt Tryz.prog 76 0 0 = true := by kernel_rfl
theorem ES : Dt Tryz.prog 76 1 1 = true := by kernel_rfl
theorem H9 : Dt Tryz.prog 76 2 2 = true := by kernel_rfl
theorem JU : Dt Tryz.prog 76 3 3 = true := by kernel_rfl
theorem Dz : Dt Tryz.prog 76 4 4 = true := by kernel_rfl
theorem Dp : Dt Tryz.prog 76 5 5 = true := by kernel_rfl
theorem UI : AD Tryz.prog 100 = true := by kernel_rfl
theorem U2 : AD Tryz.prog 101 = true := by kernel_rfl
theorem Uo : AD Tryz.prog 102 = true := by kernel_rfl
theorem Ut : AD Tryz.prog 103 = true := by kernel_rfl
theorem UU : AD Tryz.prog 104 = true := by kernel_rfl
theorem U1 : AD Tryz.prog 105 = true := by kernel_rfl
theorem UD : AD Tryz.prog 106 = true := by kernel_rfl
theorem S5 : AD Tryz.prog 107 = true := by kernel_rfl
theorem UM : AD Tryz.prog 109 = true := by kernel_rfl
theorem UL : AD Tryz.prog 11 = true := by kernel_rfl
theorem Ud : AD Tryz.prog 110 = true := by kernel_rfl
theorem SN : AD Tryz.prog 111 = true := by kernel_rfl
theorem VM : AD Tryz.prog 12 = true := by kernel_rfl
theorem T4 : AD Tryz.prog 121 = true := by kernel_rfl
theorem UC : AD Tryz.prog 122 = true := by kernel_rfl
theorem UH : AD Tryz.prog 123 = true := by kernel_rfl
theorem Up : AD Tryz.prog 124 = true := by kernel_rfl
theorem Ux : AD Tryz.prog 125 = true := by kernel_rfl
theorem Ug : AD Tryz.prog 126 = true := by kernel_rfl
theorem Uz : AD Tryz.prog 127 = true := by kernel_rfl
theorem SX : AD Tryz.prog 128 = true := by kernel_rfl
theorem U8 : AD Tryz.prog 129 = true := by kernel_rfl
theorem V8 : AD Tryz.prog 13 = true := by kernel_rfl
theorem Q2 : AD Tryz.prog 130 = true := by kernel_rfl
theorem T2 : AD Tryz.prog 131 = true := by kernel_rfl
theorem SW : AD Tryz.prog 132 = true := by kernel_rfl
theorem U9 : AD Tryz.prog 133 = true := by kernel_rfl
theorem Vc : AD Tryz.prog 134 = true := by kernel_rfl
theorem Q6 : AD Tryz.prog 135 = true := by kernel_rfl
theorem S3 : AD Tryz.prog 136 = true := by kernel_rfl
theorem SV : AD Tryz.prog 138 = true := by kernel_rfl
theorem SY : AD Tryz.prog 139 = true := by kernel_rfl
theorem V6 : AD Tryz.prog 14 = true := by kernel_rfl
theorem Vd : AD Tryz.prog 140 = true := by kernel_rfl
theorem Uk : AD Tryz.prog 141 = true := by kernel_rfl
theorem ST : AD Tryz.prog 146 = true := by kernel_rfl
theorem UG : AD Tryz.prog 147 = true := by kernel_rfl
theorem Ue : AD Tryz.prog 148 = true := by kernel_rfl
theorem UY : AD Tryz.prog 149 = true := by kernel_rfl
theorem TS : AD Tryz.prog 15 = true := by kernel_rfl
theorem UF : AD Tryz.prog 150 = true := by kernel_rfl
theorem U5 : AD Tryz.prog 151 = true := by kernel_rfl
theorem U0 : AD Tryz.prog 152 = true := by kernel_rfl
theorem Q3 : AD Tryz.prog 153 = true := by kernel_rfl
theorem U7 : AD Tryz.prog 154 = true := by kernel_rfl
theorem SU : AD Tryz.prog 156 = true := by kernel_rfl
theorem U3 : AD Tryz.prog 157 = true := by kernel_rfl
theorem Uf : AD Tryz.prog 158 = true := by kernel_rfl
theorem Un : AD Tryz.prog 161 = true := by kernel_rfl
theorem VY : AD Tryz.prog 17 = true := by kernel_rfl
theorem Vx : AD Tryz.prog 18 = true := by kernel_rfl
theorem VH : AD Tryz.prog 19 = true := by kernel_rfl
theorem VI : AD Tryz.prog 20 = true := by kernel_rfl
theorem Tw : AD Tryz.prog 21 = true := by kernel_rfl
theorem VV : AD Tryz.prog 22 = true := by kernel_rfl
theorem V9 : AD Tryz.prog 23 = true := by kernel_rfl
theorem Uc : AD Tryz.prog 24 = true := by kernel_rfl
theorem Vt : AD Tryz.prog 25 = true := by kernel_rfl
theorem Ui : AD Tryz.prog 31 = true := by kernel_rfl
theorem RX : AD Tryz.prog 34 = true := by kernel_rfl
theorem VW : AD Tryz.prog 35 = true := by kernel_rfl
theorem VD : AD Tryz.prog 36 = true := by kernel_rfl
theorem T5 : AD Tryz.prog 37 = true := by kernel_rfl
theorem VJ : AD Tryz.prog 38 = true := by kernel_rfl
theorem VC : AD Tryz.prog 39 = true := by kernel_rfl
theorem VU : AD Tryz.prog 40 = true := by kernel_rfl
theorem Tf : AD Tryz.prog 41 = true := by kernel_rfl
theorem Tl : AD Tryz.prog 42 = true := by kernel_rfl
theorem Uu : AD Tryz.prog 43 = true := by kernel_rfl
theorem U4 : AD Tryz.prog 44 = true := by kernel_rfl
theorem VO : AD Tryz.prog 46 = true := by kernel_rfl
theorem T1 : AD Tryz.prog 47 = true := by kernel_rfl
theorem Qs : AD Tryz.prog 48 = true := by kernel_rfl
theorem Td : AD Tryz.prog 49 = true := by kernel_rfl
theorem Uq : AD Tryz.prog 50 = true := by kernel_rfl
theorem Uy : AD Tryz.prog 51 = true := by kernel_rfl
theorem Vp : AD Tryz.prog 55 = true := by kernel_rfl
theorem VK : AD Tryz.prog 57 = true := by kernel_rfl
theorem Pg : AD Tryz.prog 60 = true := by kernel_rfl
theorem Vu : AD Tryz.prog 61 = true := by kernel_rfl
theorem TM : AD Tryz.prog 62 = true := by kernel_rfl
theorem Uv : AD Tryz.prog 63 = true := by kernel_rfl
theorem Vy : AD Tryz.prog 64 = true := by kernel_rfl
theorem VB : AD Tryz.prog 65 = true := by kernel_rfl
theorem V2 : AD Tryz.prog 66 = true := by kernel_rfl
theorem VT : AD Tryz.prog 67 = true := by kernel_rfl
theorem VP : AD Tryz.prog 68 = true := by kernel_rfl
theorem V3 : AD Tryz.prog 69 = true := by kernel_rfl
theorem TT : AD Tryz.prog 70 = true := by kernel_rfl
theorem UK : AD Tryz.prog 71 = true := by kernel_rfl
theorem Vn : AD Tryz.prog 72 = true := by kernel_rfl
theorem TN : AD Tryz.prog 73 = true := by kernel_rfl
theorem Vm : AD Tryz.prog 75 = true := by kernel_rfl
theorem Sd : AD Tryz.prog 76 = true := by kernel_rfl
theorem Vo : AD Tryz.prog 77 = true := by kernel_rfl
theorem UJ : AD Tryz.prog 83 = true := by kernel_rfl
theorem V0 : AD Tryz.prog 86 = true := by kernel_rfl
theorem V4 : AD Tryz.prog 87 = true := by kernel_rfl
theorem T8 : AD Tryz.prog 88 = true := by kernel_rfl
theorem Vw : AD Tryz.prog 89 = true := by kernel_rfl
theorem VF : AD Tryz.prog 90 = true := by kernel_rfl
theorem Sf : AD Tryz.prog 91 = true := by kernel_rfl
theorem Vv : AD Tryz.prog 92 = true := by kernel_rfl
theorem Vz : AD Tryz.prog 93 = true := by kernel_rfl
theorem V5 : AD Tryz.prog 94 = true := by kernel_rfl
theorem VZ : AD Tryz.prog 95 = true := by kernel_rfl
theorem VA : AD Tryz.prog 96 = true := by kernel_rfl
theorem Vq : AD Tryz.prog 97 = true := by kernel_rfl
theorem VX : AD Tryz.prog 98 = true := by kernel_rfl
theorem V1 : AD Tryz.prog 99 = true := by kernel_rfl
theorem Nw : ML Tryz.prog 109 .u64 = true := by kernel_rfl
theorem OT : ML Tryz.prog 140 .u32 = true := by kernel_rfl
theorem SQ : ML Tryz.prog 142 .u64 = true := by kernel_rfl
theorem Vb : ML Tryz.prog 165 .u64 = true := by kernel_rfl
theorem US : ML Tryz.prog 3 .i64 = true := by kernel_rfl
theorem Vj : ML Tryz.prog 5 .u8 = true := by kernel_rfl
theorem TC : Tryz.prog.underlying 9 = some .string := by kernel_rfl
theorem NV : Tryz.prog.underlying 125 = some (.map 9 3) := by kernel_rfl
theorem RD : HD Tryz.prog 101 = some [(0, 1), (1, 1), (2, 1)] := by kernel_rfl
theorem SP : HD Tryz.prog 103 = some [(0, 3), (3, 1), (4, 3), (7, 1)] := by kernel_rfl
theorem ON : HD Tryz.prog 29 = some [(0, 1), (1, 1), (2, 1), (3, 1)] := by kernel_rfl
theorem Ou : HD Tryz.prog 45 = some [(0, 1), (1, 1), (2, 1)] := by kernel_rfl
theorem MZ : HD Tryz.prog 64 = some [(0, 1), (1, 1), (2, 1)] := by kernel_rfl
theorem VN : HD Tryz.prog 76 = some [(0, 1), (1, 1), (2, 1), (3, 1), (4, 1), (5, 1)] := by kernel_rfl
theorem Mm : QP Tryz.prog 45 = some [0, 0, 0] := by kernel_rfl
theorem Mg : sliceB Tryz.prog 148 64 = true := by kernel_rfl
theorem MA : sliceB Tryz.prog 22 5 = true := by kernel_rfl
theorem AQ : sliceB Tryz.prog 26 3 = true := by kernel_rfl
theorem Cw : sliceB Tryz.prog 27 76 = true := by kernel_rfl
theorem AI : sliceB Tryz.prog 33 45 = true := by kernel_rfl
theorem EW : sliceB Tryz.prog 37 101 = true := by kernel_rfl
theorem Ia : sliceB Tryz.prog 54 33 = true := by kernel_rfl
theorem G9 : sliceB Tryz.prog 62 94 = true := by kernel_rfl
theorem Cn : sliceB Tryz.prog 74 77 = true := by kernel_rfl
theorem DV : sliceB Tryz.prog 77 4 = true := by kernel_rfl
theorem Hz : sliceB Tryz.prog 96 103 = true := by kernel_rfl
theorem Pc : (Tryz.prog.underlying 109).isSome = true := by kernel_rfl
theorem Pd : (Tryz.prog.underlying 140).isSome = true := by kernel_rfl
theorem RN : (Tryz.prog.underlying 142).isSome = true := by kernel_rfl
theorem Tz : (Tryz.prog.underlying 3).isSome = true := by kernel_rfl
theorem V7 : (Tryz.prog.underlying 5).isSome = true := by kernel_rfl
theorem R1 : Na Tryz.prog 9 = true := by kernel_rfl
theorem DD : Gu Tryz.prog 101 3 = true := by kernel_rfl
theorem Je : Gu Tryz.prog 103 8 = true := by kernel_rfl
theorem P4 : Gu Tryz.prog 165 1 = true := by kernel_rfl
theorem VL : Gu Tryz.prog 26 1 = true := by kernel_rfl
theorem T9 : Gu Tryz.prog 27 1 = true := by kernel_rfl
theorem Ck : Gu Tryz.prog 29 4 = true := by kernel_rfl
theorem Fh : Gu Tryz.prog 3 1 = true := by kernel_rfl
theorem O9 : Gu Tryz.prog 33 1 = true := by kernel_rfl
theorem L1 : Gu Tryz.prog 4 1 = true := by kernel_rfl
theorem AE : Gu Tryz.prog 45 3 = true := by kernel_rfl
theorem UV : Gu Tryz.prog 5 1 = true := by kernel_rfl
theorem CF : Gu Tryz.prog 64 3 = true := by kernel_rfl
theorem QI : Gu Tryz.prog 74 1 = true := by kernel_rfl
theorem Dc : Gu Tryz.prog 76 6 = true := by kernel_rfl
theorem F7 : Gu Tryz.prog 77 1 = true := by kernel_rfl
theorem J0 : Gu Tryz.prog 94 1 = true := by kernel_rfl
theorem Ie : DX Tryz.prog 101 = some (.agg #[.int .i64 0, .int .i64 0, .int .i64 0]) := by kernel_rfl
theorem Oy : DX Tryz.prog 103 = some (.agg #[.slice none 0 0, .slice none 0 0, .slice none 0 0, .int .i64 0, .int .i64 0, .int .i64 0, .int .i64 0, .slice none 0 0]) := by kernel_rfl
theorem UP : DX Tryz.prog 165 = some (.int .u64 0) := by kernel_rfl
theorem IQ : DX Tryz.prog 29 = some (.agg #[.slice none 0 0, .slice none 0 0, .slice none 0 0, .slice none 0 0]) := by kernel_rfl
theorem Np : DX Tryz.prog 3 = some (.int .i64 0) := by kernel_rfl
theorem Q8 : DX Tryz.prog 33 = some (.slice none 0 0) := by kernel_rfl
theorem SH : DX Tryz.prog 4 = some (.bool false) := by kernel_rfl
theorem G8 : DX Tryz.prog 45 = some (.agg #[.int .i64 0, .int .i64 0, .int .i64 0]) := by kernel_rfl
theorem U6 : DX Tryz.prog 5 = some (.int .u8 0) := by kernel_rfl
theorem Hd : DX Tryz.prog 64 = some (.agg #[.slice none 0 0, .slice none 0 0, .slice none 0 0]) := by kernel_rfl
theorem IS : DX Tryz.prog 76 = some (.agg #[.int .i64 0, .int .i64 0, .int .i64 0, .bool false, .slice none 0 0, .slice none 0 0]) := by kernel_rfl
theorem PP : DX Tryz.prog 77 = some (.slice none 0 0) := by kernel_rfl
theorem TE : DX Tryz.prog 94 = some (.int .u8 0) := by kernel_rfl
set_option maxRecDepth 10000
theorem Ev (N : Nat) (r : Ah) (h : C8 N = some r) : Az Tryz.prog 34 [] [(1, r.fb.map Aj), (1, r.fc.map Aj), (1, r.fd.map Aj), (6, r.fa.map Ak)] (.e (.agg [.own 0, .own 1, .own 2, .own 3])) := by
 unfold C8 at h
 refine Ar (n := 12) (rs := [.cell 0 29]) Tryz.func34 rfl rfl rfl (AY rfl) (AY rfl) rfl fun w0 S0 => ?_
 refine Ad (Aa Ae rfl (qz IQ rfl (Af (Ad (Aa Ae rfl (Fx DV L1 SH rfl (Fx DV L1 SH rfl (E2 (DC 2 _ _ rfl rfl) (E2 (DC 3 _ _ rfl rfl) (Fx Cn F7 PP rfl (Cu IS VN rfl (qz IS rfl (qs Dc rfl (Af (Ad (Aa Ae rfl (Fx AQ Fh Np rfl (Fx AQ Fh Np rfl (Fx AQ Fh Np rfl (qL Hw Dc rfl (E2 (DC 4 _ _ rfl rfl) (Fx Cw Dc IS rfl (Cu IQ ON rfl (qs Ck rfl (Af ?_)))))))))))))))))))))))))
 obtain rfl := sj h
 refine Al (sm [(1000, 6), (1001, 7), (1002, 8), (1003, 10)] [(0, oD (.ptr 0 0))] [(0, .box [.own 1000, .own 1001, .own 1002, .own 1003]), (1000, .vec 1 ((([2, 2] : List Int)).map Aj)), (1001, .vec 1 ((([0, 0] : List Int)).map Aj)), (1002, .vec 1 ((([1, 1] : List Int)).map Aj)), (1003, .vec 6 ((([(Av.mk 1 0 1 false (([([true, false] : List Bool), ([false, true] : List Bool)] : List (List Bool))) (([] : List (List Bool))))] : List Av)).map Ak))] rfl rfl) (Ay ?_)
 exact ⟨⟨[_], ⟨.cellN _ _ _ _ _ _ _ rfl rfl C9 Ck rfl rfl (Kt rfl), tv⟩, rfl⟩, ⟨rfl, rfl, rfl, rfl, tv⟩⟩
theorem GJ (N : Nat) (p0 : Int) (p1 : Int) (r : Bool) (h : DK N p0 p1 = some r) : Az Tryz.prog 76 [iD p0, iD p1] [] (bD r) := by
 unfold DK at h
 refine Ar (n := 12) (rs := [.tmp 4]) Tryz.func76 rfl rfl rfl (AY rfl) (AY rfl) rfl fun w0 S0 => ?_
 refine Ad (Aa Ae rfl (qa rfl (Af ?_)))
 refine AS h (fun v1 => mk [(4, bD v1)] []) (fun j1 h => ?_) (fun v1 h => ?_)
 ·refine Aa Ae rfl (qm rfl (D4 rfl (qm rfl ?_)))
  refine AH (t := 7) rfl (fun c2 => ?_) (fun c2 => ?_)
  ·have h := Ao c2 h
   refine qm rfl (qm rfl (AX rfl (qp rfl (qa rfl (Af ?_)))))
   exact Au _ h (sm [] _ _ rfl rfl)
  ·have h := An c2 h
   refine qn rfl (qn rfl (qn rfl (qp rfl (qa rfl (Af ?_)))))
   exact Au _ h (sm [] _ _ rfl rfl)
 ·obtain rfl := sj h
  refine Al (sm [] [(4, bD v1)] [] rfl rfl) (Ay ?_)
  exact ⟨⟨[_], ⟨.tmp _ _ rfl, tv⟩, rfl⟩, tv⟩
theorem NS (N : Nat) (p0 : Int) (p1 : Bool) (r : Bool) (h : F8 N p0 p1 = some r) : Az Tryz.prog 110 [iD p0, bD p1] [] (bD r) := by
 unfold F8 at h
 refine Ar (n := 23) (rs := [.tmp 4]) Tryz.func110 rfl rfl rfl (AY rfl) (AY rfl) rfl fun w0 S0 => ?_
 refine Ad (Aa Ae rfl (qa rfl (Af ?_)))
 refine AS h (fun v1 => mk [(4, bD v1)] []) (fun j1 h => ?_) (fun v1 h => ?_)
 ·refine Aa Ae rfl (qm rfl (CR rfl (qm rfl ?_)))
  refine AH (t := 7) rfl (fun c2 => ?_) (fun c2 => ?_)
  ·have h := Ao c2 h
   refine qn rfl (qn rfl (qp rfl (qm rfl (qn rfl (qn rfl (qn rfl (qu rfl (qu rfl (qn rfl (qn rfl (qu rfl (qu rfl (qn rfl (qp rfl (qa rfl (Af ?_))))))))))))))))
   exact Au _ h (sm [] _ _ rfl rfl)
  ·have h := An c2 h
   refine qm rfl (CR rfl (qp rfl (qm rfl ?_)))
   refine AH (t := 11) rfl (fun c3 => ?_) (fun c3 => ?_)
   ·have h := Ao c3 h
    refine qn rfl (qn rfl (qn rfl (qu rfl (qu rfl (qn rfl (qn rfl (qu rfl (qu rfl (qn rfl (qp rfl (qa rfl (Af ?_))))))))))))
    exact Au _ h (sm [] _ _ rfl rfl)
   ·have h := An c3 h
    refine qm rfl (CR rfl (qm rfl ?_))
    refine AH (t := 14) rfl (fun c4 => ?_) (fun c4 => ?_)
    ·have h := Ao c4 h
     refine qn rfl (qn rfl (qp rfl (qm rfl (qm rfl (CB rfl (qp rfl (qp rfl (qa rfl (Af ?_)))))))))
     exact Au _ h (sm [] _ _ rfl rfl)
    ·have h := An c4 h
     refine qm rfl (CR rfl (qp rfl (qm rfl ?_)))
     refine AH (t := 18) rfl (fun c5 => ?_) (fun c5 => ?_)
     ·have h := Ao c5 h
      refine qm rfl (CB rfl (qp rfl (qp rfl (qa rfl (Af ?_)))))
      exact Au _ h (sm [] _ _ rfl rfl)
     ·have h := An c5 h
      refine qn rfl (qn rfl (qp rfl (qp rfl (qa rfl (Af ?_)))))
      exact Au _ h (sm [] _ _ rfl rfl)
 ·obtain rfl := sj h
  refine Al (sm [] [(4, bD v1)] [] rfl rfl) (Ay ?_)
  exact ⟨⟨[_], ⟨.tmp _ _ rfl, tv⟩, rfl⟩, tv⟩
theorem Lr (N : Nat) (p0 : List Bool) (p1 : Int) (r : Bool) (h : DH N p0 p1 = some r) : Az Tryz.prog 141 [pD (.sl (p0.map eB)), oD (.rop [.val (.int .i64 p1)])] [] (bD r) := by
 unfold DH at h
 refine Ar (n := 8) (rs := [.tmp 3]) Tryz.func141 rfl rfl rfl (AY rfl) (AY rfl) rfl fun w0 S0 => ?_
 refine Ad (Aa Ae rfl (qa rfl (Af (Ad (Aa Ae rfl (qm rfl (AM DV rfl (qk DA rfl (Cl rfl (qa rfl (Af ?_)))))))))))
 obtain rfl := sj h
 refine Al (sm [] [(3, bD (((p0.length : Int) != p1)))] [] rfl rfl) (Ay ?_)
 exact ⟨⟨[_], ⟨.tmp _ _ rfl, tv⟩, rfl⟩, tv⟩
theorem Hv (N : Nat) (p0 : List (List Bool)) (p1 : (List Bool) → Option Bool) (r : Int) (h : Dh N p0 p1 = some r) : Az Tryz.prog 154 [pD (.sl (p0.map (CL eB))), oD (.clo (BT (LO false (CL eB)) tB p1))] [] (iD r) := by
 unfold Dh at h
 refine Ar (n := 19) (rs := [.tmp 4]) Tryz.func154 rfl rfl rfl (AY rfl) (AY rfl) rfl fun w0 S0 => ?_
 refine Ad (Aa Ae rfl (qa rfl (Af (Ad (Ad (Aa Ae rfl (qm rfl (AM Cn rfl (qm rfl (Af ?_))))))))))
 refine AB (L := Bm N p0 p1) h (fun v1 => mk [(0, pD (.sl (p0.map (CL eB)))), (1, oD (.clo (BT (LO false (CL eB)) tB p1))), (7, iD ((p0.length : Int))), (8, iD v1)] []) (fun v2 => mk [] []) (fun _ _ => rfl) (sm [] _ _ rfl rfl) (fun j1 n1 v1 h => ?_) (fun v2 s h hs => ?_)
 ·unfold Bm at h
  refine Ad (Aa Ae rfl (AX rfl (Af (Ad ?_))))
  refine Aq rfl (fun c3 => ?_) (fun c3 => ?_)
  ·have h := Ao c3 h
   refine As (Ad (AJ (Ad (Aa Ae rfl (qm rfl (qa rfl (Af (Ad (Aa Ae rfl (qm rfl (qm rfl (qm rfl ?_))))))))))))
   obtain ⟨v4, a4, b4, h⟩ := Ai h
   refine qi Cn F7 a4 (Ag b4) rfl (qk Il rfl ?_)
   obtain ⟨v5, a5, h⟩ := bind_some h
   refine Ei (ds0 := [_]) (ar := (LO false (CL eB)) v4) (.p rfl) rfl rfl ⟨rfl, tv⟩ rfl rfl rfl (Eg (K2 _ _ (UO VG)) a5) ?_
   refine Af ?_
   refine Aq rfl (fun c6 => ?_) (fun c6 => ?_)
   ·have h := Ao c6 h
    refine Ad (Aa Ae rfl (qm rfl (qa rfl (Af ?_))))
    obtain rfl := sj h
    refine Al (sm [] [(4, iD v1)] [] rfl rfl) (Ay ?_)
    exact ⟨⟨[_], ⟨.tmp _ _ rfl, tv⟩, rfl⟩, tv⟩
   ·have h := An c6 h
    refine As (Aa Ae rfl (AO rfl (qm rfl (Af ?_))))
    exact Au _ h (sm [] _ _ rfl rfl)
  ·have h := An c3 h
   refine AP ?_
   exact Au _ h (sm [] _ _ rfl rfl)
 ·refine Al hs (Ad (Aa Ae rfl (qa rfl (Af ?_))))
  obtain rfl := sj h
  refine Al (sm [] [(4, iD ((-1)))] [] rfl rfl) (Ay ?_)
  exact ⟨⟨[_], ⟨.tmp _ _ rfl, tv⟩, rfl⟩, tv⟩
theorem G7 (N : Nat) (p0 : List (List Bool)) (p1 : (List Bool) → Option Bool) (r : Bool) (h : CQ N p0 p1 = some r) : Az Tryz.prog 140 [pD (.sl (p0.map (CL eB))), oD (.clo (BT (LO false (CL eB)) tB p1))] [] (bD r) := by
 unfold CQ at h
 refine Ar (n := 9) (rs := [.tmp 4]) Tryz.func140 rfl rfl rfl (AY rfl) (AY rfl) rfl fun w0 S0 => ?_
 refine Ad (Aa Ae rfl (qa rfl (Af (Ad (Aa Ae rfl (qm rfl (qm rfl ?_)))))))
 obtain ⟨v1, a1, h⟩ := bind_some h
 refine AG [] (Hv N p0 p1 v1 a1) U7 rfl (D4 rfl (qa rfl (Af ?_)))
 obtain rfl := sj h
 refine Al (sm [] [(4, bD ((decide (0 ≤ v1))))] [] rfl rfl) (Ay ?_)
 exact ⟨⟨[_], ⟨.tmp _ _ rfl, tv⟩, rfl⟩, tv⟩
theorem Jv (N : Nat) (p0 : List (List Bool)) (p1 : Int) (p2 : Int) (r : Bool) (h : ED N p0 p1 p2 = some r) : Az Tryz.prog 111 [pD (.sl (p0.map (CL eB))), iD p1, iD p2] [] (bD r) := by
 unfold ED at h
 refine Ar (n := 17) (rs := [.tmp 6]) Tryz.func111 rfl rfl rfl (AY rfl) (AY rfl) rfl fun w0 S0 => ?_
 refine Ad (Aa Ae rfl (qb rfl (qa rfl (Af ?_))))
 refine AS h (fun v1 => mk [(6, bD v1)] []) (fun j1 h => ?_) (fun v1 h => ?_)
 ·refine Aa Ae rfl (qm rfl (AM Cn rfl (qm rfl (CR rfl (qm rfl ?_)))))
  refine AH (t := 11) rfl (fun c2 => ?_) (fun c2 => ?_)
  ·have h := Ao c2 h
   refine qm rfl (E2 (KL 5 [.val (.int .i64 p2)] rfl rfl) ?_)
   refine Kl (capD := [_]) (BT (LO false (CL eB)) tB ((fun (x : List Bool) => DH N x p2))) (.g rfl rfl) Uk rfl ⟨rfl, tv⟩ rfl (fun ar t ht => by obtain ⟨x, r, rfl, hq, rfl⟩ := IE ht; exact Lr N x p2 r hq) ?_
   obtain ⟨v3, a3, h⟩ := bind_some h
   refine AG [] (G7 N p0 ((fun (x : List Bool) => DH N x p2)) v3 a3) Vd rfl (CB rfl (qp rfl (qa rfl (Af ?_))))
   exact Au _ h (sm [] _ _ rfl rfl)
  ·have h := An c2 h
   refine qn rfl (qn rfl (qn rfl (qn rfl (qp rfl (qa rfl (Af ?_))))))
   exact Au _ h (sm [] _ _ rfl rfl)
 ·obtain rfl := sj h
  refine Al (sm [] [(6, bD v1)] [] rfl rfl) (Ay ?_)
  exact ⟨⟨[_], ⟨.tmp _ _ rfl, tv⟩, rfl⟩, tv⟩
theorem MU (N : Nat) (p0 : Ah) (p1 : Av) (r : Int) (h : Fy N p0 p1 = some r) : Az Tryz.prog 77 [.e (.agg [sC (p0.fb.map Aj), sC (p0.fc.map Aj), sC (p0.fd.map Aj), sC (p0.fa.map Ak)]), .e (.agg [iC p1.fe, iC p1.fh, iC p1.fm, .pure (.val (.bool p1.fo)), sC (p1.fj.map (CL eB)), sC (p1.fk.map (CL eB))])] [] (iD r) := by
 unfold Fy at h
 refine Ar (n := 87) (rs := [.tmp 4]) Tryz.func77 rfl rfl rfl (AY rfl) (AY rfl) rfl fun w0 S0 => ?_
 refine Ad (Aa Ae rfl (qb rfl (qb rfl (qa rfl (Af (Ad (Ad (Aa Ae rfl (qf Fr rfl (ql DA rfl (qf JU rfl (ql Pv rfl ?_))))))))))))
 obtain ⟨v1, a1, h⟩ := bind_some h
 refine AG [] (NS N p1.fe p1.fo v1 a1) Ud rfl (CB rfl (Af ?_))
 refine Aq rfl (fun c2 => ?_) (fun c2 => ?_)
 ·have h := Ao c2 h
  refine Ad (Aa Ae rfl (qa rfl (Af ?_)))
  obtain rfl := sj h
  refine Al (sm [] [(4, iD 1)] [] rfl rfl) (Ay ?_)
  exact ⟨⟨[_], ⟨.tmp _ _ rfl, tv⟩, rfl⟩, tv⟩
 ·have h := An c2 h
  refine As (Ad ?_)
  refine AS h (fun v3 => mk [(2, oD (.ptr 2 0)), (3, oD (.ptr 3 0)), (29, bD v3)] [(2, .box [sC (p0.fb.map Aj), sC (p0.fc.map Aj), sC (p0.fd.map Aj), sC (p0.fa.map Ak)]), (3, .box [iC p1.fe, iC p1.fh, iC p1.fm, .pure (.val (.bool p1.fo)), sC (p1.fj.map (CL eB)), sC (p1.fk.map (CL eB))])]) (fun j3 h => ?_) (fun v3 h => ?_)
  ·refine Aa Ae rfl (qf ES rfl (ql DA rfl (qf CT rfl (ql Ch rfl (AM AQ rfl ?_)))))
   obtain ⟨v4, a4, h⟩ := bind_some h
   refine AG [] (GJ N p1.fh ((p0.fb.length : Int)) v4 a4) Sd rfl (CB rfl (qm rfl ?_))
   refine AH (t := 21) rfl (fun c5 => ?_) (fun c5 => ?_)
   ·have h := Ao c5 h
    refine qn rfl (qn rfl (qn rfl (qn rfl (qn rfl (qn rfl (qn rfl (qp rfl (Af ?_))))))))
    exact Au _ h (sm [] _ _ rfl rfl)
   ·have h := An c5 h
    refine qf H9 rfl (ql DA rfl (qf CT rfl (ql Ch rfl (AM AQ rfl ?_))))
    obtain ⟨v6, a6, h⟩ := bind_some h
    refine AG [] (GJ N p1.fm ((p0.fb.length : Int)) v6 a6) Sd rfl (CB rfl (qp rfl (Af ?_)))
    exact Au _ h (sm [] _ _ rfl rfl)
  ·refine Aq rfl (fun c7 => ?_) (fun c7 => ?_)
   ·have h := Ao c7 h
    refine Ad (Aa Ae rfl (qa rfl (Af ?_)))
    obtain rfl := sj h
    refine Al (sm [] [(4, iD 4)] [] rfl rfl) (Ay ?_)
    exact ⟨⟨[_], ⟨.tmp _ _ rfl, tv⟩, rfl⟩, tv⟩
   ·have h := An c7 h
    refine As (Ad (Aa Ae rfl (qf CT rfl (ql Ch rfl (qf ES rfl (ql DA rfl ?_))))))
    obtain ⟨v8, a8, b8, h⟩ := Ai h
    refine qi AQ Fh a8 (Ag b8) rfl (qk DA rfl (qa rfl (Af (Ad (Aa Ae rfl (qf Fr rfl (ql DA rfl (CR rfl (qa rfl (Af (Ad ?_)))))))))))
    refine AS h (fun v9 => mk [(3, oD (.ptr 3 0)), (70, bD v9)] [(3, .box [iC p1.fe, iC p1.fh, iC p1.fm, .pure (.val (.bool p1.fo)), sC (p1.fj.map (CL eB)), sC (p1.fk.map (CL eB))])]) (fun j9 h => ?_) (fun v9 h => ?_)
    ·refine Aa Ae rfl (qf Dz rfl (ql EO rfl (qm rfl (qf CT rfl (ql Ch rfl (qf H9 rfl (ql DA rfl ?_)))))))
     obtain ⟨v10, a10, b10, h⟩ := Ai h
     refine qi AQ Fh a10 (Ag b10) rfl (qk DA rfl ?_)
     obtain ⟨v11, a11, h⟩ := bind_some h
     refine AG [] (Jv N p1.fj v8 v10 v11 a11) SN rfl (CB rfl (qm rfl ?_))
     refine AH (t := 50) rfl (fun c12 => ?_) (fun c12 => ?_)
     ·have h := Ao c12 h
      refine qn rfl (qn rfl (qu rfl (qu rfl (qu rfl (qu rfl (qu rfl (qu rfl (qn rfl (qp rfl (qm rfl (qn rfl (qn rfl (qn rfl (qu rfl (qu rfl (qu rfl (qu rfl (qn rfl (qp rfl (AL (by kernel_rfl) ?_))))))))))))))))))))
      exact Au _ h (sm [] _ _ rfl rfl)
     ·have h := An c12 h
      refine qm rfl (qm rfl ?_)
      refine AH (t := 52) rfl (fun c13 => ?_) (fun c13 => ?_)
      ·have h := Ao c13 h
       refine qf Dp rfl (ql EO rfl (qm rfl (qm rfl ?_)))
       obtain ⟨v14, a14, h⟩ := bind_some h
       refine AG [] (Jv N p1.fk v8 v8 v14 a14) SN rfl (CB rfl (qp rfl (qp rfl (qm rfl ?_))))
       refine AH (t := 61) rfl (fun c15 => ?_) (fun c15 => ?_)
       ·have h := Ao c15 h
        refine qn rfl (qn rfl (qn rfl (qu rfl (qu rfl (qu rfl (qu rfl (qn rfl (qp rfl (AL (by kernel_rfl) ?_)))))))))
        exact Au _ h (sm [] _ _ rfl rfl)
       ·have h := An c15 h
        refine qm rfl (CB rfl (qm rfl ?_))
        refine AH (t := 64) rfl (fun c16 => ?_) (fun c16 => ?_)
        ·have h := Ao c16 h
         refine qf Dp rfl (ql EO rfl (AM Cn rfl (Ea rfl (qp rfl (qp rfl (AL (by kernel_rfl) ?_))))))
         exact Au _ h (sm [] _ _ rfl rfl)
        ·have h := An c16 h
         refine qn rfl (qn rfl (qn rfl (qn rfl (qp rfl (qp rfl (AL (by kernel_rfl) ?_))))))
         exact Au _ h (sm [] _ _ rfl rfl)
      ·have h := An c13 h
       refine qn rfl (qn rfl (qn rfl (qn rfl (qn rfl (qn rfl (qp rfl (qp rfl (qm rfl (qm rfl (CB rfl (qm rfl ?_)))))))))))
       refine AH (t := 64) rfl (fun c17 => ?_) (fun c17 => ?_)
       ·have h := Ao c17 h
        refine qf Dp rfl (ql EO rfl (AM Cn rfl (Ea rfl (qp rfl (qp rfl (AL (by kernel_rfl) ?_))))))
        exact Au _ h (sm [] _ _ rfl rfl)
       ·have h := An c17 h
        refine qn rfl (qn rfl (qn rfl (qn rfl (qp rfl (qp rfl (AL (by kernel_rfl) ?_))))))
        exact Au _ h (sm [] _ _ rfl rfl)
    ·refine Aq rfl (fun c18 => ?_) (fun c18 => ?_)
     ·have h := Ao c18 h
      refine Ad (Aa Ae rfl (qa rfl (Af ?_)))
      obtain rfl := sj h
      refine Al (sm [] [(4, iD 6)] [] rfl rfl) (Ay ?_)
      exact ⟨⟨[_], ⟨.tmp _ _ rfl, tv⟩, rfl⟩, tv⟩
     ·have h := An c18 h
      refine As (Ad (Ad (Aa Ae rfl (qf Dp rfl (ql EO rfl (AM Cn rfl (qm rfl (Af ?_))))))))
      refine AB (L := CZ N p1) h (fun v19 => mk [(3, oD (.ptr 3 0)), (73, iD ((p1.fk.length : Int))), (74, iD v19)] [(3, .box [iC p1.fe, iC p1.fh, iC p1.fm, .pure (.val (.bool p1.fo)), sC (p1.fj.map (CL eB)), sC (p1.fk.map (CL eB))])]) (fun v20 => mk [] []) (fun _ _ => rfl) (sm [] _ _ rfl rfl) (fun j19 n19 v19 h => ?_) (fun v20 s h hs => ?_)
      ·unfold CZ at h
       refine Ad (Aa Ae rfl (AX rfl (Af (Ad ?_))))
       refine Aq rfl (fun c21 => ?_) (fun c21 => ?_)
       ·have h := Ao c21 h
        refine As (Ad (AJ (Ad (Aa Ae rfl (qm rfl (qa rfl (Af (Ad (Aa Ae rfl (qf Dp rfl (ql EO rfl (qm rfl ?_))))))))))))
        obtain ⟨v22, a22, b22, h⟩ := Ai h
        refine qi Cn F7 a22 (Ag b22) rfl (qk Il rfl (qm rfl ?_))
        obtain ⟨v23, a23, b23, h⟩ := Ai h
        refine qi DV L1 a23 (Ag b23) rfl (qk Pv rfl (CB rfl (Af ?_)))
        refine Aq rfl (fun c24 => ?_) (fun c24 => ?_)
        ·have h := Ao c24 h
         refine Ad (Aa Ae rfl (qa rfl (Af ?_)))
         obtain rfl := sj h
         refine Al (sm [] [(4, iD 1)] [] rfl rfl) (Ay ?_)
         exact ⟨⟨[_], ⟨.tmp _ _ rfl, tv⟩, rfl⟩, tv⟩
        ·have h := An c24 h
         refine As (Aa Ae rfl (AO rfl (qm rfl (Af ?_))))
         exact Au _ h (sm [] _ _ rfl rfl)
       ·have h := An c21 h
        refine AP ?_
        exact Au _ h (sm [] _ _ rfl rfl)
      ·refine Al hs (Ad (Aa Ae rfl (qa rfl (Af ?_))))
       obtain rfl := sj h
       refine Al (sm [] [(4, iD 0)] [] rfl rfl) (Ay ?_)
       exact ⟨⟨[_], ⟨.tmp _ _ rfl, tv⟩, rfl⟩, tv⟩
theorem Dv (N : Nat) (p0 : Ah) (r : Int) (h : Br N p0 = some r) : Az Tryz.prog 48 [.e (.agg [sC (p0.fb.map Aj), sC (p0.fc.map Aj), sC (p0.fd.map Aj), sC (p0.fa.map Ak)])] [] (iD r) := by
 unfold Br at h
 refine Ar (n := 81) (rs := [.tmp 2]) Tryz.func48 rfl rfl rfl (AY rfl) (AY rfl) rfl fun w0 S0 => ?_
 refine Ad (Aa Ae rfl (qb rfl (qa rfl (Af (Ad (Aa Ae rfl (qf CT rfl (ql Ch rfl (AM AQ rfl (qa rfl (Af (Ad ?_))))))))))))
 refine AS h (fun v1 => mk [(1, oD (.ptr 1 0)), (3, iD ((p0.fb.length : Int))), (19, bD v1)] [(1, .box [sC (p0.fb.map Aj), sC (p0.fc.map Aj), sC (p0.fd.map Aj), sC (p0.fa.map Ak)])]) (fun j1 h => ?_) (fun v1 h => ?_)
 ·refine Aa Ae rfl (qm rfl (Ea rfl (qm rfl ?_)))
  refine AH (t := 14) rfl (fun c2 => ?_) (fun c2 => ?_)
  ·have h := Ao c2 h
   refine qn rfl (qn rfl (qn rfl (qn rfl (qp rfl (Af ?_)))))
   exact Au _ h (sm [] _ _ rfl rfl)
  ·have h := An c2 h
   refine qf Bt rfl (ql EP rfl (AM Cw rfl (Ea rfl (qp rfl (Af ?_)))))
   exact Au _ h (sm [] _ _ rfl rfl)
 ·refine Aq rfl (fun c3 => ?_) (fun c3 => ?_)
  ·have h := Ao c3 h
   refine Ad (Aa Ae rfl (qa rfl (Af ?_)))
   obtain rfl := sj h
   refine Al (sm [] [(2, iD 3)] [] rfl rfl) (Ay ?_)
   exact ⟨⟨[_], ⟨.tmp _ _ rfl, tv⟩, rfl⟩, tv⟩
  ·have h := An c3 h
   refine As (Ad ?_)
   refine AS h (fun v4 => mk [(1, oD (.ptr 1 0)), (31, bD v4)] [(1, .box [sC (p0.fb.map Aj), sC (p0.fc.map Aj), sC (p0.fd.map Aj), sC (p0.fa.map Ak)])]) (fun j4 h => ?_) (fun v4 h => ?_)
   ·refine Aa Ae rfl (qf FT rfl (ql Ch rfl (AM AQ rfl (qm rfl (Cl rfl (qm rfl ?_))))))
    refine AH (t := 25) rfl (fun c5 => ?_) (fun c5 => ?_)
    ·have h := Ao c5 h
     refine qn rfl (qn rfl (qn rfl (qn rfl (qn rfl (qp rfl (Af ?_))))))
     exact Au _ h (sm [] _ _ rfl rfl)
    ·have h := An c5 h
     refine qf G1 rfl (ql Ch rfl (AM AQ rfl (qm rfl (Cl rfl (qp rfl (Af ?_))))))
     exact Au _ h (sm [] _ _ rfl rfl)
   ·refine Aq rfl (fun c6 => ?_) (fun c6 => ?_)
    ·have h := Ao c6 h
     refine Ad (Aa Ae rfl (qa rfl (Af ?_)))
     obtain rfl := sj h
     refine Al (sm [] [(2, iD 6)] [] rfl rfl) (Ay ?_)
     exact ⟨⟨[_], ⟨.tmp _ _ rfl, tv⟩, rfl⟩, tv⟩
    ·have h := An c6 h
     refine As (Ad (Ad (Aa Ae rfl (qf CT rfl (ql Ch rfl (AM AQ rfl (qm rfl (Af ?_))))))))
     refine AB (L := BS N p0) h (fun v7 => mk [(1, oD (.ptr 1 0)), (33, pD (.sl (p0.fb.map Aj))), (34, iD ((p0.fb.length : Int))), (35, iD v7)] [(1, .box [sC (p0.fb.map Aj), sC (p0.fc.map Aj), sC (p0.fd.map Aj), sC (p0.fa.map Ak)])]) (fun v8 => mk [(1, oD (.ptr 1 0))] [(1, .box [sC (p0.fb.map Aj), sC (p0.fc.map Aj), sC (p0.fd.map Aj), sC (p0.fa.map Ak)])]) (fun _ _ => rfl) (sm [] _ _ rfl rfl) (fun j7 n7 v7 h => ?_) (fun v8 s h hs => ?_)
     ·unfold BS at h
      refine Ad (Aa Ae rfl (AX rfl (Af (Ad ?_))))
      refine Aq rfl (fun c9 => ?_) (fun c9 => ?_)
      ·have h := Ao c9 h
       refine As (Ad (AJ (Ad (Aa Ae rfl (qm rfl ?_)))))
       obtain ⟨v10, a10, b10, h⟩ := Ai h
       refine qi AQ Fh a10 (Ag b10) rfl (qk DA rfl (qa rfl (qa rfl (Af ?_))))
       refine AS h (fun v11 => mk [(1, oD (.ptr 1 0)), (33, pD (.sl (p0.fb.map Aj))), (34, iD ((p0.fb.length : Int))), (35, iD v7), (65, bD v11)] [(1, .box [sC (p0.fb.map Aj), sC (p0.fc.map Aj), sC (p0.fd.map Aj), sC (p0.fa.map Ak)])]) (fun j11 h => ?_) (fun v11 h => ?_)
       ·refine Aa Ae rfl (qm rfl (AX rfl (qm rfl ?_)))
        refine AH (t := 42) rfl (fun c12 => ?_) (fun c12 => ?_)
        ·have h := Ao c12 h
         refine qn rfl (qn rfl (qp rfl (qm rfl (qn rfl (qn rfl (qn rfl (qn rfl (qn rfl (qn rfl (qn rfl (qn rfl (qp rfl (qm rfl (qn rfl (qn rfl (qn rfl (qn rfl (qn rfl (qn rfl (qn rfl (qn rfl (qp rfl (Af ?_)))))))))))))))))))))))
         exact Au _ h (sm [] _ _ rfl rfl)
        ·have h := An c12 h
         refine qm rfl (Ea rfl (qp rfl (qm rfl ?_)))
         refine AH (t := 46) rfl (fun c13 => ?_) (fun c13 => ?_)
         ·have h := Ao c13 h
          refine qn rfl (qn rfl (qn rfl (qn rfl (qn rfl (qn rfl (qn rfl (qn rfl (qp rfl (qm rfl (qn rfl (qn rfl (qn rfl (qn rfl (qn rfl (qn rfl (qn rfl (qn rfl (qp rfl (Af ?_)))))))))))))))))))
          exact Au _ h (sm [] _ _ rfl rfl)
         ·have h := An c13 h
          refine qf FT rfl (ql Ch rfl (qm rfl ?_))
          obtain ⟨v14, a14, b14, h⟩ := Ai h
          refine qi AQ Fh a14 (Ag b14) rfl (qk DA rfl (qm rfl ?_))
          obtain ⟨v15, a15, h⟩ := bind_some h
          refine AG [] (GJ N v14 v10 v15 a15) Sd rfl (CB rfl (qp rfl (qm rfl ?_)))
          refine AH (t := 56) rfl (fun c16 => ?_) (fun c16 => ?_)
          ·have h := Ao c16 h
           refine qn rfl (qn rfl (qn rfl (qn rfl (qn rfl (qn rfl (qn rfl (qn rfl (qp rfl (Af ?_)))))))))
           exact Au _ h (sm [] _ _ rfl rfl)
          ·have h := An c16 h
           refine qf G1 rfl (ql Ch rfl (qm rfl ?_))
           obtain ⟨v17, a17, b17, h⟩ := Ai h
           refine qi AQ Fh a17 (Ag b17) rfl (qk DA rfl (qm rfl ?_))
           obtain ⟨v18, a18, h⟩ := bind_some h
           refine AG [] (GJ N v17 v10 v18 a18) Sd rfl (CB rfl (qp rfl (Af ?_)))
           exact Au _ h (sm [] _ _ rfl rfl)
       ·refine Aq rfl (fun c19 => ?_) (fun c19 => ?_)
        ·have h := Ao c19 h
         refine Ad (Aa Ae rfl (qa rfl (Af ?_)))
         obtain rfl := sj h
         refine Al (sm [] [(2, iD 7)] [] rfl rfl) (Ay ?_)
         exact ⟨⟨[_], ⟨.tmp _ _ rfl, tv⟩, rfl⟩, tv⟩
        ·have h := An c19 h
         refine As (Aa Ae rfl (AO rfl (qm rfl (Af ?_))))
         exact Au _ h (sm [] _ _ rfl rfl)
      ·have h := An c9 h
       refine AP ?_
       exact Au _ h (sm [] _ _ rfl rfl)
     ·refine Al hs (Ad (Ad (Aa Ae rfl (qf Bt rfl (ql EP rfl (AM Cw rfl (qm rfl (Af ?_))))))))
      refine AB (L := BI N p0) h (fun v20 => mk [(1, oD (.ptr 1 0)), (68, pD (.sl (p0.fa.map Ak))), (69, iD ((p0.fa.length : Int))), (70, iD v20)] [(1, .box [sC (p0.fb.map Aj), sC (p0.fc.map Aj), sC (p0.fd.map Aj), sC (p0.fa.map Ak)])]) (fun v21 => mk [] []) (fun _ _ => rfl) (sm [] _ _ rfl rfl) (fun j20 n20 v20 h => ?_) (fun v21 s h hs => ?_)
      ·unfold BI at h
       refine Ad (Aa Ae rfl (AX rfl (Af (Ad ?_))))
       refine Aq rfl (fun c22 => ?_) (fun c22 => ?_)
       ·have h := Ao c22 h
        refine As (Ad (AJ (Ad (Aa Ae rfl ?_))))
        obtain ⟨v23, a23, b23, h⟩ := Ai h
        refine qi Cw Dc a23 (Ag b23) rfl (qK Hw Dc rfl (qz IS rfl (qs Dc rfl (Af (Ad (Aa Ae rfl (qL C9 Ck rfl (qL Hw Dc rfl ?_))))))))
        obtain ⟨v24, a24, h⟩ := bind_some h
        refine AG [] (MU N p0 v23 v24 a24) Vo rfl (qa rfl (Af (Ad (Aa Ae rfl (qm rfl (Cl rfl (Af ?_)))))))
        refine Aq rfl (fun c25 => ?_) (fun c25 => ?_)
        ·have h := Ao c25 h
         refine Ad (Aa Ae rfl (qm rfl (qa rfl (Af ?_))))
         obtain rfl := sj h
         refine Al (sm [] [(2, iD v24)] [] rfl rfl) (Ay ?_)
         exact ⟨⟨[_], ⟨.tmp _ _ rfl, tv⟩, rfl⟩, tv⟩
        ·have h := An c25 h
         refine As (Aa Ae rfl (AO rfl (qm rfl (Af ?_))))
         exact Au _ h (sm [] _ _ rfl rfl)
       ·have h := An c22 h
        refine AP ?_
        exact Au _ h (sm [] _ _ rfl rfl)
      ·refine Al hs (Ad (Aa Ae rfl (qa rfl (Af ?_))))
       obtain rfl := sj h
       refine Al (sm [] [(2, iD 0)] [] rfl rfl) (Ay ?_)
       exact ⟨⟨[_], ⟨.tmp _ _ rfl, tv⟩, rfl⟩, tv⟩
theorem G4 (N : Nat) (p0 : Ah) (r : (List Ab)) (h : Dr N p0 = some r) : Az Tryz.prog 41 [.e (.agg [sC (p0.fb.map Aj), sC (p0.fc.map Aj), sC (p0.fd.map Aj), sC (p0.fa.map Ak)])] [(3, r.map Ac)] (oD (.own 0)) := by
 unfold Dr at h
 refine Ar (n := 46) (rs := [.tmp 2]) Tryz.func41 rfl rfl rfl (AY rfl) (AY rfl) rfl fun w0 S0 => ?_
 refine Ad (Aa Ae rfl (qb rfl (qa rfl (Af (Ad (Aa Ae rfl (qa rfl (Af (Ad (Ad (Aa Ae rfl (qf Bt rfl (ql EP rfl (AM Cw rfl (qm rfl (Af ?_))))))))))))))))
 refine AB (L := B1 N p0) h (fun v1 => mk [(3, oD (.own 2001)), (11, pD (.sl (p0.fa.map Ak))), (12, iD ((p0.fa.length : Int))), (13, iD v1.2)] [(2001, .vec 3 (v1.1.map Ac))]) (fun v2 => mk [(3, oD (.own 2002))] [(2002, .vec 3 (v2.map Ac))]) (fun _ _ => rfl) ((Bx 3 2008 3 rfl rfl rfl).trans (sm [(2001, 2008)] _ _ rfl rfl)) (fun j1 n1 v1 h => ?_) (fun v2 s h hs => ?_)
 ·unfold B1 at h
  refine Ad (Aa Ae rfl (AX rfl (Af (Ad ?_))))
  refine Aq rfl (fun c3 => ?_) (fun c3 => ?_)
  ·have h := Ao c3 h
   refine As (Ad (AJ (Ad (Aa Ae rfl (qm rfl ?_)))))
   obtain ⟨v4, a4, b4, h⟩ := Ai h
   refine qi Cw Dc a4 (Ag b4) rfl (qK Hw Dc rfl (qz IS rfl (qa rfl (qs Dc rfl (Af (Ad (Aa Ae rfl (qf Dz rfl (ql EO rfl (AM Cn rfl (qm rfl (Af ?_))))))))))))
   refine AB (L := Cm N v1 v4) h (fun v5 => mk [(3, oD (.own 2003)), (4, iD v1.2), (11, pD (.sl (p0.fa.map Ak))), (12, iD ((p0.fa.length : Int))), (13, iD v1.2), (19, pD (.sl (v4.fj.map (CL eB)))), (20, iD ((v4.fj.length : Int))), (21, iD v5.2)] [(2003, .vec 3 (v5.1.map Ac))]) (fun v6 => mk [(3, oD (.own 2004)), (11, pD (.sl (p0.fa.map Ak))), (12, iD ((p0.fa.length : Int))), (13, iD v1.2)] [(2004, .vec 3 (v6.map Ac))]) (fun _ _ => rfl) (sm [(2003, 2001)] _ _ rfl rfl) (fun j5 n5 v5 h => ?_) (fun v6 s h hs => ?_)
   ·unfold Cm at h
    refine Ad (Aa Ae rfl (AX rfl (Af (Ad ?_))))
    refine Aq rfl (fun c7 => ?_) (fun c7 => ?_)
    ·have h := Ao c7 h
     refine As (Ad (AJ (Ad (Aa Ae rfl (qm rfl ?_)))))
     obtain ⟨v8, a8, b8, h⟩ := Ai h
     refine qi Cn F7 a8 (Ag b8) rfl (qk Il rfl (qa rfl (qa rfl (Af (Ad (Aa Ae rfl (qm rfl (AM DV rfl (qm rfl (Af ?_))))))))))
     refine AB (L := CM N v1 v5 v8) h (fun v9 => mk [(3, oD (.own 2005)), (4, iD v1.2), (6, iD v5.2), (11, pD (.sl (p0.fa.map Ak))), (12, iD ((p0.fa.length : Int))), (13, iD v1.2), (19, pD (.sl (v4.fj.map (CL eB)))), (20, iD ((v4.fj.length : Int))), (21, iD v5.2), (26, pD (.sl (v8.map eB))), (27, iD ((v8.length : Int))), (28, iD v9.2)] [(2005, .vec 3 (v9.1.map Ac))]) (fun v10 => mk [(3, oD (.own 2006)), (4, iD v1.2), (11, pD (.sl (p0.fa.map Ak))), (12, iD ((p0.fa.length : Int))), (13, iD v1.2), (19, pD (.sl (v4.fj.map (CL eB)))), (20, iD ((v4.fj.length : Int))), (21, iD v5.2)] [(2006, .vec 3 (v10.map Ac))]) (fun _ _ => rfl) (sm [(2005, 2003)] _ _ rfl rfl) (fun j9 n9 v9 h => ?_) (fun v10 s h hs => ?_)
     ·unfold CM at h
      refine Ad (Aa Ae rfl (AX rfl (Af (Ad ?_))))
      refine Aq rfl (fun c11 => ?_) (fun c11 => ?_)
      ·have h := Ao c11 h
       refine As ?_
       refine AS h (fun v12 => mk [(3, oD (.own 2007)), (4, iD v1.2), (6, iD v5.2), (11, pD (.sl (p0.fa.map Ak))), (12, iD ((p0.fa.length : Int))), (13, iD v1.2), (19, pD (.sl (v4.fj.map (CL eB)))), (20, iD ((v4.fj.length : Int))), (21, iD v5.2), (26, pD (.sl (v8.map eB))), (27, iD ((v8.length : Int))), (28, iD v9.2)] [(2007, .vec 3 (v12.map Ac))]) (fun j12 h => ?_) (fun v12 h => ?_)
       ·refine AJ (Ad (Aa Ae rfl (qm rfl ?_)))
        obtain ⟨v13, a13, b13, h⟩ := Ai h
        refine qi DV L1 a13 (Ag b13) rfl (qk Pv rfl (qa rfl (qa rfl (Af (Ad (Aa Ae rfl (qm rfl (CB rfl (Af ?_)))))))))
        refine Aq rfl (fun c14 => ?_) (fun c14 => ?_)
        ·have h := Ao c14 h
         refine Aa Ae rfl (qm rfl (qm rfl (qm rfl (qm rfl (Cu G8 Ou rfl (Fx AI AE G8 rfl ?_))))))
         obtain ⟨c15, h⟩ := AN h
         refine Gr (f := Ac) AI AI AE Nr G8 c15 rfl (qa rfl (Af ?_))
         exact Au _ h (sm [(2007, 41)] _ _ rfl rfl)
        ·have h := An c14 h
         refine As ?_
         exact Au _ h (sm [(2007, 2005)] _ _ rfl rfl)
       ·refine Aa Ae rfl (AO rfl (qm rfl (Af ?_)))
        exact Au _ h (sm [(2005, 2007)] _ _ rfl rfl)
      ·have h := An c11 h
       refine AP ?_
       exact Au _ h (sm [(2006, 2005)] _ _ rfl rfl)
     ·refine Al hs (Aa Ae rfl (AO rfl (qm rfl (Af ?_))))
      exact Au _ h (sm [(2003, 2006)] _ _ rfl rfl)
    ·have h := An c7 h
     refine AP ?_
     exact Au _ h (sm [(2004, 2003)] _ _ rfl rfl)
   ·refine Al hs (Aa Ae rfl (AO rfl (qm rfl (Af ?_))))
    exact Au _ h (sm [(2001, 2004)] _ _ rfl rfl)
  ·have h := An c3 h
   refine AP ?_
   exact Au _ h (sm [(2002, 2001)] _ _ rfl rfl)
 ·refine Al hs (Ad (Aa Ae rfl (qm rfl (qa rfl (Af ?_)))))
  obtain rfl := sj h
  refine Al (sm [(1000, 2002)] [(2, oD (.own 1000))] [(1000, .vec 3 (v2.map Ac))] rfl rfl) (Ay ?_)
  exact ⟨⟨[_], ⟨.tmp _ _ rfl, tv⟩, rfl⟩, ⟨rfl, tv⟩⟩
theorem GN (N : Nat) (p0 : Ah) (r : (List Ab) × Int) (h : Dq N p0 = some r) : Az Tryz.prog 21 [.e (.agg [sC (p0.fb.map Aj), sC (p0.fc.map Aj), sC (p0.fd.map Aj), sC (p0.fa.map Ak)])] [(3, r.1.map Ac)] (.tup [.one (.own 0), .one (iC r.2)]) := by
 unfold Dq at h
 refine Ar (n := 12) (rs := [.tmp 2, .tmp 3]) Tryz.func21 rfl rfl rfl (AY rfl) (AY rfl) rfl fun w0 S0 => ?_
 refine Ad (Aa Ae rfl (qb rfl (qa rfl (qa rfl (Af (Ad (Ad (Aa Ae rfl (qL C9 Ck rfl ?_)))))))))
 obtain ⟨v1, a1, h⟩ := bind_some h
 refine AG [] (Dv N p0 v1 a1) Qs rfl (qa rfl (Af (Ad (Aa Ae rfl (qm rfl (Cl rfl (Af ?_)))))))
 refine Aq rfl (fun c2 => ?_) (fun c2 => ?_)
 ·have h := Ao c2 h
  refine Ad (Aa Ae rfl (qm rfl (qa rfl (qa rfl (Af ?_)))))
  obtain rfl := sj h
  refine Al ((Bx 2 2001 3 rfl rfl rfl).trans (sm [(1000, 2001)] [(2, oD (.own 1000)), (3, iD v1)] [(1000, .vec 3 ((([] : List Ab)).map Ac))] rfl rfl)) (Ay ?_)
  exact ⟨⟨[_, _], ⟨.tmp _ _ rfl, ⟨.tmp _ _ rfl, tv⟩⟩, rfl⟩, ⟨rfl, tv⟩⟩
 ·have h := An c2 h
  refine As (Ad (Aa Ae rfl (qL C9 Ck rfl ?_)))
  obtain ⟨v3, a3, h⟩ := bind_some h
  refine AG [2002] (G4 N p0 v3 a3) Tf rfl (qa rfl (qa rfl (Af ?_)))
  obtain rfl := sj h
  refine Al (sm [(1000, 2002)] [(2, oD (.own 1000)), (3, iD 0)] [(1000, .vec 3 (v3.map Ac))] rfl rfl) (Ay ?_)
  exact ⟨⟨[_, _], ⟨.tmp _ _ rfl, ⟨.tmp _ _ rfl, tv⟩⟩, rfl⟩, ⟨rfl, tv⟩⟩
theorem Lp (N : Nat) (rc : (List Ab) → Int → Option ((List (List Ab)))) (hrc : ∀ (p0 : List Ab) (p1 : Int) (r : (List (List Ab))), rc p0 p1 = some r → Az Tryz.prog 51 [pD (.sl (p0.map Ac)), iD p1] [(1, r.map (CL Ac))] (oD (.own 0))) (p0 : List Ab) (p1 : Int) (r : (List (List Ab))) (h : GR N rc p0 p1 = some r) : Az Tryz.prog 51 [pD (.sl (p0.map Ac)), iD p1] [(1, r.map (CL Ac))] (oD (.own 0)) := by
 unfold GR at h
 refine Ar (n := 42) (rs := [.tmp 4]) Tryz.func51 rfl rfl rfl (AY rfl) (AY rfl) rfl fun w0 S0 => ?_
 refine Ad (Aa Ae rfl (qa rfl (Af (Ad (Ad (Aa Ae rfl (qm rfl (CR rfl (Af ?_)))))))))
 refine Aq rfl (fun c1 => ?_) (fun c1 => ?_)
 ·have h := Ao c1 h
  refine Ad (Aa Ae rfl (Fx Ia O9 Q8 rfl (qa rfl (Af ?_))))
  obtain rfl := sj h
  refine Al (sm [(1000, 12)] [(4, oD (.own 1000))] [(1000, .vec 1 ((([([] : List Ab)] : List (List Ab))).map (CL Ac)))] rfl rfl) (Ay ?_)
  exact ⟨⟨[_], ⟨.tmp _ _ rfl, tv⟩, rfl⟩, ⟨rfl, tv⟩⟩
 ·have h := An c1 h
  refine As (Ad (Aa Ae rfl (qa rfl (Af (Ad (Ad (Aa Ae rfl (qm rfl (AM AI rfl (qm rfl (Af ?_)))))))))))
  refine AB (L := Fb N p0 p1 rc) h (fun v2 => mk [(0, pD (.sl (p0.map Ac))), (1, iD p1), (5, oD (.own 2001)), (13, pD (.sl (p0.map Ac))), (14, iD ((p0.length : Int))), (15, iD v2.2)] [(2001, .vec 1 (v2.1.map (CL Ac)))]) (fun v3 => mk [(5, oD (.own 2002))] [(2002, .vec 1 (v3.map (CL Ac)))]) (fun _ _ => rfl) ((Bx 5 2007 1 rfl rfl rfl).trans (sm [(2001, 2007)] _ _ rfl rfl)) (fun j2 n2 v2 h => ?_) (fun v3 s h hs => ?_)
  ·unfold Fb at h
   refine Ad (Aa Ae rfl (AX rfl (Af (Ad ?_))))
   refine Aq rfl (fun c4 => ?_) (fun c4 => ?_)
   ·have h := Ao c4 h
    refine As (Ad (AJ (Ad (Aa Ae rfl (qm rfl ?_)))))
    obtain ⟨v5, a5, b5, h⟩ := Ai h
    refine qi AI AE a5 (Ag b5) rfl (qK Co AE rfl (qz G8 rfl (qa rfl (qs AE rfl (Af (Ad (Aa Ae rfl (qm rfl (qm rfl (AO rfl ?_))))))))))
    obtain ⟨c6, h⟩ := AN h
    refine Sc (.p rfl) rfl AI AE (Mp (f := Ac) (n := 3) (fun _ => rfl) _) (.some _ _ _ _ c6.1) (.none _) ⟨rfl, tv⟩ tv (by have := c6.2.1; (try simp only [List.length_map]); omega) (by have := c6.2.2; (try simp only [List.length_map]); omega) (Rn Ac p0 _ _ (p0.length - ((wI .i64 (v2.2 + 1))).toNat) (by rw [List.length_map])) ?_
    refine qm rfl (Cv rfl ?_)
    obtain ⟨v7, a7, h⟩ := bind_some h
    refine AG [2003] (hrc (((p0.drop ((wI .i64 (v2.2 + 1))).toNat).take (p0.length - ((wI .i64 (v2.2 + 1))).toNat))) ((wI .i64 (p1 - 1))) v7 a7) Uy rfl (D8 Ia rfl (qm rfl (Af ?_)))
    refine AB (L := E9 N v5 v7) h (fun v8 => mk [(0, pD (.sl (p0.map Ac))), (1, iD p1), (5, oD (.own 2004)), (7, oD (.ptr 7 0)), (13, pD (.sl (p0.map Ac))), (14, iD ((p0.length : Int))), (15, iD v2.2), (26, oD (.own 2005)), (27, iD ((v7.length : Int))), (28, iD v8.2)] [(7, .box [iC v5.ft, iC v5.fr, iC v5.fq]), (2004, .vec 1 (v8.1.map (CL Ac))), (2005, .vec 1 (v7.map (CL Ac)))]) (fun v9 => mk [(0, pD (.sl (p0.map Ac))), (1, iD p1), (5, oD (.own 2006)), (13, pD (.sl (p0.map Ac))), (14, iD ((p0.length : Int))), (15, iD v2.2)] [(2006, .vec 1 (v9.map (CL Ac)))]) (fun _ _ => rfl) (sm [(2004, 2001), (2005, 2003)] _ _ rfl rfl) (fun j8 n8 v8 h => ?_) (fun v9 s h hs => ?_)
    ·unfold E9 at h
     refine Ad (Aa Ae rfl (AX rfl (Af (Ad ?_))))
     refine Aq rfl (fun c10 => ?_) (fun c10 => ?_)
     ·have h := Ao c10 h
      refine As (Ad (AJ (Ad (Aa Ae rfl ?_))))
      obtain ⟨v11, a11, b11, h⟩ := Ai h
      refine qI Ia O9 a11 (Ag b11) rfl (qj TH (Ag b11) rfl (qa rfl (Af (Aa Ae rfl (qm rfl (qL Co AE rfl (Fx AI AE G8 rfl (qm rfl ?_))))))))
      obtain ⟨c12, h⟩ := AN h
      refine HN (f := Ac) AI AI AE Nr G8 (fun _ => rfl) c12 rfl (E2 (DC 36 _ _ rfl rfl) (Fx Ia O9 Q8 rfl ?_))
      obtain ⟨c13, h⟩ := AN h
      refine Gr (f := (CL Ac)) Ia Ia O9 SI Q8 c13 rfl (qa rfl (Af (Aa Ae rfl (AO rfl (qm rfl (Af ?_))))))
      exact Au _ h (sm [(2004, 38)] _ _ rfl rfl)
     ·have h := An c10 h
      refine AP ?_
      exact Au _ h (sm [(2006, 2004)] _ _ rfl rfl)
    ·refine Al hs (Aa Ae rfl (AO rfl (qm rfl (Af ?_))))
     exact Au _ h (sm [(2001, 2006)] _ _ rfl rfl)
   ·have h := An c4 h
    refine AP ?_
    exact Au _ h (sm [(2002, 2001)] _ _ rfl rfl)
  ·refine Al hs (Ad (Aa Ae rfl (qm rfl (qa rfl (Af ?_)))))
   obtain rfl := sj h
   refine Al (sm [(1000, 2002)] [(4, oD (.own 1000))] [(1000, .vec 1 (v3.map (CL Ac)))] rfl rfl) (Ay ?_)
   exact ⟨⟨[_], ⟨.tmp _ _ rfl, tv⟩, rfl⟩, ⟨rfl, tv⟩⟩
theorem II (N : Nat) : ∀ (k : Nat) (p0 : List Ab) (p1 : Int) (r : (List (List Ab))), Fs N k p0 p1 = some r → Az Tryz.prog 51 [pD (.sl (p0.map Ac)), iD p1] [(1, r.map (CL Ac))] (oD (.own 0))
 | 0, _, _, _, h => by cases h
 | k + 1, p0, p1, r, h => Lp N (Fs N k) (II N k) p0 p1 r h
theorem MQ (N : Nat) (p0 : List Ab) (p1 : Int) (r : (List (List Ab))) (h : Jg N p0 p1 = some r) : Az Tryz.prog 51 [pD (.sl (p0.map Ac)), iD p1] [(1, r.map (CL Ac))] (oD (.own 0)) := II N N p0 p1 r h
theorem Ca (N : Nat) (p0 : List Int) (r : (List Int)) (h : A4 N p0 = some r) : Az Tryz.prog 60 [pD (.sl (p0.map Aj))] [(1, r.map Aj)] (oD (.own 0)) := by
 unfold A4 at h
 refine Ar (n := 8) (rs := [.tmp 2]) Tryz.func60 rfl rfl rfl (AY rfl) (AY rfl) rfl fun w0 S0 => ?_
 refine Ad (Aa Ae rfl (qa rfl (Af (Ad (Ad (Aa Ae rfl (qm rfl ?_)))))))
 refine KK (.p rfl) rfl AQ ?_
 refine Af ?_
 refine K0 rfl (fun c2 => ?_) ?_
 ·have c2 := List.map_eq_nil_iff.1 c2
  rw [c2] at h
  have h : (some (([] : List Int))) = some r := h
  refine Ad (Aa Ae rfl (qa rfl (Af ?_)))
  obtain rfl := sj h
  refine Al ((Bx 2 2001 1 rfl rfl rfl).trans (sm [(1000, 2001)] [(2, oD (.own 1000))] [(1000, .vec 1 ((([] : List Int)).map Aj))] rfl rfl)) (Ay ?_)
  exact ⟨⟨[_], ⟨.tmp _ _ rfl, tv⟩, rfl⟩, ⟨rfl, tv⟩⟩
 ·refine As (Ad (Aa Ae rfl (Fx AQ Fh Np rfl (qm rfl ?_))))
  obtain ⟨c1, h⟩ := AN h
  refine HN (f := Aj) AQ AQ Fh PC Np (fun _ => rfl) c1 rfl (qa rfl (Af ?_))
  obtain rfl := sj h
  refine Al (sm [(1000, 7)] [(2, oD (.own 1000))] [(1000, .vec 1 (((([] : List Int)) ++ p0).map Aj))] rfl rfl) (Ay ?_)
  exact ⟨⟨[_], ⟨.tmp _ _ rfl, tv⟩, rfl⟩, ⟨rfl, tv⟩⟩
theorem F6 (N : Nat) (p0 : List (List Bool)) (r : (List (List Bool))) (h : CC N p0 = some r) : Az Tryz.prog 138 [pD (.sl (p0.map (CL eB)))] [(1, r.map (CL eB))] (oD (.own 0)) := by
 unfold CC at h
 refine Ar (n := 8) (rs := [.tmp 2]) Tryz.func138 rfl rfl rfl (AY rfl) (AY rfl) rfl fun w0 S0 => ?_
 refine Ad (Aa Ae rfl (qa rfl (Af (Ad (Ad (Aa Ae rfl (qm rfl ?_)))))))
 refine KK (.p rfl) rfl Cn ?_
 refine Af ?_
 refine K0 rfl (fun c2 => ?_) ?_
 ·have c2 := List.map_eq_nil_iff.1 c2
  rw [c2] at h
  have h : (some (([] : List (List Bool)))) = some r := h
  refine Ad (Aa Ae rfl (qa rfl (Af ?_)))
  obtain rfl := sj h
  refine Al ((Bx 2 2001 1 rfl rfl rfl).trans (sm [(1000, 2001)] [(2, oD (.own 1000))] [(1000, .vec 1 ((([] : List (List Bool))).map (CL eB)))] rfl rfl)) (Ay ?_)
  exact ⟨⟨[_], ⟨.tmp _ _ rfl, tv⟩, rfl⟩, ⟨rfl, tv⟩⟩
 ·refine As (Ad (Aa Ae rfl (Fx Cn F7 PP rfl (qm rfl ?_))))
  obtain ⟨c1, h⟩ := AN h
  refine HN (f := (CL eB)) Cn Cn F7 Q4 PP (fun _ => rfl) c1 rfl (qa rfl (Af ?_))
  obtain rfl := sj h
  refine Al (sm [(1000, 7)] [(2, oD (.own 1000))] [(1000, .vec 1 (((([] : List (List Bool))) ++ p0).map (CL eB)))] rfl rfl) (Ay ?_)
  exact ⟨⟨[_], ⟨.tmp _ _ rfl, tv⟩, rfl⟩, ⟨rfl, tv⟩⟩
theorem FD (N : Nat) (p0 : List Bool) (r : (List Bool)) (h : Ci N p0 = some r) : Az Tryz.prog 139 [pD (.sl (p0.map eB))] [(1, r.map eB)] (oD (.own 0)) := by
 unfold Ci at h
 refine Ar (n := 8) (rs := [.tmp 2]) Tryz.func139 rfl rfl rfl (AY rfl) (AY rfl) rfl fun w0 S0 => ?_
 refine Ad (Aa Ae rfl (qa rfl (Af (Ad (Ad (Aa Ae rfl (qm rfl ?_)))))))
 refine KK (.p rfl) rfl DV ?_
 refine Af ?_
 refine K0 rfl (fun c2 => ?_) ?_
 ·have c2 := List.map_eq_nil_iff.1 c2
  rw [c2] at h
  have h : (some (([] : List Bool))) = some r := h
  refine Ad (Aa Ae rfl (qa rfl (Af ?_)))
  obtain rfl := sj h
  refine Al ((Bx 2 2001 1 rfl rfl rfl).trans (sm [(1000, 2001)] [(2, oD (.own 1000))] [(1000, .vec 1 ((([] : List Bool)).map eB))] rfl rfl)) (Ay ?_)
  exact ⟨⟨[_], ⟨.tmp _ _ rfl, tv⟩, rfl⟩, ⟨rfl, tv⟩⟩
 ·refine As (Ad (Aa Ae rfl (Fx DV L1 SH rfl (qm rfl ?_))))
  obtain ⟨c1, h⟩ := AN h
  refine HN (f := eB) DV DV L1 TR SH (fun _ => rfl) c1 rfl (qa rfl (Af ?_))
  obtain rfl := sj h
  refine Al (sm [(1000, 7)] [(2, oD (.own 1000))] [(1000, .vec 1 (((([] : List Bool)) ++ p0).map eB))] rfl rfl) (Ay ?_)
  exact ⟨⟨[_], ⟨.tmp _ _ rfl, tv⟩, rfl⟩, ⟨rfl, tv⟩⟩
theorem Lh (N : Nat) (p0 : Av) (r : Av) (h : EI N p0 = some r) : By Tryz.prog 109 [.e (.agg [iC p0.fe, iC p0.fh, iC p0.fm, .pure (.val (.bool p0.fo)), sC (p0.fj.map (CL eB)), sC (p0.fk.map (CL eB))])] [] [.dvec 1 [.x 1 []] (r.fj.map (CL eB)), .dvec 1 [.x 1 []] (r.fk.map (CL eB))] (.e (.agg [iC r.fe, iC r.fh, iC r.fm, .pure (.val (.bool r.fo)), .own 0, .own 1])) := by
 unfold EI at h
 refine A3 (n := 48) (rs := [.cell 2 76]) Tryz.func109 rfl rfl rfl (AY rfl) (AY rfl) rfl rfl (AY rfl) rfl (AY rfl) fun w0 S0 GL => ?_
 refine Al (sm [] [(0, .e (.agg [iC p0.fe, iC p0.fh, iC p0.fm, .pure (.val (.bool p0.fo)), sC (p0.fj.map (CL eB)), sC (p0.fk.map (CL eB))]))] [] rfl rfl) (Ad (Aa Ae rfl (qb rfl (qz IS rfl (Af (Ad (Aa Ae rfl (qf Dz rfl (ql EO rfl ?_)))))))))
 obtain ⟨v1, a1, h⟩ := bind_some h
 refine AG [2001] (F6 N p0.fj v1 a1) SV rfl (qf Dp rfl (ql EO rfl ?_))
 obtain ⟨v2, a2, h⟩ := bind_some h
 refine AG [2002] (F6 N p0.fk v2 a2) SV rfl (qf Dz rfl (qs QI rfl (qf Dp rfl (qs QI rfl (AL (by kernel_rfl) (Ad (Ad (Aa Ae rfl (qf Dz rfl (ql EO rfl (D8 Cn rfl (qm rfl (Af (Al (OU 2001 1 [.x 1 []] _ rfl) ?_))))))))))))))
 refine AB (L := C1 N v1) h (fun v3 => mk [(1, oD (.ptr 1 0)), (2, oD (.ptr 2 0)), (15, iD ((v1.length : Int))), (16, iD v3.2)] [(1, .box [iC p0.fe, iC p0.fh, iC p0.fm, .pure (.val (.bool p0.fo)), .own 2003, .own 2004]), (2, .box [iC 0, iC 0, iC 0, .pure (.val (.bool false)), .pure (.nil0), .pure (.nil0)]), (2003, .pvec ((v3.2).toNat) 1 [.x 1 []] (v3.1.map (CL eB))), (2004, .vec 1 (v2.map (CL eB)))]) (fun v4 => mk [(1, oD (.ptr 1 0)), (2, oD (.ptr 2 0))] [(1, .box [iC p0.fe, iC p0.fh, iC p0.fm, .pure (.val (.bool p0.fo)), .own 2005, .own 2006]), (2, .box [iC 0, iC 0, iC 0, .pure (.val (.bool false)), .pure (.nil0), .pure (.nil0)]), (2005, .dvec 1 [.x 1 []] (v4.map (CL eB))), (2006, .vec 1 (v2.map (CL eB)))]) (fun _ _ => rfl) (sm [(2003, 2001), (2004, 2002)] _ _ rfl rfl) (fun j3 n3 v3 h => ?_) (fun v4 s h hs => ?_)
 ·unfold C1 at h
  refine Ad (Aa Ae rfl (AX rfl (Af (Ad ?_))))
  refine Aq rfl (fun c5 => ?_) (fun c5 => ?_)
  ·have h := Ao c5 h
   refine As (Ad (AJ (Ad (Aa Ae rfl (qm rfl (qa rfl (Af (Aa Ae rfl (qf Dz rfl (ql EO rfl (qm rfl (qf Dz rfl (ql EO rfl (qm rfl ?_))))))))))))))
   obtain ⟨v6, a6, b6, h⟩ := Ai h
   refine Ga (.p rfl) rfl rfl rfl (LT (CL eB) v3.1 _ _ _) Cn F7 a6 (AA b6) ?_
   refine Po (.p rfl) rfl Il rfl (Ag b6) rfl (Nat.le_refl _) ?_
   obtain ⟨v7, a7, h⟩ := bind_some h
   refine AG [2007] (FD N v6 v7 a7) SY rfl ?_
   obtain ⟨v8, a8, b8, h⟩ := Ai h
   refine Ga (.p rfl) rfl rfl rfl (LT (CL eB) v3.1 _ _ _) Cn F7 a8 (AA b8) ?_
   refine Nu rfl rfl rfl rfl (rows2 := v7.map eB) (cols2 := []) rfl rfl (Ag b8) rfl F7 rfl rfl (A0 (CL eB) v3.1 _ v7) ?_
   refine AL (by kernel_rfl) (Aa Ae rfl (AO rfl (qm rfl (Af ?_))))
   obtain ⟨c9, h⟩ := AN h
   exact Au _ h ((O0 2003 rfl c9).trans (sm [] _ _ rfl rfl))
  ·have h := An c5 h
   refine AP ?_
   obtain ⟨c10, h⟩ := AN h
   exact Au _ h ((Pm 2003 rfl (by rw [List.length_map]; exact c10)).trans (sm [(2005, 2003), (2006, 2004)] _ _ rfl rfl))
 ·refine Al hs (Ad (Ad (Aa Ae rfl (qf Dp rfl (ql EO rfl (D8 Cn rfl (qm rfl (Af (Al (OU 2006 1 [.x 1 []] _ rfl) ?_)))))))))
  refine AB (L := BG N v2) h (fun v11 => mk [(1, oD (.ptr 1 0)), (2, oD (.ptr 2 0)), (32, iD ((v2.length : Int))), (33, iD v11.2)] [(1, .box [iC p0.fe, iC p0.fh, iC p0.fm, .pure (.val (.bool p0.fo)), .own 2008, .own 2009]), (2, .box [iC 0, iC 0, iC 0, .pure (.val (.bool false)), .pure (.nil0), .pure (.nil0)]), (2008, .dvec 1 [.x 1 []] (v4.map (CL eB))), (2009, .pvec ((v11.2).toNat) 1 [.x 1 []] (v11.1.map (CL eB)))]) (fun v12 => mk [(1, oD (.ptr 1 0)), (2, oD (.ptr 2 0))] [(1, .box [iC p0.fe, iC p0.fh, iC p0.fm, .pure (.val (.bool p0.fo)), .own 2010, .own 2011]), (2, .box [iC 0, iC 0, iC 0, .pure (.val (.bool false)), .pure (.nil0), .pure (.nil0)]), (2010, .dvec 1 [.x 1 []] (v4.map (CL eB))), (2011, .dvec 1 [.x 1 []] (v12.map (CL eB)))]) (fun _ _ => rfl) (sm [(2008, 2005), (2009, 2006)] _ _ rfl rfl) (fun j11 n11 v11 h => ?_) (fun v12 s h hs => ?_)
  ·unfold BG at h
   refine Ad (Aa Ae rfl (AX rfl (Af (Ad ?_))))
   refine Aq rfl (fun c13 => ?_) (fun c13 => ?_)
   ·have h := Ao c13 h
    refine As (Ad (AJ (Ad (Aa Ae rfl (qm rfl (qa rfl (Af (Aa Ae rfl (qf Dp rfl (ql EO rfl (qm rfl (qf Dp rfl (ql EO rfl (qm rfl ?_))))))))))))))
    obtain ⟨v14, a14, b14, h⟩ := Ai h
    refine Ga (.p rfl) rfl rfl rfl (LT (CL eB) v11.1 _ _ _) Cn F7 a14 (AA b14) ?_
    refine Po (.p rfl) rfl Il rfl (Ag b14) rfl (Nat.le_refl _) ?_
    obtain ⟨v15, a15, h⟩ := bind_some h
    refine AG [2012] (FD N v14 v15 a15) SY rfl ?_
    obtain ⟨v16, a16, b16, h⟩ := Ai h
    refine Ga (.p rfl) rfl rfl rfl (LT (CL eB) v11.1 _ _ _) Cn F7 a16 (AA b16) ?_
    refine Nu rfl rfl rfl rfl (rows2 := v15.map eB) (cols2 := []) rfl rfl (Ag b16) rfl F7 rfl rfl (A0 (CL eB) v11.1 _ v15) ?_
    refine AL (by kernel_rfl) (Aa Ae rfl (AO rfl (qm rfl (Af ?_))))
    obtain ⟨c17, h⟩ := AN h
    exact Au _ h ((O0 2009 rfl c17).trans (sm [] _ _ rfl rfl))
   ·have h := An c13 h
    refine AP ?_
    obtain ⟨c18, h⟩ := AN h
    exact Au _ h ((Pm 2009 rfl (by rw [List.length_map]; exact c18)).trans (sm [(2010, 2008), (2011, 2009)] _ _ rfl rfl))
  ·refine Al hs (Ad (Aa Ae rfl (qL Hw Dc rfl (qs Dc rfl (Af ?_)))))
   obtain rfl := sj h
   refine Al (sm [(1000, 2010), (1001, 2011)] [(2, oD (.ptr 2 0))] [(2, .box [iC p0.fe, iC p0.fh, iC p0.fm, .pure (.val (.bool p0.fo)), .own 1000, .own 1001]), (1000, .dvec 1 [.x 1 []] (v4.map (CL eB))), (1001, .dvec 1 [.x 1 []] (v12.map (CL eB)))] rfl rfl) (Ay ?_)
   exact ⟨⟨[_], ⟨.cellN _ _ _ _ _ _ _ rfl rfl Hw Dc rfl rfl (Kt rfl), tv⟩, rfl⟩, tv, ⟨rfl, rfl, tv⟩⟩
theorem KI (N : Nat) (p0 : Ah) (p1 : List Int) (p2 : List Int) (r : Ah × Int) (h : Ep N p0 p1 p2 = some r) : By Tryz.prog 75 [.e (.agg [sC (p0.fb.map Aj), sC (p0.fc.map Aj), sC (p0.fd.map Aj), sC (p0.fa.map Ak)]), pD (.sl (p1.map Aj)), pD (.sl (p2.map Aj))] [] [.vec 1 (r.1.fb.map Aj), .vec 1 (r.1.fc.map Aj), .vec 1 (r.1.fd.map Aj), .dvec 6 [.s, .s, .s, .s, .x 1 [.x 1 []], .x 1 [.x 1 []]] (r.1.fa.map Ak)] (.tup [.agg [.own 0, .own 1, .own 2, .own 3], .one (iC r.2)]) := by
 unfold Ep at h
 refine A3 (n := 49) (rs := [.cell 6 29, .tmp 7]) Tryz.func75 rfl rfl rfl (AY rfl) (AY rfl) rfl rfl (AY rfl) rfl (AY rfl) fun w0 S0 GL => ?_
 refine Al (sm [] [(0, .e (.agg [sC (p0.fb.map Aj), sC (p0.fc.map Aj), sC (p0.fd.map Aj), sC (p0.fa.map Ak)])), (1, pD (.sl (p1.map Aj))), (2, pD (.sl (p2.map Aj)))] [] rfl rfl) (Ad (Aa Ae rfl (qb rfl (qz IQ rfl (qa rfl (Af (Ad (Ad (Aa Ae rfl (qL C9 Ck rfl ?_))))))))))
 obtain ⟨v1, a1, h⟩ := bind_some h
 refine AG [] (Dv N p0 v1 a1) Qs rfl (qa rfl (Af (Ad (Aa Ae rfl (qm rfl (Cl rfl (Af ?_)))))))
 refine Aq rfl (fun c2 => ?_) (fun c2 => ?_)
 ·have h := Ao c2 h
  refine Ad (Aa Ae rfl (Cu IQ ON rfl (qm rfl (qs Ck rfl (qa rfl (Af ?_))))))
  obtain rfl := sj h
  refine Al ((AW 6 0 2001 1 _ rfl rfl rfl rfl).trans ((AW 6 1 2002 1 _ rfl rfl rfl rfl).trans ((AW 6 2 2003 1 _ rfl rfl rfl rfl).trans ((AW 6 3 2004 6 _ rfl rfl rfl rfl).trans ((GC 2004 6 [.s, .s, .s, .s, .x 1 [.x 1 []], .x 1 [.x 1 []]] [] [] rfl rfl).trans (sm [(1000, 2001), (1001, 2002), (1002, 2003), (1003, 2004)] [(6, oD (.ptr 6 0)), (7, iD v1)] [(6, .box [.own 1000, .own 1001, .own 1002, .own 1003]), (1000, .vec 1 ((([] : List Int)).map Aj)), (1001, .vec 1 ((([] : List Int)).map Aj)), (1002, .vec 1 ((([] : List Int)).map Aj)), (1003, .dvec 6 [.s, .s, .s, .s, .x 1 [.x 1 []], .x 1 [.x 1 []]] ((([] : List Av)).map Ak))] rfl rfl)))))) (Ay ?_)
  exact ⟨⟨[_, _], ⟨.cellN _ _ _ _ _ _ _ rfl rfl C9 Ck rfl rfl (Kt rfl), ⟨.tmp _ _ rfl, tv⟩⟩, rfl⟩, tv, ⟨rfl, rfl, rfl, rfl, tv⟩⟩
 ·have h := An c2 h
  refine As (Ad (Aa Ae rfl (qf CT rfl (ql Ch rfl ?_))))
  obtain ⟨v3, a3, h⟩ := bind_some h
  refine AG [2005] (Ca N p0.fb v3 a3) Pg rfl (qm rfl ?_)
  obtain ⟨v4, a4, h⟩ := bind_some h
  refine AG [2006] (Ca N p1 v4 a4) Pg rfl (qm rfl ?_)
  obtain ⟨v5, a5, h⟩ := bind_some h
  refine AG [2007] (Ca N p2 v5 a5) Pg rfl (Cu IQ ON rfl (qz IQ rfl (qs Ck rfl (Af (Ad (Ad (Aa Ae rfl (qf Bt rfl (ql EP rfl (AM Cw rfl (qm rfl (Af ?_))))))))))))
  refine AB (L := CO N p0) h (fun v6 => mk [(6, oD (.ptr 6 0)), (9, oD (.ptr 9 0)), (28, pD (.sl (p0.fa.map Ak))), (29, iD ((p0.fa.length : Int))), (30, iD v6.2)] [(6, .box [.pure (.nil0), .pure (.nil0), .pure (.nil0), .pure (.nil0)]), (9, .box [.own 2008, .own 2009, .own 2010, .own 2011]), (2008, .vec 1 (v3.map Aj)), (2009, .vec 1 (v4.map Aj)), (2010, .vec 1 (v5.map Aj)), (2011, .dvec 6 [.s, .s, .s, .s, .x 1 [.x 1 []], .x 1 [.x 1 []]] (v6.1.map Ak))]) (fun v7 => mk [(6, oD (.ptr 6 0)), (9, oD (.ptr 9 0))] [(6, .box [.pure (.nil0), .pure (.nil0), .pure (.nil0), .pure (.nil0)]), (9, .box [.own 2012, .own 2013, .own 2014, .own 2015]), (2012, .vec 1 (v3.map Aj)), (2013, .vec 1 (v4.map Aj)), (2014, .vec 1 (v5.map Aj)), (2015, .dvec 6 [.s, .s, .s, .s, .x 1 [.x 1 []], .x 1 [.x 1 []]] (v7.map Ak))]) (fun _ _ => rfl) ((AW 9 3 2018 6 _ rfl rfl rfl rfl).trans ((GC 2018 6 [.s, .s, .s, .s, .x 1 [.x 1 []], .x 1 [.x 1 []]] [] [] rfl rfl).trans (sm [(2008, 2005), (2009, 2006), (2010, 2007), (2011, 2018)] _ _ rfl rfl))) (fun j6 n6 v6 h => ?_) (fun v7 s h hs => ?_)
  ·unfold CO at h
   refine Ad (Aa Ae rfl (AX rfl (Af (Ad ?_))))
   refine Aq rfl (fun c8 => ?_) (fun c8 => ?_)
   ·have h := Ao c8 h
    refine As (Ad (AJ (Ad (Aa Ae rfl ?_))))
    obtain ⟨v9, a9, b9, h⟩ := Ai h
    refine qi Cw Dc a9 (Ag b9) rfl (qK Hw Dc rfl (qz IS rfl (qs Dc rfl (Af (Aa Ae rfl (qf Bt rfl (ql EP rfl (qL Hw Dc rfl ?_))))))))
    obtain ⟨v10, a10, h⟩ := bind_some h
    refine CK (ds0 := [_]) [] [2016, 2017] [] (Lh N v9 v10 a10) (.p rfl) UM rfl ⟨rfl, tv⟩ rfl rfl (by decide) tv rfl (A2 rfl) ⟨rfl, rfl, tv⟩ tv rfl rfl rfl ?_
    refine Hn (x := .agg [iC v10.fe, iC v10.fh, iC v10.fm, .pure (.val (.bool v10.fo)), .own 2016, .own 2017]) (cs := [iC v10.fe, iC v10.fh, iC v10.fm, .pure (.val (.bool v10.fo)), .own 2016, .own 2017]) (ts := [.val (.int .i64 v10.fe), .val (.int .i64 v10.fh), .val (.int .i64 v10.fm), .val (.bool v10.fo), .sl (v10.fj.map (CL eB)), .sl (v10.fk.map (CL eB))]) [.s, .s, .s, .s, .x 1 [.x 1 []], .x 1 [.x 1 []]] [(2016, .dvec 1 [.x 1 []] (v10.fj.map (CL eB))), (2017, .dvec 1 [.x 1 []] (v10.fk.map (CL eB)))] (.p rfl) rfl rfl rfl rfl rfl ⟨rfl, rfl, tv⟩ ⟨rfl, rfl, rfl, rfl, rfl, rfl, tv⟩ rfl rfl rfl Cw Dc IS (AY rfl) ?_
    obtain ⟨c11, h⟩ := AN h
    refine IG (.p rfl) rfl rfl rfl rfl rfl (by decide) Cw Cw Dc SM (AY rfl) IS rfl (KW (f := Ak) (g := Ak) (xs := v6.1) (ys := (([v10] : List Av))) c11) (KJ Ak v6.1 (([v10] : List Av))) rfl rfl ?_
    refine qf Bt rfl (qs T9 rfl (AL (by kernel_rfl) (Aa Ae rfl (AO rfl (qm rfl (Af ?_))))))
    exact Au _ h (sm [(2011, 39)] _ _ rfl rfl)
   ·have h := An c8 h
    refine AP ?_
    exact Au _ h (sm [(2012, 2008), (2013, 2009), (2014, 2010), (2015, 2011)] _ _ rfl rfl)
  ·refine Al hs (Ad (Ad (Aa Ae rfl (qL C9 Ck rfl ?_))))
   obtain ⟨v12, a12, h⟩ := bind_some h
   refine Ew [] [2012, 2013, 2014, 2015] (Dv N ((Ah.mk v3 v4 v5 v7)) v12 a12) Qs De rfl (qa rfl (Af (Ad (Aa Ae rfl (qm rfl (Cl rfl (Af ?_)))))))
   refine Aq rfl (fun c13 => ?_) (fun c13 => ?_)
   ·have h := Ao c13 h
    refine Ad (Aa Ae rfl (Cu IQ ON rfl (qm rfl (qs Ck rfl (qa rfl (Af ?_))))))
    obtain rfl := sj h
    refine Al ((AW 6 0 2019 1 _ rfl rfl rfl rfl).trans ((AW 6 1 2020 1 _ rfl rfl rfl rfl).trans ((AW 6 2 2021 1 _ rfl rfl rfl rfl).trans ((AW 6 3 2022 6 _ rfl rfl rfl rfl).trans ((GC 2022 6 [.s, .s, .s, .s, .x 1 [.x 1 []], .x 1 [.x 1 []]] [] [] rfl rfl).trans (sm [(1000, 2019), (1001, 2020), (1002, 2021), (1003, 2022)] [(6, oD (.ptr 6 0)), (7, iD v12)] [(6, .box [.own 1000, .own 1001, .own 1002, .own 1003]), (1000, .vec 1 ((([] : List Int)).map Aj)), (1001, .vec 1 ((([] : List Int)).map Aj)), (1002, .vec 1 ((([] : List Int)).map Aj)), (1003, .dvec 6 [.s, .s, .s, .s, .x 1 [.x 1 []], .x 1 [.x 1 []]] ((([] : List Av)).map Ak))] rfl rfl)))))) (Ay ?_)
    exact ⟨⟨[_, _], ⟨.cellN _ _ _ _ _ _ _ rfl rfl C9 Ck rfl rfl (Kt rfl), ⟨.tmp _ _ rfl, tv⟩⟩, rfl⟩, tv, ⟨rfl, rfl, rfl, rfl, tv⟩⟩
   ·have h := An c13 h
    refine As (Ad (Aa Ae rfl (qL C9 Ck rfl (qs Ck rfl (qa rfl (Af ?_))))))
    obtain rfl := sj h
    refine Al (sm [(1000, 2012), (1001, 2013), (1002, 2014), (1003, 2015)] [(6, oD (.ptr 6 0)), (7, iD 0)] [(6, .box [.own 1000, .own 1001, .own 1002, .own 1003]), (1000, .vec 1 (v3.map Aj)), (1001, .vec 1 (v4.map Aj)), (1002, .vec 1 (v5.map Aj)), (1003, .dvec 6 [.s, .s, .s, .s, .x 1 [.x 1 []], .x 1 [.x 1 []]] (v7.map Ak))] rfl rfl) (Ay ?_)
    exact ⟨⟨[_, _], ⟨.cellN _ _ _ _ _ _ _ rfl rfl C9 Ck rfl rfl (Kt rfl), ⟨.tmp _ _ rfl, tv⟩⟩, rfl⟩, tv, ⟨rfl, rfl, rfl, rfl, tv⟩⟩
theorem JI (N : Nat) (p0 : Ah) (p1 : List Ab) (r : Ah) (h : EB N p0 p1 = some r) : Az Tryz.prog 47 [.e (.agg [sC (p0.fb.map Aj), sC (p0.fc.map Aj), sC (p0.fd.map Aj), sC (p0.fa.map Ak)]), pD (.sl (p1.map Ac))] [(1, r.fb.map Aj), (1, r.fc.map Aj), (1, r.fd.map Aj)] (.e (.agg [.own 0, .own 1, .own 2, sC (r.fa.map Ak)])) := by
 unfold EB at h
 refine Ar (n := 40) (rs := [.cell 4 29]) Tryz.func47 rfl rfl rfl (AY rfl) (AY rfl) rfl fun w0 S0 => ?_
 refine Ad (Aa Ae rfl (qb rfl (qz IQ rfl (Af (Ad (Aa Ae rfl (qL C9 Ck rfl (qf FT rfl (ql Ch rfl (qf G1 rfl (ql Ch rfl ?_)))))))))))
 obtain ⟨v1, a1, h⟩ := bind_some h
 refine CK (ds0 := [_, _, _]) [] [2001, 2002, 2003, 2004] [] (KI N p0 p0.fc p0.fd v1 a1) (.p rfl) Vm rfl ⟨rfl, rfl, rfl, tv⟩ rfl rfl (by decide) tv rfl (A2 rfl) ⟨rfl, rfl, rfl, rfl, tv⟩ tv rfl rfl rfl ?_
 refine qm rfl (qx rfl (qx rfl (qz IQ rfl (qs Ck rfl (qa rfl (Af (Ad (Ad (Aa Ae rfl (qm rfl (AM AI rfl (qm rfl (Af ?_)))))))))))))
 refine AB (L := Du N p1) h (fun v2 => mk [(4, oD (.ptr 4 0)), (5, oD (.ptr 5 0)), (18, pD (.sl (p1.map Ac))), (19, iD ((p1.length : Int))), (20, iD v2.2)] [(4, .box [.pure (.nil0), .pure (.nil0), .pure (.nil0), .pure (.nil0)]), (5, .box [.own 2005, .own 2006, .own 2007, .own 2008]), (2005, .vec 1 (v1.1.fb.map Aj)), (2006, .vec 1 (v1.1.fc.map Aj)), (2007, .vec 1 (v1.1.fd.map Aj)), (2008, .dvec 6 [.s, .s, .s, .s, .x 1 [.x 1 []], .x 1 [.x 1 []]] (v2.1.map Ak))]) (fun v3 => mk [(4, oD (.ptr 4 0)), (5, oD (.ptr 5 0))] [(4, .box [.pure (.nil0), .pure (.nil0), .pure (.nil0), .pure (.nil0)]), (5, .box [.own 2009, .own 2010, .own 2011, .own 2012]), (2009, .vec 1 (v1.1.fb.map Aj)), (2010, .vec 1 (v1.1.fc.map Aj)), (2011, .vec 1 (v1.1.fd.map Aj)), (2012, .dvec 6 [.s, .s, .s, .s, .x 1 [.x 1 []], .x 1 [.x 1 []]] (v3.map Ak))]) (fun _ _ => rfl) (sm [(2005, 2001), (2006, 2002), (2007, 2003), (2008, 2004)] _ _ rfl rfl) (fun j2 n2 v2 h => ?_) (fun v3 s h hs => ?_)
 ·unfold Du at h
  refine Ad (Aa Ae rfl (AX rfl (Af (Ad ?_))))
  refine Aq rfl (fun c4 => ?_) (fun c4 => ?_)
  ·have h := Ao c4 h
   refine As (Ad (AJ (Ad (Aa Ae rfl ?_))))
   obtain ⟨v5, a5, b5, h⟩ := Ai h
   refine qi AI AE a5 (Ag b5) rfl (qK Co AE rfl (qz G8 rfl (qs AE rfl (Af (Aa Ae rfl (qf Bt rfl (ql EP rfl (qf Od rfl (ql DA rfl ?_)))))))))
   obtain ⟨v6, a6, b6, h⟩ := Ai h
   refine Ga (.p rfl) rfl rfl rfl (H7 Ak v2.1 _ _) Cw Dc a6 (AA b6) ?_
   refine qh Dz rfl ?_
   refine Ps (.p rfl) rfl EO rfl (Ag b6) rfl rfl rfl rfl ?_
   refine qf NW rfl (ql DA rfl ?_)
   obtain ⟨v7, a7, b7, h⟩ := Ai h
   refine Ga (.p rfl) rfl rfl rfl (H7 (CL eB) v6.fj _ _) Cn F7 a7 (AA b7) ?_
   refine Ps (.p rfl) rfl Il rfl (Ag b7) rfl rfl rfl rfl ?_
   refine qf Of rfl (ql DA rfl ?_)
   obtain ⟨v8, a8, b8, h⟩ := Ai h
   refine qI DV L1 a8 (Ag b8) rfl ?_
   refine A7 rfl rfl rfl rfl (Ag b8) rfl L1 rfl (AY rfl) (A0 eB v7 _ true) ?_
   refine AL (by kernel_rfl) (Al ((NA 30 34 (e2 := 1) (cols2 := []) (rows2 := (v7.set ((v5.fq).toNat) true).map eB) rfl rfl rfl (Ag b7) rfl rfl (A0 (CL eB) v6.fj _ (v7.set ((v5.fq).toNat) true))).trans (NA 2008 30 (e2 := 1) (cols2 := [.x 1 []]) (rows2 := (v6.fj.set ((v5.fr).toNat) (v7.set ((v5.fq).toNat) true)).map (CL eB)) rfl rfl rfl (Ag b6) rfl rfl (A0 Ak v2.1 _ ((Av.mk v6.fe v6.fh v6.fm v6.fo (v6.fj.set ((v5.fr).toNat) (v7.set ((v5.fq).toNat) true)) v6.fk))))) (Aa Ae rfl (AO rfl (qm rfl (Af ?_)))))
   exact Au _ h (sm [] _ _ rfl rfl)
  ·have h := An c4 h
   refine AP ?_
   exact Au _ h (sm [(2009, 2005), (2010, 2006), (2011, 2007), (2012, 2008)] _ _ rfl rfl)
 ·refine Al hs (Ad (Aa Ae rfl (qL C9 Ck rfl (qs Ck rfl (Af ?_)))))
  obtain rfl := sj h
  refine Al ((Lf 2012 _ _ _ rfl rfl).trans (sm [(1000, 2009), (1001, 2010), (1002, 2011)] [(4, oD (.ptr 4 0))] [(4, .box [.own 1000, .own 1001, .own 1002, sC (v3.map Ak)]), (1000, .vec 1 (v1.1.fb.map Aj)), (1001, .vec 1 (v1.1.fc.map Aj)), (1002, .vec 1 (v1.1.fd.map Aj))] rfl rfl)) (Ay ?_)
  exact ⟨⟨[_], ⟨.cellN _ _ _ _ _ _ _ rfl rfl C9 Ck rfl rfl (Kt rfl), tv⟩, rfl⟩, ⟨rfl, rfl, rfl, tv⟩⟩
theorem KD (N : Nat) (p0 : Int) (p1 : Int) (r : Int × Int) (h : Gy N p0 p1 = some r) : Az Tryz.prog 121 [pD (.val (.int .u32 p0)), pD (.val (.int .u32 p1))] [] (.tup [.one (.pure (.val (.int .u32 r.1))), .one (.pure (.val (.int .u32 r.2)))]) := by
 unfold Gy at h
 refine Ar (n := 17) (rs := [.tmp 4, .tmp 5]) Tryz.func121 rfl rfl rfl (AY rfl) (AY rfl) rfl fun w0 S0 => ?_
 refine Ad (Aa Ae rfl (qa rfl (qa rfl (Af (Ad (Aa Ae rfl (qm rfl (H2 Pd SQ rfl (qm rfl (H2 Pd SQ rfl (IB rfl (qa rfl (Af (Ad (Aa Ae rfl (qm rfl (HW rfl (by decide) (H2 RN OT rfl (qm rfl (H2 RN OT rfl (qa rfl (qa rfl (Af ?_)))))))))))))))))))))))
 obtain rfl := sj h
 refine Al (sm [] [(4, pD (.val (.int .u32 ((wI .u32 ((E4 .u64 ((wI .u64 ((wI .u64 p0) * (wI .u64 p1)))) 32))))))), (5, pD (.val (.int .u32 ((wI .u32 ((wI .u64 ((wI .u64 p0) * (wI .u64 p1)))))))))] [] rfl rfl) (Ay ?_)
 exact ⟨⟨[_, _], ⟨.tmp _ _ rfl, ⟨.tmp _ _ rfl, tv⟩⟩, rfl⟩, tv⟩
theorem KO (N : Nat) (p0 : Int) (p1 : Int) (r : Int × Int) (h : Gz N p0 p1 = some r) : Az Tryz.prog 122 [pD (.val (.int .u64 p0)), pD (.val (.int .u64 p1))] [] (.tup [.one (.pure (.val (.int .u64 r.1))), .one (.pure (.val (.int .u64 r.2)))]) := by
 unfold Gz at h
 refine Ar (n := 51) (rs := [.tmp 4, .tmp 5]) Tryz.func122 rfl rfl rfl (AY rfl) (AY rfl) rfl fun w0 S0 => ?_
 refine Ad (Aa Ae rfl (qa rfl (qa rfl (Af (Ad (Aa Ae rfl (qm rfl (Lu rfl (qa rfl (Af (Ad (Aa Ae rfl (qm rfl (HW rfl (by decide) (qa rfl (Af (Ad (Aa Ae rfl (qm rfl (Lu rfl (qa rfl (Af (Ad (Aa Ae rfl (qm rfl (HW rfl (by decide) (qa rfl (Af (Ad (Aa Ae rfl (qm rfl (qm rfl (IB rfl (qa rfl (Af (Ad (Aa Ae rfl (qm rfl (qm rfl ?_)))))))))))))))))))))))))))))))))))))))
 refine IB rfl (qm rfl (HW rfl (by decide) (AO rfl (qa rfl (Af (Ad (Aa Ae rfl (qm rfl (Lu rfl (qa rfl (Af (Ad (Aa Ae rfl (qm rfl (HW rfl (by decide) (qa rfl (Af (Ad (Aa Ae rfl (qm rfl (qm rfl (qm rfl (IB rfl (AO rfl (qa rfl (Af (Ad (Aa Ae rfl (qm rfl (qm rfl (IB rfl (qm rfl (AO rfl (qm rfl (HW rfl (by decide) (AO rfl (qa rfl (Af (Ad ?_)))))))))))))))))))))))))))))))))))))))
 refine Aa Ae rfl (qm rfl (qm rfl (IB rfl (qa rfl (Af ?_)))))
 obtain rfl := sj h
 refine Al (sm [] [(4, pD (.val (.int .u64 ((wI .u64 ((wI .u64 ((wI .u64 ((E4 .u64 p0 32) * (E4 .u64 p1 32))) + (E4 .u64 ((wI .u64 ((wI .u64 ((E4 .u64 p0 32) * (Hs .u64 p1 4294967295))) + (E4 .u64 ((wI .u64 ((Hs .u64 p0 4294967295) * (Hs .u64 p1 4294967295)))) 32)))) 32))) + (E4 .u64 ((wI .u64 ((Hs .u64 ((wI .u64 ((wI .u64 ((E4 .u64 p0 32) * (Hs .u64 p1 4294967295))) + (E4 .u64 ((wI .u64 ((Hs .u64 p0 4294967295) * (Hs .u64 p1 4294967295)))) 32)))) 4294967295) + (wI .u64 ((Hs .u64 p0 4294967295) * (E4 .u64 p1 32)))))) 32))))))), (5, pD (.val (.int .u64 ((wI .u64 (p0 * p1))))))] [] rfl rfl) (Ay ?_)
 exact ⟨⟨[_, _], ⟨.tmp _ _ rfl, ⟨.tmp _ _ rfl, tv⟩⟩, rfl⟩, tv⟩
theorem LL (N : Nat) (p0 : Int) (p1 : Int) (r : Int × Int) (h : Hf N p0 p1 = some r) : Az Tryz.prog 86 [pD (.val (.int .u64 p0)), pD (.val (.int .u64 p1))] [] (.tup [.one (.pure (.val (.int .u64 r.1))), .one (.pure (.val (.int .u64 r.2)))]) := by
 unfold Hf at h
 refine Ar (n := 30) (rs := [.tmp 4, .tmp 5]) Tryz.func86 rfl rfl rfl (AY rfl) (AY rfl) rfl fun w0 S0 => ?_
 refine Ad (Aa Ae rfl (qa rfl (qa rfl (Af (Ad ?_)))))
 refine Aq rfl (fun c1 => ?_) (fun c1 => ?_)
 ·have h := Ao c1 h
  refine Ad (Aa Ae rfl (qm rfl (H2 Pc OT rfl (qm rfl (H2 Pc OT rfl ?_)))))
  obtain ⟨v2, a2, h⟩ := bind_some h
  refine AG [] (KD N ((wI .u32 p0)) ((wI .u32 p1)) v2 a2) T4 rfl (qm rfl (qx rfl (qx rfl (qa rfl (qa rfl (Af (Ad (Aa Ae rfl (qm rfl (H2 Pd Nw rfl (qm rfl (H2 Pd Nw rfl (qa rfl (qa rfl (Af ?_)))))))))))))))
  obtain rfl := sj h
  refine Al (sm [] [(4, pD (.val (.int .u64 ((wI .u64 v2.1))))), (5, pD (.val (.int .u64 ((wI .u64 v2.2)))))] [] rfl rfl) (Ay ?_)
  exact ⟨⟨[_, _], ⟨.tmp _ _ rfl, ⟨.tmp _ _ rfl, tv⟩⟩, rfl⟩, tv⟩
 ·have h := An c1 h
  refine As (Ad (Aa Ae rfl (qm rfl (qm rfl ?_))))
  obtain ⟨v3, a3, h⟩ := bind_some h
  refine AG [] (KO N p0 p1 v3 a3) UC rfl (qm rfl (qx rfl (qx rfl (qa rfl (qa rfl (Af (Ad (Aa Ae rfl (qm rfl (qm rfl (qa rfl (qa rfl (Af ?_)))))))))))))
  obtain rfl := sj h
  refine Al (sm [] [(4, pD (.val (.int .u64 v3.1))), (5, pD (.val (.int .u64 v3.2)))] [] rfl rfl) (Ay ?_)
  exact ⟨⟨[_, _], ⟨.tmp _ _ rfl, ⟨.tmp _ _ rfl, tv⟩⟩, rfl⟩, tv⟩
theorem Iz (N : Nat) (p0 : List Int) (p1 : Int) (r : (List Int)) (h : EN N p0 p1 = some r) : Az Tryz.prog 61 [pD (.sl (p0.map Aj)), iD p1] [(1, r.map Aj)] (oD (.own 0)) := by
 unfold EN at h
 refine Ar (n := 48) (rs := [.tmp 4]) Tryz.func61 rfl rfl rfl (AY rfl) (AY rfl) rfl fun w0 S0 => ?_
 refine Ad (Aa Ae rfl (qa rfl (Af ?_)))
 refine AS h (fun v1 => mk [(0, pD (.sl (p0.map Aj))), (1, iD p1)] []) (fun j1 h => ?_) (fun v1 h => ?_)
 ·refine Ad (Aa Ae rfl (qm rfl (AX rfl (Af ?_))))
  refine Aq rfl (fun c2 => ?_) (fun c2 => ?_)
  ·have h := Ao c2 h
   refine Aa Ae rfl ?_
   cases h
  ·have h := An c2 h
   refine As ?_
   exact Au _ h (sm [] _ _ rfl rfl)
 ·refine Ad (Aa Ae rfl (qm rfl (AM AQ rfl (H2 Tz Nw rfl (qm rfl (H2 Tz Nw rfl ?_))))))
  obtain ⟨v3, a3, h⟩ := bind_some h
  refine AG [] (LL N ((wI .u64 ((p0.length : Int)))) ((wI .u64 p1)) v3 a3) V0 rfl (qm rfl (qx rfl (qx rfl (qa rfl (qa rfl (Af ?_))))))
  refine AS h (fun v4 => mk [(0, pD (.sl (p0.map Aj))), (6, pD (.val (.int .u64 v3.2)))] []) (fun j4 h => ?_) (fun v4 h => ?_)
  ·refine AS h (fun v5 => mk [(0, pD (.sl (p0.map Aj))), (6, pD (.val (.int .u64 v3.2))), (26, bD v5)] []) (fun j5 h => ?_) (fun v5 h => ?_)
   ·refine Aa Ae rfl (qm rfl (Ea rfl (qm rfl ?_)))
    refine AH (t := 23) rfl (fun c6 => ?_) (fun c6 => ?_)
    ·have h := Ao c6 h
     refine qn rfl (qn rfl (qp rfl (Af ?_)))
     exact Au _ h (sm [] _ _ rfl rfl)
    ·have h := An c6 h
     refine qm rfl (Ea rfl (qp rfl (Af ?_)))
     exact Au _ h (sm [] _ _ rfl rfl)
   ·refine Aq rfl (fun c7 => ?_) (fun c7 => ?_)
    ·have h := Ao c7 h
     refine Aa Ae rfl ?_
     cases h
    ·have h := An c7 h
     refine As ?_
     exact Au _ h (sm [] _ _ rfl rfl)
  ·refine Ad (Aa Ae rfl (qm rfl (H2 Pc US rfl ?_)))
   obtain ⟨c8, h⟩ := AN h
   refine JD (.p rfl) rfl rfl rfl AQ Fh PC (AY rfl) Np rfl rfl rfl c8.1 c8.2.1 c8.2.2 (NZ Aj _ ((0 : Int))) ?_
   refine qa rfl (Af (Ad (Aa Ae rfl (qm rfl (qm rfl ?_)))))
   refine Qb Aj (List.replicate ((wI .i64 v3.2)).toNat ((0 : Int))) p0 (.p rfl) rfl (Gb Aj _ _ (List.replicate ((wI .i64 v3.2)).toNat ((0 : Int)))) rfl rfl (Sm Aj _ _ (fun _ => rfl)) tv AQ Fh ?_
   refine qa rfl (Af (Ad ?_))
   refine AB (L := Dy N) h (fun v9 => mk [(7, oD (.own 2001)), (8, iD v9.2)] [(2001, .vec 1 (v9.1.map Aj))]) (fun v10 => mk [(7, oD (.own 2002))] [(2002, .vec 1 (v10.map Aj))]) (fun _ _ => rfl) (sm [(2001, 30)] _ _ rfl rfl) (fun j9 n9 v9 h => ?_) (fun v10 s h hs => ?_)
   ·unfold Dy at h
    refine Ad (Ad (Aa Ae rfl (qm rfl (qm rfl (D8 AQ rfl (AX rfl (Af ?_)))))))
    refine Aq rfl (fun c11 => ?_) (fun c11 => ?_)
    ·have h := Ao c11 h
     refine As (AJ (Aa Ae rfl (qm rfl (qm rfl (qm rfl ?_)))))
     obtain ⟨c12, h⟩ := AN h
     have w13 : ((v9.2).toNat) + ((v9.1.length - (v9.2).toNat)) ≤ v9.1.length := by have := c12.2.1; have := c12.2.2; omega
     refine F9 Aj v9.1 (.p rfl) rfl (Gb Aj _ _ v9.1) rfl AQ Fh (.some _ _ _ _ c12.1) (.none _) ⟨rfl, tv⟩ tv c12.2.1 (by rw [Nat.zero_add]; exact c12.2.2) (Nat.zero_add _) rfl ?_
     refine qm rfl (qm rfl ?_)
     obtain ⟨c14, h⟩ := AN h
     have w15 : 0 + ((v9.2).toNat) ≤ v9.1.length := by have := c14.2.1; have := c14.2.2; omega
     refine F9 Aj v9.1 (.p rfl) rfl (Gb Aj _ _ v9.1) rfl AQ Fh (.none _) (.some _ _ _ _ c14.1) tv ⟨rfl, tv⟩ c14.2.1 (by rw [Nat.zero_add]; exact c14.2.2) (Nat.zero_add _) rfl ?_
     refine Qb Aj v9.1 (((v9.1.drop 0).take ((v9.2).toNat))) (.p rfl) rfl (HI Aj _ _ ((v9.2).toNat) ((v9.1.length - (v9.2).toNat)) v9.1 w13) rfl rfl (Nh Aj _ _ 0 ((v9.2).toNat) v9.1 w15) ⟨rfl, tv⟩ AQ Fh ?_
     refine AO rfl (qa rfl (AL (by kernel_rfl) ?_))
     exact Au _ h (sm [] _ _ rfl rfl)
    ·have h := An c11 h
     refine AP ?_
     exact Au _ h (sm [(2002, 2001)] _ _ rfl rfl)
   ·refine Al hs (Ad (Aa Ae rfl (qm rfl (qa rfl (Af ?_)))))
    obtain rfl := sj h
    refine Al (sm [(1000, 2002)] [(4, oD (.own 1000))] [(1000, .vec 1 (v10.map Aj))] rfl rfl) (Ay ?_)
    exact ⟨⟨[_], ⟨.tmp _ _ rfl, tv⟩, rfl⟩, ⟨rfl, tv⟩⟩
theorem I9 (N : Nat) (p0 : Av) (r : Bool) (h : F5 N p0 = some r) : Az Tryz.prog 62 [.e (.agg [iC p0.fe, iC p0.fh, iC p0.fm, .pure (.val (.bool p0.fo)), sC (p0.fj.map (CL eB)), sC (p0.fk.map (CL eB))])] [] (bD r) := by
 unfold F5 at h
 refine Ar (n := 11) (rs := [.tmp 2]) Tryz.func62 rfl rfl rfl (AY rfl) (AY rfl) rfl fun w0 S0 => ?_
 refine Ad (Aa Ae rfl (qb rfl (qa rfl (Af ?_))))
 refine AS h (fun v1 => mk [(2, bD v1)] []) (fun j1 h => ?_) (fun v1 h => ?_)
 ·refine Aa Ae rfl (qf Fr rfl (ql DA rfl (CR rfl (qm rfl ?_))))
  refine AH (t := 6) rfl (fun c2 => ?_) (fun c2 => ?_)
  ·have h := Ao c2 h
   refine qn rfl (qn rfl (qn rfl (qp rfl (qa rfl (Af ?_)))))
   exact Au _ h (sm [] _ _ rfl rfl)
  ·have h := An c2 h
   refine qf Fr rfl (ql DA rfl (CR rfl (qp rfl (qa rfl (Af ?_)))))
   exact Au _ h (sm [] _ _ rfl rfl)
 ·obtain rfl := sj h
  refine Al (sm [] [(2, bD v1)] [] rfl rfl) (Ay ?_)
  exact ⟨⟨[_], ⟨.tmp _ _ rfl, tv⟩, rfl⟩, tv⟩
theorem OZ (N : Nat) (p0 : Ah) (r : AC × Int) (h : IV N p0 = some r) : Az Tryz.prog 35 [.e (.agg [sC (p0.fb.map Aj), sC (p0.fc.map Aj), sC (p0.fd.map Aj), sC (p0.fa.map Ak)])] [(1, r.1.fg.map Aj), (1, r.1.ff.map Aj), (1, r.1.fi.map DO)] (.tup [.agg [.own 0, .own 1, .own 2], .one (iC r.2)]) := by
 unfold IV at h
 refine Ar (n := 50) (rs := [.cell 2 64, .tmp 3]) Tryz.func35 rfl rfl rfl (AY rfl) (AY rfl) rfl fun w0 S0 => ?_
 refine Ad (Aa Ae rfl (qb rfl (qz Hd rfl (qa rfl (Af (Ad (Ad (Aa Ae rfl (qL C9 Ck rfl ?_)))))))))
 obtain ⟨v1, a1, h⟩ := bind_some h
 refine AG [] (Dv N p0 v1 a1) Qs rfl (qa rfl (Af (Ad (Aa Ae rfl (qm rfl (Cl rfl (Af ?_)))))))
 refine Aq rfl (fun c2 => ?_) (fun c2 => ?_)
 ·have h := Ao c2 h
  refine Ad (Aa Ae rfl (Cu Hd MZ rfl (qm rfl (qs CF rfl (qa rfl (Af ?_))))))
  obtain rfl := sj h
  refine Al ((AW 2 0 2001 1 _ rfl rfl rfl rfl).trans ((AW 2 1 2002 1 _ rfl rfl rfl rfl).trans ((AW 2 2 2003 1 _ rfl rfl rfl rfl).trans (sm [(1000, 2001), (1001, 2002), (1002, 2003)] [(2, oD (.ptr 2 0)), (3, iD v1)] [(2, .box [.own 1000, .own 1001, .own 1002]), (1000, .vec 1 ((([] : List Int)).map Aj)), (1001, .vec 1 ((([] : List Int)).map Aj)), (1002, .vec 1 ((([] : List Int)).map DO))] rfl rfl)))) (Ay ?_)
  exact ⟨⟨[_, _], ⟨.cellN _ _ _ _ _ _ _ rfl rfl D6 CF rfl rfl (Kt rfl), ⟨.tmp _ _ rfl, tv⟩⟩, rfl⟩, ⟨rfl, rfl, rfl, tv⟩⟩
 ·have h := An c2 h
  refine As (Ad (Aa Ae rfl (qf FT rfl (ql Ch rfl ?_))))
  obtain ⟨v3, a3, h⟩ := bind_some h
  refine AG [2004] (Ca N p0.fc v3 a3) Pg rfl (Fx AQ Fh Np rfl (qf FT rfl (ql Ch rfl (AM AQ rfl ?_))))
  obtain ⟨v4, a4, h⟩ := bind_some h
  refine Ew [2005] [17] (Iz N (([(-1)] : List Int)) ((p0.fc.length : Int)) v4 a4) Vu (HT (fun _ => rfl) De) rfl (qf Bt rfl (ql EP rfl (AM Cw rfl ?_)))
  obtain ⟨c5, h⟩ := AN h
  refine JD (.p rfl) rfl rfl rfl G9 J0 SZ (AY rfl) TE rfl rfl rfl c5.1 c5.2.1 c5.2.2 (NZ DO _ ((0 : Int))) ?_
  refine Cu Hd MZ rfl (qz Hd rfl (qs CF rfl (AL (by kernel_rfl) (Ad (Ad (Aa Ae rfl (qf Bt rfl (ql EP rfl (AM Cw rfl (qm rfl (Af ?_)))))))))))
  refine AB (L := Gi N p0) h (fun v6 => mk [(1, oD (.ptr 1 0)), (2, oD (.ptr 2 0)), (5, oD (.ptr 5 0)), (28, pD (.sl (p0.fa.map Ak))), (29, iD ((p0.fa.length : Int))), (30, iD v6.2)] [(1, .box [sC (p0.fb.map Aj), sC (p0.fc.map Aj), sC (p0.fd.map Aj), sC (p0.fa.map Ak)]), (2, .box [.pure (.nil0), .pure (.nil0), .pure (.nil0)]), (5, .box [.own 2006, .own 2007, .own 2008]), (2006, .vec 1 (v3.map Aj)), (2007, .vec 1 (v4.map Aj)), (2008, .vec 1 (v6.1.map DO))]) (fun v7 => mk [(2, oD (.ptr 2 0)), (5, oD (.ptr 5 0))] [(2, .box [.pure (.nil0), .pure (.nil0), .pure (.nil0)]), (5, .box [.own 2009, .own 2010, .own 2011]), (2009, .vec 1 (v3.map Aj)), (2010, .vec 1 (v4.map Aj)), (2011, .vec 1 (v7.map DO))]) (fun _ _ => rfl) (sm [(2006, 2004), (2007, 2005), (2008, 25)] _ _ rfl rfl) (fun j6 n6 v6 h => ?_) (fun v7 s h hs => ?_)
  ·unfold Gi at h
   refine Ad (Aa Ae rfl (AX rfl (Af (Ad ?_))))
   refine Aq rfl (fun c8 => ?_) (fun c8 => ?_)
   ·have h := Ao c8 h
    refine As ?_
    refine AS h (fun v9 => mk [(1, oD (.ptr 1 0)), (2, oD (.ptr 2 0)), (5, oD (.ptr 5 0)), (28, pD (.sl (p0.fa.map Ak))), (29, iD ((p0.fa.length : Int))), (30, iD v6.2)] [(1, .box [sC (p0.fb.map Aj), sC (p0.fc.map Aj), sC (p0.fd.map Aj), sC (p0.fa.map Ak)]), (2, .box [.pure (.nil0), .pure (.nil0), .pure (.nil0)]), (5, .box [.own 2012, .own 2013, .own 2014]), (2012, .vec 1 (v3.map Aj)), (2013, .vec 1 (v4.map Aj)), (2014, .vec 1 (v9.map DO))]) (fun j9 h => ?_) (fun v9 h => ?_)
    ·refine AJ (Ad (Aa Ae rfl (qm rfl ?_)))
     obtain ⟨v10, a10, b10, h⟩ := Ai h
     refine qi Cw Dc a10 (Ag b10) rfl (qK Hw Dc rfl (qz IS rfl (qa rfl (qs Dc rfl (Af (Ad (Aa Ae rfl (qL Hw Dc rfl ?_))))))))
     obtain ⟨v11, a11, h⟩ := bind_some h
     refine AG [] (I9 N v10 v11 a11) TM rfl (Af ?_)
     refine Aq rfl (fun c12 => ?_) (fun c12 => ?_)
     ·have h := Ao c12 h
      refine Aa Ae rfl (qf FR rfl (ql Ln rfl (qm rfl (qf FT rfl (ql Ch rfl (qf ES rfl (ql DA rfl ?_)))))))
      obtain ⟨v13, a13, b13, h⟩ := Ai h
      refine qi AQ Fh a13 (Ag b13) rfl (qk DA rfl ?_)
      obtain ⟨c14, h⟩ := AN h
      refine JN rfl c14 ?_
      obtain ⟨v15, a15, b15, h⟩ := Ai h
      refine qI G9 J0 a15 (Ag b15) rfl ?_
      refine A7 rfl rfl rfl rfl (Ag b15) rfl J0 rfl (AY rfl) (A0 DO v6.1 _ ((EA .u8 1 v13))) ?_
      refine AL (by kernel_rfl) ?_
      exact Au _ h (sm [(2012, 2006), (2013, 2007), (2014, 2008)] _ _ rfl rfl)
     ·have h := An c12 h
      refine As ?_
      exact Au _ h (sm [(2012, 2006), (2013, 2007), (2014, 2008)] _ _ rfl rfl)
    ·refine Aa Ae rfl (AO rfl (qm rfl (Af ?_)))
     exact Au _ h (sm [(2006, 2012), (2007, 2013), (2008, 2014)] _ _ rfl rfl)
   ·have h := An c8 h
    refine AP ?_
    exact Au _ h (sm [(2009, 2006), (2010, 2007), (2011, 2008)] _ _ rfl rfl)
  ·refine Al hs (Ad (Aa Ae rfl (qL D6 CF rfl (qs CF rfl (qa rfl (Af ?_))))))
   obtain rfl := sj h
   refine Al (sm [(1000, 2009), (1001, 2010), (1002, 2011)] [(2, oD (.ptr 2 0)), (3, iD 0)] [(2, .box [.own 1000, .own 1001, .own 1002]), (1000, .vec 1 (v3.map Aj)), (1001, .vec 1 (v4.map Aj)), (1002, .vec 1 (v7.map DO))] rfl rfl) (Ay ?_)
   exact ⟨⟨[_, _], ⟨.cellN _ _ _ _ _ _ _ rfl rfl D6 CF rfl rfl (Kt rfl), ⟨.tmp _ _ rfl, tv⟩⟩, rfl⟩, ⟨rfl, rfl, rfl, tv⟩⟩
theorem Im (N : Nat) (p0 : AC) (p1 : Int) (r : Int) (h : Fz N p0 p1 = some r) : Az Tryz.prog 130 [.e (.agg [sC (p0.fg.map Aj), sC (p0.ff.map Aj), sC (p0.fi.map DO)]), iD p1] [] (pD (.val (.int .u8 r))) := by
 unfold Fz at h
 refine Ar (n := 27) (rs := [.tmp 4]) Tryz.func130 rfl rfl rfl (AY rfl) (AY rfl) rfl fun w0 S0 => ?_
 refine Ad (Aa Ae rfl (qb rfl (qa rfl (Af (Ad (Aa Ae rfl (qf E3 rfl (ql Ch rfl (qm rfl ?_)))))))))
 obtain ⟨v1, a1, b1, h⟩ := Ai h
 refine qi AQ Fh a1 (Ag b1) rfl (qk DA rfl ?_)
 obtain ⟨c2, h⟩ := AN h
 refine JN rfl c2 (qa rfl (Af ?_))
 refine AS h (fun v3 => mk [(5, pD (.val (.int .u8 v3)))] []) (fun j3 h => ?_) (fun v3 h => ?_)
 ·refine Ad (Aa Ae rfl (qf Ex rfl (ql Ch rfl (qm rfl ?_))))
  obtain ⟨v4, a4, b4, h⟩ := Ai h
  refine qi AQ Fh a4 (Ag b4) rfl (qk DA rfl (D4 rfl (Af ?_)))
  refine Aq rfl (fun c5 => ?_) (fun c5 => ?_)
  ·have h := Ao c5 h
   refine Aa Ae rfl (qm rfl (qf Ex rfl (ql Ch rfl (qm rfl ?_))))
   obtain ⟨v6, a6, b6, h⟩ := Ai h
   refine qi AQ Fh a6 (Ag b6) rfl (qk DA rfl ?_)
   obtain ⟨c7, h⟩ := AN h
   refine JN rfl c7 (TF rfl (qa rfl (Af ?_)))
   exact Au _ h (sm [] _ _ rfl rfl)
  ·have h := An c5 h
   refine As ?_
   exact Au _ h (sm [] _ _ rfl rfl)
 ·refine Ad (Aa Ae rfl (qm rfl (qa rfl (Af ?_))))
  obtain rfl := sj h
  refine Al (sm [] [(4, pD (.val (.int .u8 v3)))] [] rfl rfl) (Ay ?_)
  exact ⟨⟨[_], ⟨.tmp _ _ rfl, tv⟩, rfl⟩, tv⟩
theorem Ic (N : Nat) (p0 : Ah) (p1 : AC) (r : Int) (h : FX N p0 p1 = some r) : Az Tryz.prog 91 [.e (.agg [sC (p0.fb.map Aj), sC (p0.fc.map Aj), sC (p0.fd.map Aj), sC (p0.fa.map Ak)]), .e (.agg [sC (p1.fg.map Aj), sC (p1.ff.map Aj), sC (p1.fi.map DO)])] [] (iD r) := by
 unfold FX at h
 refine Ar (n := 135) (rs := [.tmp 4]) Tryz.func91 rfl rfl rfl (AY rfl) (AY rfl) rfl fun w0 S0 => ?_
 refine Ad (Aa Ae rfl (qb rfl (qb rfl (qa rfl (Af (Ad (Ad (Aa Ae rfl (qL C9 Ck rfl ?_)))))))))
 obtain ⟨v1, a1, h⟩ := bind_some h
 refine AG [] (Dv N p0 v1 a1) Qs rfl (qa rfl (Af (Ad (Aa Ae rfl (qm rfl (Cl rfl (Af ?_)))))))
 refine Aq rfl (fun c2 => ?_) (fun c2 => ?_)
 ·have h := Ao c2 h
  refine Ad (Aa Ae rfl (qm rfl (qa rfl (Af ?_))))
  obtain rfl := sj h
  refine Al (sm [] [(4, iD v1)] [] rfl rfl) (Ay ?_)
  exact ⟨⟨[_], ⟨.tmp _ _ rfl, tv⟩, rfl⟩, tv⟩
 ·have h := An c2 h
  refine As (Ad ?_)
  refine AS h (fun v3 => mk [(2, oD (.ptr 2 0)), (3, oD (.ptr 3 0)), (41, bD v3)] [(2, .box [sC (p0.fb.map Aj), sC (p0.fc.map Aj), sC (p0.fd.map Aj), sC (p0.fa.map Ak)]), (3, .box [sC (p1.fg.map Aj), sC (p1.ff.map Aj), sC (p1.fi.map DO)])]) (fun j3 h => ?_) (fun v3 h => ?_)
  ·refine Aa Ae rfl (qf E3 rfl (ql Ch rfl (AM AQ rfl (qf CT rfl (ql Ch rfl (AM AQ rfl (Cl rfl (qm rfl ?_))))))))
   refine AH (t := 24) rfl (fun c4 => ?_) (fun c4 => ?_)
   ·have h := Ao c4 h
    refine qn rfl (qn rfl (qn rfl (qn rfl (qn rfl (qn rfl (qn rfl (qp rfl (qm rfl (qn rfl (qn rfl (qn rfl (qn rfl (qn rfl (qn rfl (qn rfl (qp rfl (Af ?_)))))))))))))))))
    exact Au _ h (sm [] _ _ rfl rfl)
   ·have h := An c4 h
    refine qf Ex rfl (ql Ch rfl (AM AQ rfl (qf CT rfl (ql Ch rfl (AM AQ rfl (Cl rfl (qp rfl (qm rfl ?_))))))))
    refine AH (t := 33) rfl (fun c5 => ?_) (fun c5 => ?_)
    ·have h := Ao c5 h
     refine qn rfl (qn rfl (qn rfl (qn rfl (qn rfl (qn rfl (qn rfl (qp rfl (Af ?_))))))))
     exact Au _ h (sm [] _ _ rfl rfl)
    ·have h := An c5 h
     refine qf FR rfl (ql Ln rfl (AM G9 rfl (qf Bt rfl (ql EP rfl (AM Cw rfl (Cl rfl (qp rfl (Af ?_))))))))
     exact Au _ h (sm [] _ _ rfl rfl)
  ·refine Aq rfl (fun c6 => ?_) (fun c6 => ?_)
   ·have h := Ao c6 h
    refine Ad (Aa Ae rfl (qa rfl (Af ?_)))
    obtain rfl := sj h
    refine Al (sm [] [(4, iD 6)] [] rfl rfl) (Ay ?_)
    exact ⟨⟨[_], ⟨.tmp _ _ rfl, tv⟩, rfl⟩, tv⟩
   ·have h := An c6 h
    refine As (Ad (Ad (Aa Ae rfl (qf CT rfl (ql Ch rfl (AM AQ rfl (qm rfl (Af ?_))))))))
    refine AB (L := Gj N p0 p1) h (fun v7 => mk [(2, oD (.ptr 2 0)), (3, oD (.ptr 3 0)), (43, pD (.sl (p0.fb.map Aj))), (44, iD ((p0.fb.length : Int))), (45, iD v7)] [(2, .box [sC (p0.fb.map Aj), sC (p0.fc.map Aj), sC (p0.fd.map Aj), sC (p0.fa.map Ak)]), (3, .box [sC (p1.fg.map Aj), sC (p1.ff.map Aj), sC (p1.fi.map DO)])]) (fun v8 => mk [(2, oD (.ptr 2 0)), (3, oD (.ptr 3 0))] [(2, .box [sC (p0.fb.map Aj), sC (p0.fc.map Aj), sC (p0.fd.map Aj), sC (p0.fa.map Ak)]), (3, .box [sC (p1.fg.map Aj), sC (p1.ff.map Aj), sC (p1.fi.map DO)])]) (fun _ _ => rfl) (sm [] _ _ rfl rfl) (fun j7 n7 v7 h => ?_) (fun v8 s h hs => ?_)
    ·unfold Gj at h
     refine Ad (Aa Ae rfl (AX rfl (Af (Ad ?_))))
     refine Aq rfl (fun c9 => ?_) (fun c9 => ?_)
     ·have h := Ao c9 h
      refine As (Ad (AJ (Ad (Aa Ae rfl (qm rfl ?_)))))
      obtain ⟨v10, a10, b10, h⟩ := Ai h
      refine qi AQ Fh a10 (Ag b10) rfl (qk DA rfl (qa rfl (qa rfl (Af (Ad ?_)))))
      refine AS h (fun v11 => mk [(2, oD (.ptr 2 0)), (3, oD (.ptr 3 0)), (6, iD v7), (43, pD (.sl (p0.fb.map Aj))), (44, iD ((p0.fb.length : Int))), (45, iD v7), (81, bD v11)] [(2, .box [sC (p0.fb.map Aj), sC (p0.fc.map Aj), sC (p0.fd.map Aj), sC (p0.fa.map Ak)]), (3, .box [sC (p1.fg.map Aj), sC (p1.ff.map Aj), sC (p1.fi.map DO)])]) (fun j11 h => ?_) (fun v11 h => ?_)
      ·refine Aa Ae rfl (qf E3 rfl (ql Ch rfl (qm rfl ?_)))
       obtain ⟨v12, a12, b12, h⟩ := Ai h
       refine qi AQ Fh a12 (Ag b12) rfl (qk DA rfl (AX rfl (qm rfl ?_)))
       refine AH (t := 56) rfl (fun c13 => ?_) (fun c13 => ?_)
       ·have h := Ao c13 h
        refine qn rfl (qn rfl (qn rfl (qn rfl (qn rfl (qn rfl (qn rfl (qp rfl (qm rfl (qn rfl (qn rfl (qn rfl (qn rfl (qn rfl (qn rfl (qp rfl (qm rfl (qn rfl (qn rfl (qn rfl (qn rfl (qn rfl (qn rfl (qn rfl (qp rfl (Af ?_)))))))))))))))))))))))))
        exact Au _ h (sm [] _ _ rfl rfl)
       ·have h := An c13 h
        refine qf E3 rfl (ql Ch rfl (qm rfl ?_))
        obtain ⟨v14, a14, b14, h⟩ := Ai h
        refine qi AQ Fh a14 (Ag b14) rfl (qk DA rfl (qm rfl (D4 rfl (qp rfl (qm rfl ?_)))))
        refine AH (t := 65) rfl (fun c15 => ?_) (fun c15 => ?_)
        ·have h := Ao c15 h
         refine qn rfl (qn rfl (qn rfl (qn rfl (qn rfl (qn rfl (qp rfl (qm rfl (qn rfl (qn rfl (qn rfl (qn rfl (qn rfl (qn rfl (qn rfl (qp rfl (Af ?_))))))))))))))))
         exact Au _ h (sm [] _ _ rfl rfl)
        ·have h := An c15 h
         refine qf Ex rfl (ql Ch rfl (qm rfl ?_))
         obtain ⟨v16, a16, b16, h⟩ := Ai h
         refine qi AQ Fh a16 (Ag b16) rfl (qk DA rfl (AX rfl (qp rfl (qm rfl ?_))))
         refine AH (t := 73) rfl (fun c17 => ?_) (fun c17 => ?_)
         ·have h := Ao c17 h
          refine qn rfl (qn rfl (qn rfl (qn rfl (qn rfl (qn rfl (qn rfl (qp rfl (Af ?_))))))))
          exact Au _ h (sm [] _ _ rfl rfl)
         ·have h := An c17 h
          refine qf Ex rfl (ql Ch rfl (qm rfl ?_))
          obtain ⟨v18, a18, b18, h⟩ := Ai h
          refine qi AQ Fh a18 (Ag b18) rfl (qk DA rfl (qm rfl (D4 rfl (qp rfl (Af ?_)))))
          exact Au _ h (sm [] _ _ rfl rfl)
      ·refine Aq rfl (fun c19 => ?_) (fun c19 => ?_)
       ·have h := Ao c19 h
        refine Ad (Aa Ae rfl (qa rfl (Af ?_)))
        obtain rfl := sj h
        refine Al (sm [] [(4, iD 7)] [] rfl rfl) (Ay ?_)
        exact ⟨⟨[_], ⟨.tmp _ _ rfl, tv⟩, rfl⟩, tv⟩
       ·have h := An c19 h
        refine As (Ad (Aa Ae rfl (qf E3 rfl (ql Ch rfl (qm rfl ?_)))))
        obtain ⟨v20, a20, b20, h⟩ := Ai h
        refine qi AQ Fh a20 (Ag b20) rfl (qk DA rfl (qf Ex rfl (ql Ch rfl (qm rfl ?_))))
        obtain ⟨v21, a21, b21, h⟩ := Ai h
        refine qi AQ Fh a21 (Ag b21) rfl (qk DA rfl (CR rfl (AL (by kernel_rfl) ?_)))
        refine Aq rfl (fun c22 => ?_) (fun c22 => ?_)
        ·have h := Ao c22 h
         refine Ad (Aa Ae rfl (qa rfl (Af ?_)))
         obtain rfl := sj h
         refine Al (sm [] [(4, iD 1)] [] rfl rfl) (Ay ?_)
         exact ⟨⟨[_], ⟨.tmp _ _ rfl, tv⟩, rfl⟩, tv⟩
        ·have h := An c22 h
         refine As (Aa Ae rfl (AO rfl (qm rfl (Af ?_))))
         exact Au _ h (sm [] _ _ rfl rfl)
     ·have h := An c9 h
      refine AP ?_
      exact Au _ h (sm [] _ _ rfl rfl)
    ·refine Al hs (Ad (Ad (Aa Ae rfl (qf Bt rfl (ql EP rfl (AM Cw rfl (qm rfl (Af ?_))))))))
     refine AB (L := FU N p0 p1) h (fun v23 => mk [(2, oD (.ptr 2 0)), (3, oD (.ptr 3 0)), (95, pD (.sl (p0.fa.map Ak))), (96, iD ((p0.fa.length : Int))), (97, iD v23)] [(2, .box [sC (p0.fb.map Aj), sC (p0.fc.map Aj), sC (p0.fd.map Aj), sC (p0.fa.map Ak)]), (3, .box [sC (p1.fg.map Aj), sC (p1.ff.map Aj), sC (p1.fi.map DO)])]) (fun v24 => mk [] []) (fun _ _ => rfl) (sm [] _ _ rfl rfl) (fun j23 n23 v23 h => ?_) (fun v24 s h hs => ?_)
     ·unfold FU at h
      refine Ad (Aa Ae rfl (AX rfl (Af (Ad ?_))))
      refine Aq rfl (fun c25 => ?_) (fun c25 => ?_)
      ·have h := Ao c25 h
       refine As (Ad (AJ (Ad (Aa Ae rfl (qm rfl ?_)))))
       obtain ⟨v26, a26, b26, h⟩ := Ai h
       refine qi Cw Dc a26 (Ag b26) rfl (qK Hw Dc rfl (qz IS rfl (qa rfl (qs Dc rfl (Af (Ad (Aa Ae rfl (qa rfl (qa rfl (Af ?_))))))))))
       refine AS h (fun v27 => mk [(2, oD (.ptr 2 0)), (3, oD (.ptr 3 0)), (8, iD v23), (10, pD (.val (.int .u8 v27.1))), (11, pD (.val (.int .u8 v27.2))), (95, pD (.sl (p0.fa.map Ak))), (96, iD ((p0.fa.length : Int))), (97, iD v23)] [(2, .box [sC (p0.fb.map Aj), sC (p0.fc.map Aj), sC (p0.fd.map Aj), sC (p0.fa.map Ak)]), (3, .box [sC (p1.fg.map Aj), sC (p1.ff.map Aj), sC (p1.fi.map DO)])]) (fun j27 h => ?_) (fun v27 h => ?_)
       ·refine Ad (Aa Ae rfl (qL Hw Dc rfl ?_))
        obtain ⟨v28, a28, h⟩ := bind_some h
        refine AG [] (I9 N v26 v28 a28) TM rfl (Af ?_)
        refine Aq rfl (fun c29 => ?_) (fun c29 => ?_)
        ·have h := Ao c29 h
         refine Aa Ae rfl (qL D6 CF rfl (qf ES rfl (ql DA rfl ?_)))
         obtain ⟨v30, a30, h⟩ := bind_some h
         refine AG [] (Im N p1 v26.fh v30 a30) Q2 rfl (qf CT rfl (ql Ch rfl (qf ES rfl (ql DA rfl ?_))))
         obtain ⟨v31, a31, b31, h⟩ := Ai h
         refine qi AQ Fh a31 (Ag b31) rfl (qk DA rfl ?_)
         obtain ⟨c32, h⟩ := AN h
         refine JN rfl c32 (Cv rfl (qa rfl (qa rfl (AL (by kernel_rfl) ?_))))
         exact Au _ h (sm [] _ _ rfl rfl)
        ·have h := An c29 h
         refine As ?_
         exact Au _ h (sm [] _ _ rfl rfl)
       ·refine AS h (fun v33 => mk [(2, oD (.ptr 2 0)), (3, oD (.ptr 3 0)), (95, pD (.sl (p0.fa.map Ak))), (96, iD ((p0.fa.length : Int))), (97, iD v23), (133, bD v33)] [(2, .box [sC (p0.fb.map Aj), sC (p0.fc.map Aj), sC (p0.fd.map Aj), sC (p0.fa.map Ak)]), (3, .box [sC (p1.fg.map Aj), sC (p1.ff.map Aj), sC (p1.fi.map DO)])]) (fun j33 h => ?_) (fun v33 h => ?_)
        ·refine Aa Ae rfl (qm rfl (qf FR rfl (ql Ln rfl (qm rfl ?_))))
         obtain ⟨v34, a34, b34, h⟩ := Ai h
         refine qi G9 J0 a34 (Ag b34) rfl (qk Pu rfl (Mv rfl (Cl rfl (qm rfl ?_))))
         refine AH (t := 124) rfl (fun c35 => ?_) (fun c35 => ?_)
         ·have h := Ao c35 h
          refine qn rfl (qn rfl (qn rfl (qn rfl (qn rfl (qn rfl (qn rfl (qn rfl (qp rfl (Af ?_)))))))))
          exact Au _ h (sm [] _ _ rfl rfl)
         ·have h := An c35 h
          refine qf FR rfl (ql Ln rfl (qm rfl ?_))
          obtain ⟨v36, a36, b36, h⟩ := Ai h
          refine qi G9 J0 a36 (Ag b36) rfl (qk Pu rfl (qm rfl (Mv rfl (Cl rfl (qp rfl (Af ?_))))))
          exact Au _ h (sm [] _ _ rfl rfl)
        ·refine Aq rfl (fun c37 => ?_) (fun c37 => ?_)
         ·have h := Ao c37 h
          refine Ad (Aa Ae rfl (qa rfl (Af ?_)))
          obtain rfl := sj h
          refine Al (sm [] [(4, iD 1)] [] rfl rfl) (Ay ?_)
          exact ⟨⟨[_], ⟨.tmp _ _ rfl, tv⟩, rfl⟩, tv⟩
         ·have h := An c37 h
          refine As (Aa Ae rfl (AO rfl (qm rfl (Af ?_))))
          exact Au _ h (sm [] _ _ rfl rfl)
      ·have h := An c25 h
       refine AP ?_
       exact Au _ h (sm [] _ _ rfl rfl)
     ·refine Al hs (Ad (Aa Ae rfl (qa rfl (Af ?_))))
      obtain rfl := sj h
      refine Al (sm [] [(4, iD 0)] [] rfl rfl) (Ay ?_)
      exact ⟨⟨[_], ⟨.tmp _ _ rfl, tv⟩, rfl⟩, tv⟩
theorem EV (N : Nat) (p0 : List Int) (r : (List Int)) (h : CY N p0 = some r) : Az Tryz.prog 146 [pD (.sl (p0.map DO))] [(1, r.map DO)] (oD (.own 0)) := by
 unfold CY at h
 refine Ar (n := 8) (rs := [.tmp 2]) Tryz.func146 rfl rfl rfl (AY rfl) (AY rfl) rfl fun w0 S0 => ?_
 refine Ad (Aa Ae rfl (qa rfl (Af (Ad (Ad (Aa Ae rfl (qm rfl ?_)))))))
 refine KK (.p rfl) rfl G9 ?_
 refine Af ?_
 refine K0 rfl (fun c2 => ?_) ?_
 ·have c2 := List.map_eq_nil_iff.1 c2
  rw [c2] at h
  have h : (some (([] : List Int))) = some r := h
  refine Ad (Aa Ae rfl (qa rfl (Af ?_)))
  obtain rfl := sj h
  refine Al ((Bx 2 2001 1 rfl rfl rfl).trans (sm [(1000, 2001)] [(2, oD (.own 1000))] [(1000, .vec 1 ((([] : List Int)).map DO))] rfl rfl)) (Ay ?_)
  exact ⟨⟨[_], ⟨.tmp _ _ rfl, tv⟩, rfl⟩, ⟨rfl, tv⟩⟩
 ·refine As (Ad (Aa Ae rfl (Fx G9 J0 TE rfl (qm rfl ?_))))
  obtain ⟨c1, h⟩ := AN h
  refine HN (f := DO) G9 G9 J0 SZ TE (fun _ => rfl) c1 rfl (qa rfl (Af ?_))
  obtain rfl := sj h
  refine Al (sm [(1000, 7)] [(2, oD (.own 1000))] [(1000, .vec 1 (((([] : List Int)) ++ p0).map DO))] rfl rfl) (Ay ?_)
  exact ⟨⟨[_], ⟨.tmp _ _ rfl, tv⟩, rfl⟩, ⟨rfl, tv⟩⟩
theorem Oe (N : Nat) (p0 : Ah) (p1 : AC) (r : (List AC) × Int) (h : Ii N p0 p1 = some r) : Az Tryz.prog 123 [.e (.agg [sC (p0.fb.map Aj), sC (p0.fc.map Aj), sC (p0.fd.map Aj), sC (p0.fa.map Ak)]), .e (.agg [sC (p1.fg.map Aj), sC (p1.ff.map Aj), sC (p1.fi.map DO)])] [(3, r.1.map Hi)] (.tup [.one (.own 0), .one (iC r.2)]) := by
 unfold Ii at h
 refine Ar (n := 75) (rs := [.tmp 4, .tmp 5]) Tryz.func123 rfl rfl rfl (AY rfl) (AY rfl) rfl fun w0 S0 => ?_
 refine Ad (Aa Ae rfl (qb rfl (qb rfl (qa rfl (qa rfl (Af (Ad (Ad (Aa Ae rfl (qL C9 Ck rfl (qL D6 CF rfl ?_)))))))))))
 obtain ⟨v1, a1, h⟩ := bind_some h
 refine AG [] (Ic N p0 p1 v1 a1) Sf rfl (qa rfl (Af (Ad (Aa Ae rfl (qm rfl (Cl rfl (Af ?_)))))))
 refine Aq rfl (fun c2 => ?_) (fun c2 => ?_)
 ·have h := Ao c2 h
  refine Ad (Aa Ae rfl (qm rfl (qa rfl (qa rfl (Af ?_)))))
  obtain rfl := sj h
  refine Al ((Bx 4 2001 3 rfl rfl rfl).trans (sm [(1000, 2001)] [(4, oD (.own 1000)), (5, iD v1)] [(1000, .vec 3 ((([] : List AC)).map Hi))] rfl rfl)) (Ay ?_)
  exact ⟨⟨[_, _], ⟨.tmp _ _ rfl, ⟨.tmp _ _ rfl, tv⟩⟩, rfl⟩, ⟨rfl, tv⟩⟩
 ·have h := An c2 h
  refine As (Ad (Aa Ae rfl (qa rfl (Af (Ad (Ad (Aa Ae rfl (qf Ex rfl (ql Ch rfl (AM AQ rfl (qm rfl (Af ?_))))))))))))
  refine AB (L := FV N p1) h (fun v3 => mk [(3, oD (.ptr 3 0)), (7, oD (.own 2002)), (22, pD (.sl (p1.ff.map Aj))), (23, iD ((p1.ff.length : Int))), (24, iD v3.2)] [(3, .box [sC (p1.fg.map Aj), sC (p1.ff.map Aj), sC (p1.fi.map DO)]), (2002, .vec 1 (v3.1.map Aj))]) (fun v4 => mk [(3, oD (.ptr 3 0)), (7, oD (.own 2003))] [(3, .box [sC (p1.fg.map Aj), sC (p1.ff.map Aj), sC (p1.fi.map DO)]), (2003, .vec 1 (v4.map Aj))]) (fun _ _ => rfl) ((Bx 7 2005 1 rfl rfl rfl).trans (sm [(2002, 2005)] _ _ rfl rfl)) (fun j3 n3 v3 h => ?_) (fun v4 s h hs => ?_)
  ·unfold FV at h
   refine Ad (Aa Ae rfl (AX rfl (Af (Ad ?_))))
   refine Aq rfl (fun c5 => ?_) (fun c5 => ?_)
   ·have h := Ao c5 h
    refine As ?_
    refine AS h (fun v6 => mk [(3, oD (.ptr 3 0)), (7, oD (.own 2004)), (22, pD (.sl (p1.ff.map Aj))), (23, iD ((p1.ff.length : Int))), (24, iD v3.2)] [(3, .box [sC (p1.fg.map Aj), sC (p1.ff.map Aj), sC (p1.fi.map DO)]), (2004, .vec 1 (v6.map Aj))]) (fun j6 h => ?_) (fun v6 h => ?_)
    ·refine AJ (Ad (Aa Ae rfl (qm rfl ?_)))
     obtain ⟨v7, a7, b7, h⟩ := Ai h
     refine qi AQ Fh a7 (Ag b7) rfl (qk DA rfl (qa rfl (qa rfl (Af (Ad (Aa Ae rfl (qm rfl (D4 rfl (Af ?_)))))))))
     refine Aq rfl (fun c8 => ?_) (fun c8 => ?_)
     ·have h := Ao c8 h
      refine Aa Ae rfl (qm rfl (qm rfl (Fx AQ Fh Np rfl ?_)))
      obtain ⟨c9, h⟩ := AN h
      refine Gr (f := Aj) AQ AQ Fh PC Np c9 rfl (qa rfl (Af ?_))
      exact Au _ h (sm [(2004, 34)] _ _ rfl rfl)
     ·have h := An c8 h
      refine As ?_
      exact Au _ h (sm [(2004, 2002)] _ _ rfl rfl)
    ·refine Aa Ae rfl (AO rfl (qm rfl (Af ?_)))
     exact Au _ h (sm [(2002, 2004)] _ _ rfl rfl)
   ·have h := An c5 h
    refine AP ?_
    exact Au _ h (sm [(2003, 2002)] _ _ rfl rfl)
  ·refine Al hs (Ad (Aa Ae rfl (qa rfl (Af (Ad (Ad (Aa Ae rfl (qm rfl (D8 AQ rfl ?_)))))))))
   obtain ⟨c10, h⟩ := AN h
   refine JN rfl c10 (qm rfl (Af ?_))
   refine AB (L := Fv N p1 v4) h (fun v11 => mk [(3, oD (.ptr 3 0)), (7, oD (.own 2006)), (10, oD (.own 2007)), (38, iD ((EA .i64 1 ((v4.length : Int))))), (39, iD v11.2)] [(3, .box [sC (p1.fg.map Aj), sC (p1.ff.map Aj), sC (p1.fi.map DO)]), (2006, .vec 1 (v4.map Aj)), (2007, .vec 3 (v11.1.map Hi))]) (fun v12 => mk [(10, oD (.own 2008))] [(2008, .vec 3 (v12.map Hi))]) (fun _ _ => rfl) ((Bx 10 2027 3 rfl rfl rfl).trans (sm [(2006, 2003), (2007, 2027)] _ _ rfl rfl)) (fun j11 n11 v11 h => ?_) (fun v12 s h hs => ?_)
   ·unfold Fv at h
    refine Ad (Aa Ae rfl (AX rfl (Af (Ad ?_))))
    refine Aq rfl (fun c13 => ?_) (fun c13 => ?_)
    ·have h := Ao c13 h
     refine As (Ad (AJ (Ad (Aa Ae rfl (qm rfl (qa rfl (Af (Ad (Aa Ae rfl (qf E3 rfl (ql Ch rfl ?_)))))))))))
     obtain ⟨v14, a14, h⟩ := bind_some h
     refine AG [2009] (Ca N p1.fg v14 a14) Pg rfl (qf Ex rfl (ql Ch rfl ?_))
     obtain ⟨v15, a15, h⟩ := bind_some h
     refine AG [2010] (Ca N p1.ff v15 a15) Pg rfl (qf FR rfl (ql Ln rfl ?_))
     obtain ⟨v16, a16, h⟩ := bind_some h
     refine AG [2011] (EV N p1.fi v16 a16) ST rfl (Cu Hd MZ rfl (qz Hd rfl (qs CF rfl (AL (by kernel_rfl) (Ad (Ad (Aa Ae rfl (qm rfl (D8 AQ rfl (qm rfl (Af ?_)))))))))))
     refine AB (L := Fq N v4 v11) h (fun v17 => mk [(3, oD (.ptr 3 0)), (7, oD (.own 2015)), (10, oD (.own 2016)), (11, iD v11.2), (12, oD (.ptr 12 0)), (38, iD ((EA .i64 1 ((v4.length : Int))))), (39, iD v11.2), (52, oD (.own 2015)), (53, iD ((v4.length : Int))), (54, iD v17.2)] [(3, .box [sC (p1.fg.map Aj), sC (p1.ff.map Aj), sC (p1.fi.map DO)]), (12, .box [.own 2012, .own 2013, .own 2014]), (2012, .vec 1 (v14.map Aj)), (2013, .vec 1 (v17.1.map Aj)), (2014, .vec 1 (v16.map DO)), (2015, .vec 1 (v4.map Aj)), (2016, .vec 3 (v11.1.map Hi))]) (fun v18 => mk [(3, oD (.ptr 3 0)), (7, oD (.own 2020)), (10, oD (.own 2021)), (12, oD (.ptr 12 0)), (38, iD ((EA .i64 1 ((v4.length : Int))))), (39, iD v11.2)] [(3, .box [sC (p1.fg.map Aj), sC (p1.ff.map Aj), sC (p1.fi.map DO)]), (12, .box [.own 2017, .own 2018, .own 2019]), (2017, .vec 1 (v14.map Aj)), (2018, .vec 1 (v18.map Aj)), (2019, .vec 1 (v16.map DO)), (2020, .vec 1 (v4.map Aj)), (2021, .vec 3 (v11.1.map Hi))]) (fun _ _ => rfl) (sm [(2012, 2009), (2013, 2010), (2014, 2011), (2015, 2006), (2016, 2007)] _ _ rfl rfl) (fun j17 n17 v17 h => ?_) (fun v18 s h hs => ?_)
     ·unfold Fq at h
      refine Ad (Aa Ae rfl (AX rfl (Af (Ad ?_))))
      refine Aq rfl (fun c19 => ?_) (fun c19 => ?_)
      ·have h := Ao c19 h
       refine As ?_
       refine AS h (fun v20 => mk [(3, oD (.ptr 3 0)), (7, oD (.own 2025)), (10, oD (.own 2026)), (11, iD v11.2), (12, oD (.ptr 12 0)), (38, iD ((EA .i64 1 ((v4.length : Int))))), (39, iD v11.2), (52, oD (.own 2025)), (53, iD ((v4.length : Int))), (54, iD v17.2)] [(3, .box [sC (p1.fg.map Aj), sC (p1.ff.map Aj), sC (p1.fi.map DO)]), (12, .box [.own 2022, .own 2023, .own 2024]), (2022, .vec 1 (v14.map Aj)), (2023, .vec 1 (v20.map Aj)), (2024, .vec 1 (v16.map DO)), (2025, .vec 1 (v4.map Aj)), (2026, .vec 3 (v11.1.map Hi))]) (fun j20 h => ?_) (fun v20 h => ?_)
       ·refine AJ (Ad (Aa Ae rfl (qm rfl ?_)))
        obtain ⟨v21, a21, b21, h⟩ := Ai h
        refine qI AQ Fh a21 (Ag b21) rfl (qj DA (Ag b21) rfl (qa rfl (qa rfl (Af (Ad (Aa Ae rfl (qm rfl (qm rfl ?_))))))))
        obtain ⟨c22, h⟩ := AN h
        refine HW rfl c22 (Lu rfl (CR rfl (Af ?_)))
        refine Aq rfl (fun c23 => ?_) (fun c23 => ?_)
        ·have h := Ao c23 h
         refine Aa Ae rfl (qf Ex rfl (ql Ch rfl (qm rfl ?_)))
         obtain ⟨v24, a24, b24, h⟩ := Ai h
         refine qI AQ Fh a24 (Ag b24) rfl ?_
         refine A7 rfl rfl rfl rfl (Ag b24) rfl Fh rfl (AY rfl) (A0 Aj v17.1 _ ((-1))) ?_
         refine Af ?_
         exact Au _ h (sm [(2022, 2012), (2023, 2013), (2024, 2014), (2025, 2015), (2026, 2016)] _ _ rfl rfl)
        ·have h := An c23 h
         refine As ?_
         exact Au _ h (sm [(2022, 2012), (2023, 2013), (2024, 2014), (2025, 2015), (2026, 2016)] _ _ rfl rfl)
       ·refine Aa Ae rfl (AO rfl (qm rfl (Af ?_)))
        exact Au _ h (sm [(2012, 2022), (2013, 2023), (2014, 2024), (2015, 2025), (2016, 2026)] _ _ rfl rfl)
      ·have h := An c19 h
       refine AP ?_
       exact Au _ h (sm [(2017, 2012), (2018, 2013), (2019, 2014), (2020, 2015), (2021, 2016)] _ _ rfl rfl)
     ·refine Al hs (Aa Ae rfl (qm rfl (qL D6 CF rfl (E2 (DC 2017 _ _ rfl rfl) (E2 (DC 2018 _ _ rfl rfl) (E2 (DC 2019 _ _ rfl rfl) (Fx Mg CF Hd rfl ?_)))))))
      obtain ⟨c25, h⟩ := AN h
      refine Gr (f := Hi) Mg Mg CF UQ Hd c25 rfl (qa rfl (Af (Aa Ae rfl (AO rfl (qm rfl (Af ?_))))))
      exact Au _ h (sm [(2006, 2020), (2007, 72)] _ _ rfl rfl)
    ·have h := An c13 h
     refine AP ?_
     exact Au _ h (sm [(2008, 2007)] _ _ rfl rfl)
   ·refine Al hs (Ad (Aa Ae rfl (qm rfl (qa rfl (qa rfl (Af ?_))))))
    obtain rfl := sj h
    refine Al (sm [(1000, 2008)] [(4, oD (.own 1000)), (5, iD 0)] [(1000, .vec 3 (v12.map Hi))] rfl rfl) (Ay ?_)
    exact ⟨⟨[_, _], ⟨.tmp _ _ rfl, ⟨.tmp _ _ rfl, tv⟩⟩, rfl⟩, ⟨rfl, tv⟩⟩
theorem LM (N : Nat) (p0 : Ah) (p1 : AC) (r : (List Ab)) (h : Hc N p0 p1 = some r) : Az Tryz.prog 124 [.e (.agg [sC (p0.fb.map Aj), sC (p0.fc.map Aj), sC (p0.fd.map Aj), sC (p0.fa.map Ak)]), .e (.agg [sC (p1.fg.map Aj), sC (p1.ff.map Aj), sC (p1.fi.map DO)])] [(3, r.map Ac)] (oD (.own 0)) := by
 unfold Hc at h
 refine Ar (n := 98) (rs := [.tmp 4]) Tryz.func124 rfl rfl rfl (AY rfl) (AY rfl) rfl fun w0 S0 => ?_
 refine Ad (Aa Ae rfl (qb rfl (qb rfl (qa rfl (Af (Ad (Aa Ae rfl (qa rfl (Af (Ad (Ad (Aa Ae rfl (qf Bt rfl (ql EP rfl (AM Cw rfl (qm rfl (Af ?_)))))))))))))))))
 refine AB (L := ER N p0 p1) h (fun v1 => mk [(3, oD (.ptr 3 0)), (5, oD (.own 2001)), (15, pD (.sl (p0.fa.map Ak))), (16, iD ((p0.fa.length : Int))), (17, iD v1.2)] [(3, .box [sC (p1.fg.map Aj), sC (p1.ff.map Aj), sC (p1.fi.map DO)]), (2001, .vec 3 (v1.1.map Ac))]) (fun v2 => mk [(5, oD (.own 2002))] [(2002, .vec 3 (v2.map Ac))]) (fun _ _ => rfl) ((Bx 5 2013 3 rfl rfl rfl).trans (sm [(2001, 2013)] _ _ rfl rfl)) (fun j1 n1 v1 h => ?_) (fun v2 s h hs => ?_)
 ·unfold ER at h
  refine Ad (Aa Ae rfl (AX rfl (Af (Ad ?_))))
  refine Aq rfl (fun c3 => ?_) (fun c3 => ?_)
  ·have h := Ao c3 h
   refine As (Ad (AJ (Ad (Aa Ae rfl (qm rfl ?_)))))
   obtain ⟨v4, a4, b4, h⟩ := Ai h
   refine qi Cw Dc a4 (Ag b4) rfl (qK Hw Dc rfl (qz IS rfl (qa rfl (qs Dc rfl (Af (Ad (Aa Ae rfl (qL D6 CF rfl (qf ES rfl (ql DA rfl ?_))))))))))
   obtain ⟨v5, a5, h⟩ := bind_some h
   refine AG [] (Im N p1 v4.fh v5 a5) Q2 rfl (qL D6 CF rfl (qf H9 rfl (ql DA rfl ?_)))
   obtain ⟨v6, a6, h⟩ := bind_some h
   refine AG [] (Im N p1 v4.fm v6 a6) Q2 rfl (qa rfl (qa rfl (AL (by kernel_rfl) ?_)))
   refine AS h (fun v7 => mk [(3, oD (.ptr 3 0)), (5, oD (.own 2003)), (6, iD v1.2), (7, oD (.ptr 7 0)), (8, pD (.val (.int .u8 v7))), (9, pD (.val (.int .u8 v6))), (15, pD (.sl (p0.fa.map Ak))), (16, iD ((p0.fa.length : Int))), (17, iD v1.2)] [(3, .box [sC (p1.fg.map Aj), sC (p1.ff.map Aj), sC (p1.fi.map DO)]), (7, .box [iC v4.fe, iC v4.fh, iC v4.fm, .pure (.val (.bool v4.fo)), sC (v4.fj.map (CL eB)), sC (v4.fk.map (CL eB))]), (2003, .vec 3 (v1.1.map Ac))]) (fun j7 h => ?_) (fun v7 h => ?_)
   ·refine Ad (Aa Ae rfl (qL Hw Dc rfl ?_))
    obtain ⟨v8, a8, h⟩ := bind_some h
    refine AG [] (I9 N v4 v8 a8) TM rfl (Af ?_)
    refine Aq rfl (fun c9 => ?_) (fun c9 => ?_)
    ·have h := Ao c9 h
     refine Aa Ae rfl (qf FR rfl (ql Ln rfl (qm rfl ?_)))
     obtain ⟨v10, a10, b10, h⟩ := Ai h
     refine qi G9 J0 a10 (Ag b10) rfl (qk Pu rfl (qa rfl (Af ?_)))
     exact Au _ h (sm [(2003, 2001)] _ _ rfl rfl)
    ·have h := An c9 h
     refine As ?_
     exact Au _ h (sm [(2003, 2001)] _ _ rfl rfl)
   ·refine Ad (Aa Ae rfl (qf Dz rfl (ql EO rfl (AM Cn rfl (qm rfl (Af ?_))))))
    refine AB (L := EK N v1 v4 v6 v7) h (fun v11 => mk [(3, oD (.ptr 3 0)), (5, oD (.own 2004)), (6, iD v1.2), (7, oD (.ptr 7 0)), (8, pD (.val (.int .u8 v7))), (9, pD (.val (.int .u8 v6))), (15, pD (.sl (p0.fa.map Ak))), (16, iD ((p0.fa.length : Int))), (17, iD v1.2), (39, iD ((v4.fj.length : Int))), (40, iD v11.2)] [(3, .box [sC (p1.fg.map Aj), sC (p1.ff.map Aj), sC (p1.fi.map DO)]), (7, .box [iC v4.fe, iC v4.fh, iC v4.fm, .pure (.val (.bool v4.fo)), sC (v4.fj.map (CL eB)), sC (v4.fk.map (CL eB))]), (2004, .vec 3 (v11.1.map Ac))]) (fun v12 => mk [(3, oD (.ptr 3 0)), (5, oD (.own 2005)), (15, pD (.sl (p0.fa.map Ak))), (16, iD ((p0.fa.length : Int))), (17, iD v1.2)] [(3, .box [sC (p1.fg.map Aj), sC (p1.ff.map Aj), sC (p1.fi.map DO)]), (2005, .vec 3 (v12.map Ac))]) (fun _ _ => rfl) (sm [(2004, 2003)] _ _ rfl rfl) (fun j11 n11 v11 h => ?_) (fun v12 s h hs => ?_)
    ·unfold EK at h
     refine Ad (Aa Ae rfl (AX rfl (Af (Ad ?_))))
     refine Aq rfl (fun c13 => ?_) (fun c13 => ?_)
     ·have h := Ao c13 h
      refine As ?_
      refine AS h (fun v14 => mk [(3, oD (.ptr 3 0)), (5, oD (.own 2006)), (6, iD v1.2), (7, oD (.ptr 7 0)), (8, pD (.val (.int .u8 v7))), (9, pD (.val (.int .u8 v6))), (15, pD (.sl (p0.fa.map Ak))), (16, iD ((p0.fa.length : Int))), (17, iD v1.2), (39, iD ((v4.fj.length : Int))), (40, iD v11.2)] [(3, .box [sC (p1.fg.map Aj), sC (p1.ff.map Aj), sC (p1.fi.map DO)]), (7, .box [iC v4.fe, iC v4.fh, iC v4.fm, .pure (.val (.bool v4.fo)), sC (v4.fj.map (CL eB)), sC (v4.fk.map (CL eB))]), (2006, .vec 3 (v14.map Ac))]) (fun j14 h => ?_) (fun v14 h => ?_)
      ·refine AJ (Ad (Aa Ae rfl (qm rfl (qa rfl (Af (Ad (Ad (Aa Ae rfl (qm rfl (qm rfl ?_))))))))))
       obtain ⟨c15, h⟩ := AN h
       refine HW rfl c15 (Lu rfl (CR rfl (Af ?_)))
       refine Aq rfl (fun c16 => ?_) (fun c16 => ?_)
       ·have h := Ao c16 h
        refine AP ?_
        exact Au _ h (sm [(2006, 2004)] _ _ rfl rfl)
       ·have h := An c16 h
        refine As (Ad (Aa Ae rfl (qa rfl (Af (Ad (Ad (Aa Ae rfl (qf Dz rfl (ql EO rfl (qm rfl ?_))))))))))
        obtain ⟨v17, a17, b17, h⟩ := Ai h
        refine qi Cn F7 a17 (Ag b17) rfl (qk Il rfl (AM DV rfl (qm rfl (Af ?_))))
        refine AB (L := EF N v1 v4 v6 v11 v17) h (fun v18 => mk [(3, oD (.ptr 3 0)), (5, oD (.own 2007)), (6, iD v1.2), (7, oD (.ptr 7 0)), (8, pD (.val (.int .u8 v7))), (9, pD (.val (.int .u8 v6))), (10, iD v11.2), (11, bD v18.2.1), (15, pD (.sl (p0.fa.map Ak))), (16, iD ((p0.fa.length : Int))), (17, iD v1.2), (39, iD ((v4.fj.length : Int))), (40, iD v11.2), (52, pD (.sl (v17.map eB))), (53, iD ((v17.length : Int))), (54, iD v18.2.2)] [(3, .box [sC (p1.fg.map Aj), sC (p1.ff.map Aj), sC (p1.fi.map DO)]), (7, .box [iC v4.fe, iC v4.fh, iC v4.fm, .pure (.val (.bool v4.fo)), sC (v4.fj.map (CL eB)), sC (v4.fk.map (CL eB))]), (2007, .vec 3 (v18.1.map Ac))]) (fun v19 => mk [(3, oD (.ptr 3 0)), (5, oD (.own 2008)), (6, iD v1.2), (7, oD (.ptr 7 0)), (8, pD (.val (.int .u8 v7))), (9, pD (.val (.int .u8 v6))), (10, iD v11.2), (11, bD v19.2), (15, pD (.sl (p0.fa.map Ak))), (16, iD ((p0.fa.length : Int))), (17, iD v1.2), (39, iD ((v4.fj.length : Int))), (40, iD v11.2)] [(3, .box [sC (p1.fg.map Aj), sC (p1.ff.map Aj), sC (p1.fi.map DO)]), (7, .box [iC v4.fe, iC v4.fh, iC v4.fm, .pure (.val (.bool v4.fo)), sC (v4.fj.map (CL eB)), sC (v4.fk.map (CL eB))]), (2008, .vec 3 (v19.1.map Ac))]) (fun _ _ => rfl) (sm [(2007, 2004)] _ _ rfl rfl) (fun j18 n18 v18 h => ?_) (fun v19 s h hs => ?_)
        ·unfold EF at h
         refine Ad (Aa Ae rfl (AX rfl (Af (Ad ?_))))
         refine Aq rfl (fun c20 => ?_) (fun c20 => ?_)
         ·have h := Ao c20 h
          refine As ?_
          refine AS h (fun v21 => mk [(3, oD (.ptr 3 0)), (5, oD (.own 2009)), (6, iD v1.2), (7, oD (.ptr 7 0)), (8, pD (.val (.int .u8 v7))), (9, pD (.val (.int .u8 v6))), (10, iD v11.2), (11, bD v21.2), (15, pD (.sl (p0.fa.map Ak))), (16, iD ((p0.fa.length : Int))), (17, iD v1.2), (39, iD ((v4.fj.length : Int))), (40, iD v11.2), (52, pD (.sl (v17.map eB))), (53, iD ((v17.length : Int))), (54, iD v18.2.2)] [(3, .box [sC (p1.fg.map Aj), sC (p1.ff.map Aj), sC (p1.fi.map DO)]), (7, .box [iC v4.fe, iC v4.fh, iC v4.fm, .pure (.val (.bool v4.fo)), sC (v4.fj.map (CL eB)), sC (v4.fk.map (CL eB))]), (2009, .vec 3 (v21.1.map Ac))]) (fun j21 h => ?_) (fun v21 h => ?_)
          ·refine AJ (Ad (Aa Ae rfl (qm rfl ?_)))
           obtain ⟨v22, a22, b22, h⟩ := Ai h
           refine qi DV L1 a22 (Ag b22) rfl (qk Pv rfl (qa rfl (qa rfl (Af (Ad (Ad (Aa Ae rfl (qm rfl (qm rfl ?_)))))))))
           obtain ⟨c23, h⟩ := AN h
           refine HW rfl c23 (Lu rfl (CR rfl (Af ?_)))
           refine Aq rfl (fun c24 => ?_) (fun c24 => ?_)
           ·have h := Ao c24 h
            refine AP ?_
            exact Au _ h (sm [(2009, 2007)] _ _ rfl rfl)
           ·have h := An c24 h
            refine As ?_
            refine AS h (fun v25 => mk [(3, oD (.ptr 3 0)), (5, oD (.own 2010)), (6, iD v1.2), (7, oD (.ptr 7 0)), (8, pD (.val (.int .u8 v7))), (9, pD (.val (.int .u8 v6))), (10, iD v11.2), (11, bD v25), (12, iD v18.2.2), (13, bD v22), (15, pD (.sl (p0.fa.map Ak))), (16, iD ((p0.fa.length : Int))), (17, iD v1.2), (39, iD ((v4.fj.length : Int))), (40, iD v11.2), (52, pD (.sl (v17.map eB))), (53, iD ((v17.length : Int))), (54, iD v18.2.2)] [(3, .box [sC (p1.fg.map Aj), sC (p1.ff.map Aj), sC (p1.fi.map DO)]), (7, .box [iC v4.fe, iC v4.fh, iC v4.fm, .pure (.val (.bool v4.fo)), sC (v4.fj.map (CL eB)), sC (v4.fk.map (CL eB))]), (2010, .vec 3 (v18.1.map Ac))]) (fun j25 h => ?_) (fun v25 h => ?_)
            ·refine Aa Ae rfl (qm rfl (qm rfl ?_))
             refine AH (t := 65) rfl (fun c26 => ?_) (fun c26 => ?_)
             ·have h := Ao c26 h
              refine qn rfl (qp rfl (qa rfl (Af ?_)))
              exact Au _ h (sm [(2010, 2007)] _ _ rfl rfl)
             ·have h := An c26 h
              refine qm rfl (qp rfl (qa rfl (Af ?_)))
              exact Au _ h (sm [(2010, 2007)] _ _ rfl rfl)
            ·refine AS h (fun v27 => mk [(3, oD (.ptr 3 0)), (5, oD (.own 2011)), (6, iD v1.2), (7, oD (.ptr 7 0)), (8, pD (.val (.int .u8 v7))), (9, pD (.val (.int .u8 v6))), (10, iD v11.2), (11, bD v25), (12, iD v18.2.2), (15, pD (.sl (p0.fa.map Ak))), (16, iD ((p0.fa.length : Int))), (17, iD v1.2), (39, iD ((v4.fj.length : Int))), (40, iD v11.2), (52, pD (.sl (v17.map eB))), (53, iD ((v17.length : Int))), (54, iD v18.2.2), (74, bD v27)] [(3, .box [sC (p1.fg.map Aj), sC (p1.ff.map Aj), sC (p1.fi.map DO)]), (7, .box [iC v4.fe, iC v4.fh, iC v4.fm, .pure (.val (.bool v4.fo)), sC (v4.fj.map (CL eB)), sC (v4.fk.map (CL eB))]), (2011, .vec 3 (v18.1.map Ac))]) (fun j27 h => ?_) (fun v27 h => ?_)
             ·refine Aa Ae rfl (qm rfl (CB rfl (qm rfl ?_)))
              refine AH (t := 70) rfl (fun c28 => ?_) (fun c28 => ?_)
              ·have h := Ao c28 h
               refine qf JU rfl (ql Pv rfl (CB rfl (qp rfl (Af ?_))))
               exact Au _ h (sm [(2011, 2010)] _ _ rfl rfl)
              ·have h := An c28 h
               refine qn rfl (qn rfl (qn rfl (qp rfl (Af ?_))))
               exact Au _ h (sm [(2011, 2010)] _ _ rfl rfl)
             ·refine Aq rfl (fun c29 => ?_) (fun c29 => ?_)
              ·have h := Ao c29 h
               refine Aa Ae rfl (qm rfl (qm rfl (qm rfl (qm rfl (Cu G8 Ou rfl (Fx AI AE G8 rfl ?_))))))
               obtain ⟨c30, h⟩ := AN h
               refine Gr (f := Ac) AI AI AE Nr G8 c30 rfl (qa rfl (Af ?_))
               exact Au _ h (sm [(2009, 81)] _ _ rfl rfl)
              ·have h := An c29 h
               refine As ?_
               exact Au _ h (sm [(2009, 2011)] _ _ rfl rfl)
          ·refine Aa Ae rfl (AO rfl (qm rfl (Af ?_)))
           exact Au _ h (sm [(2007, 2009)] _ _ rfl rfl)
         ·have h := An c20 h
          refine AP ?_
          exact Au _ h (sm [(2008, 2007)] _ _ rfl rfl)
        ·refine Al hs ?_
         refine AS h (fun v31 => mk [(3, oD (.ptr 3 0)), (5, oD (.own 2012)), (6, iD v1.2), (7, oD (.ptr 7 0)), (8, pD (.val (.int .u8 v7))), (9, pD (.val (.int .u8 v6))), (10, iD v11.2), (15, pD (.sl (p0.fa.map Ak))), (16, iD ((p0.fa.length : Int))), (17, iD v1.2), (39, iD ((v4.fj.length : Int))), (40, iD v11.2), (88, bD v31)] [(3, .box [sC (p1.fg.map Aj), sC (p1.ff.map Aj), sC (p1.fi.map DO)]), (7, .box [iC v4.fe, iC v4.fh, iC v4.fm, .pure (.val (.bool v4.fo)), sC (v4.fj.map (CL eB)), sC (v4.fk.map (CL eB))]), (2012, .vec 3 (v19.1.map Ac))]) (fun j31 h => ?_) (fun v31 h => ?_)
         ·refine Aa Ae rfl (qf JU rfl (ql Pv rfl (qm rfl ?_)))
          refine AH (t := 85) rfl (fun c32 => ?_) (fun c32 => ?_)
          ·have h := Ao c32 h
           refine qm rfl (CB rfl (qp rfl (Af ?_)))
           exact Au _ h (sm [(2012, 2008)] _ _ rfl rfl)
          ·have h := An c32 h
           refine qn rfl (qn rfl (qp rfl (Af ?_)))
           exact Au _ h (sm [(2012, 2008)] _ _ rfl rfl)
         ·refine Aq rfl (fun c33 => ?_) (fun c33 => ?_)
          ·have h := Ao c33 h
           refine Aa Ae rfl (qm rfl (qm rfl (qm rfl (Cu G8 Ou rfl (Fx AI AE G8 rfl ?_)))))
           obtain ⟨c34, h⟩ := AN h
           refine Gr (f := Ac) AI AI AE Nr G8 c34 rfl (qa rfl (Af ?_))
           exact Au _ h (sm [(2006, 94)] _ _ rfl rfl)
          ·have h := An c33 h
           refine As ?_
           exact Au _ h (sm [(2006, 2012)] _ _ rfl rfl)
      ·refine Aa Ae rfl (AO rfl (qm rfl (Af ?_)))
       exact Au _ h (sm [(2004, 2006)] _ _ rfl rfl)
     ·have h := An c13 h
      refine AP ?_
      exact Au _ h (sm [(2005, 2004)] _ _ rfl rfl)
    ·refine Al hs (Aa Ae rfl (AO rfl (qm rfl (Af ?_))))
     exact Au _ h (sm [(2001, 2005)] _ _ rfl rfl)
  ·have h := An c3 h
   refine AP ?_
   exact Au _ h (sm [(2002, 2001)] _ _ rfl rfl)
 ·refine Al hs (Ad (Aa Ae rfl (qm rfl (qa rfl (Af ?_)))))
  obtain rfl := sj h
  refine Al (sm [(1000, 2002)] [(4, oD (.own 1000))] [(1000, .vec 3 (v2.map Ac))] rfl rfl) (Ay ?_)
  exact ⟨⟨[_], ⟨.tmp _ _ rfl, tv⟩, rfl⟩, ⟨rfl, tv⟩⟩
theorem OC (N : Nat) (p0 : Ah) (p1 : AC) (r : AC × Ab × Int) (h : I2 N p0 p1 = some r) : Az Tryz.prog 87 [.e (.agg [sC (p0.fb.map Aj), sC (p0.fc.map Aj), sC (p0.fd.map Aj), sC (p0.fa.map Ak)]), .e (.agg [sC (p1.fg.map Aj), sC (p1.ff.map Aj), sC (p1.fi.map DO)])] [] (.tup [.agg [sC (r.1.fg.map Aj), sC (r.1.ff.map Aj), sC (r.1.fi.map DO)], .agg [iC r.2.1.ft, iC r.2.1.fr, iC r.2.1.fq], .one (iC r.2.2)]) := by
 unfold I2 at h
 refine Ar (n := 42) (rs := [.cell 4 64, .cell 5 45, .tmp 6]) Tryz.func87 rfl rfl rfl (AY rfl) (AY rfl) rfl fun w0 S0 => ?_
 refine Ad (Aa Ae rfl (qb rfl (qb rfl (qz Hd rfl (qz G8 rfl (qa rfl (Af (Ad (Aa Ae rfl (qL C9 Ck rfl (qL D6 CF rfl ?_)))))))))))
 obtain ⟨v1, a1, h⟩ := bind_some h
 refine AG [2001] (Oe N p0 p1 v1 a1) UH rfl (qm rfl (qx rfl (qx rfl (qa rfl (qa rfl (Af (Ad (Ad (Aa Ae rfl (qm rfl (Cl rfl (Af ?_))))))))))))
 refine Aq rfl (fun c2 => ?_) (fun c2 => ?_)
 ·have h := Ao c2 h
  refine Ad (Aa Ae rfl (Cu Hd MZ rfl (Cu G8 Ou rfl (qm rfl (qs CF rfl (qs AE rfl (qa rfl (Af ?_))))))))
  obtain rfl := sj h
  refine Al ((Ix 4 _ rfl).trans (sm [] [(4, oD (.ptr 4 0)), (5, oD (.ptr 5 0)), (6, iD v1.2)] [(4, .box [sC ((([] : List Int)).map Aj), sC ((([] : List Int)).map Aj), sC ((([] : List Int)).map DO)]), (5, .box [iC 0, iC 0, iC 0])] rfl rfl)) (Ay ?_)
  exact ⟨⟨[_, _, _], ⟨.cellN _ _ _ _ _ _ _ rfl rfl D6 CF rfl rfl (Kt rfl), ⟨.cellN _ _ _ _ _ _ _ rfl rfl Co AE rfl rfl (Kt rfl), ⟨.tmp _ _ rfl, tv⟩⟩⟩, rfl⟩, tv⟩
 ·have h := An c2 h
  refine As (Ad (Ad (Aa Ae rfl (qm rfl (D8 Mg rfl (qm rfl (Af ?_)))))))
  refine AB (L := Gk N p0 v1) h (fun v3 => mk [(2, oD (.ptr 2 0)), (4, oD (.ptr 4 0)), (5, oD (.ptr 5 0)), (23, oD (.own 2002)), (24, iD ((v1.1.length : Int))), (25, iD v3)] [(2, .box [sC (p0.fb.map Aj), sC (p0.fc.map Aj), sC (p0.fd.map Aj), sC (p0.fa.map Ak)]), (4, .box [.pure (.nil0), .pure (.nil0), .pure (.nil0)]), (5, .box [iC 0, iC 0, iC 0]), (2002, .vec 3 (v1.1.map Hi))]) (fun v4 => mk [(4, oD (.ptr 4 0)), (5, oD (.ptr 5 0))] [(4, .box [.pure (.nil0), .pure (.nil0), .pure (.nil0)]), (5, .box [iC 0, iC 0, iC 0])]) (fun _ _ => rfl) (sm [(2002, 2001)] _ _ rfl rfl) (fun j3 n3 v3 h => ?_) (fun v4 s h hs => ?_)
  ·unfold Gk at h
   refine Ad (Aa Ae rfl (AX rfl (Af (Ad ?_))))
   refine Aq rfl (fun c5 => ?_) (fun c5 => ?_)
   ·have h := Ao c5 h
    refine As (Ad (AJ (Ad (Aa Ae rfl ?_))))
    obtain ⟨v6, a6, b6, h⟩ := Ai h
    refine qI Mg CF a6 (Ag b6) rfl (qJ D6 CF (Ag b6) rfl (qz Hd rfl (qs CF rfl (Af (Ad (Aa Ae rfl (qL C9 Ck rfl (qL D6 CF rfl ?_))))))))
    obtain ⟨v7, a7, h⟩ := bind_some h
    refine AG [2003] (LM N p0 v6 v7 a7) Up rfl (qa rfl (Af (Ad (Aa Ae rfl (qm rfl (D8 AI rfl (Ea rfl (Af ?_))))))))
    refine Aq rfl (fun c8 => ?_) (fun c8 => ?_)
    ·have h := Ao c8 h
     refine Ad (Aa Ae rfl (qL D6 CF rfl (qm rfl ?_)))
     obtain ⟨v9, a9, b9, h⟩ := Ai h
     refine qI AI AE a9 (Ag b9) rfl (qJ Co AE (Ag b9) rfl (qs CF rfl (qs AE rfl (qa rfl (AL (by kernel_rfl) ?_)))))
     obtain rfl := sj h
     refine Al (sm [] [(4, oD (.ptr 4 0)), (5, oD (.ptr 5 0)), (6, iD 0)] [(4, .box [sC (v6.fg.map Aj), sC (v6.ff.map Aj), sC (v6.fi.map DO)]), (5, .box [iC v9.ft, iC v9.fr, iC v9.fq])] rfl rfl) (Ay ?_)
     exact ⟨⟨[_, _, _], ⟨.cellN _ _ _ _ _ _ _ rfl rfl D6 CF rfl rfl (Kt rfl), ⟨.cellN _ _ _ _ _ _ _ rfl rfl Co AE rfl rfl (Kt rfl), ⟨.tmp _ _ rfl, tv⟩⟩⟩, rfl⟩, tv⟩
    ·have h := An c8 h
     refine As (Aa Ae rfl (AO rfl (qm rfl (Af ?_))))
     exact Au _ h (sm [] _ _ rfl rfl)
   ·have h := An c5 h
    refine AP ?_
    exact Au _ h (sm [] _ _ rfl rfl)
  ·refine Al hs (Ad (Aa Ae rfl (Cu Hd MZ rfl (Cu G8 Ou rfl (qs CF rfl (qs AE rfl (qa rfl (Af ?_))))))))
   obtain rfl := sj h
   refine Al ((Ix 4 _ rfl).trans (sm [] [(4, oD (.ptr 4 0)), (5, oD (.ptr 5 0)), (6, iD 15)] [(4, .box [sC ((([] : List Int)).map Aj), sC ((([] : List Int)).map Aj), sC ((([] : List Int)).map DO)]), (5, .box [iC 0, iC 0, iC 0])] rfl rfl)) (Ay ?_)
   exact ⟨⟨[_, _, _], ⟨.cellN _ _ _ _ _ _ _ rfl rfl D6 CF rfl rfl (Kt rfl), ⟨.cellN _ _ _ _ _ _ _ rfl rfl Co AE rfl rfl (Kt rfl), ⟨.tmp _ _ rfl, tv⟩⟩⟩, rfl⟩, tv⟩
end Go.Lift
