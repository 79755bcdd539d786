/- Lemmas for UnblockMinimalSaid, which YtjpgllmfenogoaaGreatFinU4 proves. -/
import Derived.Test.YtjpgllmfenogoaaGreatLift35
import Derived.Shelf.SlSortCmp.NoneTotal
import Derived.MakeChecks
import Derived.Test.YtjpgllmfenogoaaGreatProg
import Derived.KernelRfl
namespace Go.Lift
open Go.RowKit
variable {P : Program} {X : Jm} {ops : Array Oper}
theorem RB {st : St} (b s ix k : Nat) {e e2 : Nat} {cols cols2 : List Ow} {rows rows2 : List (List T)} {row : List T} (hb : st.bx b = some (.dvec e cols rows)) (hrow : rows[ix]? = some row) (hc : row[k]? = some (.sl rows2)) (hcol : cols.getD k .s = .x e2 cols2) (hbl : Bl b = false) (hsl : Bl s = false) (hnew : st.bx s = none) :
  Gl P X st ⟨st.env, Ba st.bx [(b, .hol e cols ix k s rows), (s, inner e2 cols2 rows2)]⟩ := by
 rintro a w ⟨G, hs⟩
 have hsb : s ≠ b := fun e => by rw [e, hb] at hnew; cases hnew
 obtain ⟨β, cap, arr, el, Rf, hβ, h1, h2, h3, h4, h5, h6, h7, h8, h9, h10⟩ := SO (hs.blk b _ hb) hrow
 have hre := h5 ix row hrow
 have hk := Ax hc
 have hcell := h6 ix row k _ hrow hc
 rw [hcol] at hcell
 obtain ⟨l, m, g1, g2, g3⟩ := UD (P := P) hcell
 let G' : Gh := { S := G.S, loc := fun c => if c = s then l else G.loc c, hd := fun c => if c = s then As arr (ix * e + k) else G.hd c, more := fun c => if c = s then m else if c = b then (fun γ => G.more b γ ∧ ¬ Rf ix k γ) else G.more c }
 have hsome : ∀ c, (st.bx c).isSome = true → c ≠ s := fun c hc e => by rw [e, hnew] at hc; cases hc
 have hbx : ∀ c, Ba st.bx [(b, .hol e cols ix k s rows), (s, inner e2 cols2 rows2)] c = if c = b then some (.hol e cols ix k s rows) else if c = s then some (inner e2 cols2 rows2) else st.bx c := fun c => rfl
 have hasS : ∀ γ, G'.has s γ → Rf ix k γ := fun γ h => by
  unfold Gh.has at h
  simp only [G', if_true] at h
  exact g1 γ h
 have hasB : ∀ γ, G'.has b γ → G.has b γ ∧ ¬ Rf ix k γ := fun γ h => by
  unfold Gh.has at h
  simp only [G', if_neg hsb.symm, if_true] at h
  rcases h with h | h
  ·refine ⟨.inl h, fun hr => ?_⟩
   rw [hβ] at h; cases h
   exact h8 ix k hr
  ·exact ⟨.inr h.1, h.2⟩
 have hasO : ∀ c γ, c ≠ s → c ≠ b → (G'.has c γ ↔ G.has c γ) := fun c γ h1 h2 => by
  unfold Gh.has
  simp only [G', if_neg h1, if_neg h2]
 have hbl2 := hsl
 have key : Dy P X G' ⟨st.env, Ba st.bx [(b, .hol e cols ix k s rows), (s, inner e2 cols2 rows2)]⟩ a w := by
  refine hs.frame2 ?_ (fun _ h => h) (fun c hc => by simp only [G']; rw [if_neg (hsome c hc)]) (fun c hc => by simp only [G']; rw [if_neg (hsome c hc)]) (fun _ _ => rfl) ?_ ?_ ?_ hs.S_lt hs.S_src hs.below (fun c hc => ?_)
  ·intro c hc; rw [hbx]; split
   ·rfl
   ·split
    ·rfl
    ·exact hc
  ·intro c kk hc
   rw [hbx] at hc
   split at hc
   ·rename_i e1; subst e1; cases hc
    refine .inr ⟨⟨β, cap, arr, el, fun i j γ => Rf i j γ ∧ ¬ (i = ix ∧ j = k), ?_, ?_, h2, h3, h4, h5, ?_, ?_, fun i j h => h8 i j h.1, fun i j i' j' γ h h' => h9 i j i' j' γ h.1 h'.1, ?_, ?_⟩, fun c' hc' => ?_⟩
    ·simp only [G', if_neg hsb.symm]; exact hβ
    ·simp only [G', if_neg hsb.symm]; exact h1
    ·intro i0 row0 j0 t0 hi hj hne
     exact (h6 i0 row0 j0 t0 hi hj).mono (fun _ _ => rfl) (fun _ h => h) (fun γ hγ => ⟨hγ, hne⟩)
    ·intro i0 j0 γ hγ
     simp only [G', if_neg hsb.symm, if_true]
     exact ⟨h7 i0 j0 γ hγ.1, fun hr => hγ.2 (h9 i0 j0 ix k γ hγ.1 hr)⟩
    ·simp only [G', if_true]
    ·simp only [G', if_true]; exact g2
    ·have : c' = s := by simpa [Bt.names] using hc'
     subst this
     rw [hbx, if_neg hsb, if_pos rfl]; rfl
   ·rename_i e1
    split at hc
    ·rename_i e2'; subst e2'; cases hc
     exact .inr ⟨g3 G' c (fun _ h => h) (by simp [G']) (by simp [G']) (fun γ hγ => by simp [G', hγ]), fun c' hc' => by rw [O4] at hc'; cases hc'⟩
    ·rename_i e2'
     exact .inl ⟨hc, by simp only [G', if_neg e1, if_neg e2'], fun _ _ _ => rfl⟩
  ·intro c kk γ hc hr hγ
   rw [hbx] at hc
   split at hc
   ·rename_i e1; subst e1
    exact hs.at_ok c _ γ hb rfl (hasB γ hγ).1
   ·rename_i e1
    split at hc
    ·rename_i e2'; subst e2'
     have := hs.at_ok b _ γ hb rfl (.inr (h7 ix k γ (hasS γ hγ)))
     exact ⟨.new (this.1.1 hbl), this.2⟩
    ·rename_i e2'
     exact hs.at_ok c kk γ hc hr ((hasO c γ e2' e1).1 hγ)
  ·intro c c' kk kk' γ hc hc' hr hr' hγ hγ'
   rw [hbx] at hc hc'
   have cl : ∀ c kk, (if c = b then some (Bt.hol e cols ix k s rows) else if c = s then some (inner e2 cols2 rows2) else st.bx c) = some kk → kk.real = true → G'.has c γ → (c = b ∧ G.has b γ ∧ ¬ Rf ix k γ) ∨ (c = s ∧ Rf ix k γ) ∨ (c ≠ b ∧ st.bx c = some kk ∧ G.has c γ) := by
    intro c kk hc hr hγ
    split at hc
    ·rename_i e1; subst e1; exact .inl ⟨rfl, hasB γ hγ⟩
    ·rename_i e1
     split at hc
     ·rename_i e2'; subst e2'; exact .inr (.inl ⟨rfl, hasS γ hγ⟩)
     ·rename_i e2'; exact .inr (.inr ⟨e1, hc, (hasO c γ e2' e1).1 hγ⟩)
   rcases cl c kk hc hr hγ with ⟨q1, q2, q3⟩ | ⟨q1, q2⟩ | ⟨q1, q2, q3⟩ <;> rcases cl c' kk' hc' hr' hγ' with ⟨q1', q2', q3'⟩ | ⟨q1', q2'⟩ | ⟨q1', q2', q3'⟩
   ·rw [q1, q1']
   ·exact (q3 q2').elim
   ·exact (q1' (hs.at_inj c' b _ _ γ q2' hb hr' rfl q3' q2)).elim
   ·exact (q3' q2).elim
   ·rw [q1, q1']
   ·exact (q1' (hs.at_inj c' b _ _ γ q2' hb hr' rfl q3' (.inr (h7 ix k γ q2)))).elim
   ·exact (q1 (hs.at_inj c b _ _ γ q2 hb hr rfl q3 q2')).elim
   ·exact (q1 (hs.at_inj c b _ _ γ q2 hb hr rfl q3 (.inr (h7 ix k γ q2')))).elim
   ·exact hs.at_inj c c' kk kk' γ q2 q2' hr hr' q3 q3'
  ·have e1 : c ≠ s := fun e => by rw [e, hbl2] at hc; cases hc
   have e2' : c ≠ b := fun e => by rw [e, hbl] at hc; cases hc
   refine ⟨?_, ?_, ?_⟩ <;> simp only [G', if_neg e1, if_neg e2']
 exact ⟨G', key⟩
theorem Q0 {st : St} (b c : Nat) {e ix k e2 : Nat} {cols cols2 : List Ow} {rows rows2 rows' : List (List T)} {row : List T} (hb : st.bx b = some (.hol e cols ix k c rows)) (hc : st.bx c = some (inner e2 cols2 rows2)) (hcol : cols.getD k .s = .x e2 cols2) (hrow : rows[ix]? = some row)
  (hbl : Bl b = false) (hcl : Bl c = false) (hr : rows.set ix (row.set k (.sl rows2)) = rows') : Gl P X st ⟨st.env, Ba st.bx [(b, .dvec e cols rows'), (c, .gone)]⟩ := by
 have hcb : c ≠ b := fun e' => by rw [e', hb] at hc; unfold inner at hc; split at hc <;> cases hc
 subst hr
 rintro a w ⟨G, hs⟩
 obtain ⟨β, cap, arr, el, Rf, hβ, h1, h2, h3, h4, h5, h6, h7, h8, h9, h10, h11⟩ := hs.blk b _ hb
 have hX := NL (hs.blk c _ hc)
 have hre := h5 ix row hrow
 let G' : Gh := { G with more := fun d => if d = b then (fun γ => G.more b γ ∨ G.has c γ) else G.more d }
 have hcβ : ∀ γ, G.has c γ → γ ≠ β := fun γ h e' => hcb (hs.at_inj c b _ _ γ hc hb CY rfl h (.inl (e' ▸ hβ)))
 have hbx : ∀ d, Ba st.bx [(b, .dvec e cols (rows.set ix (row.set k (.sl rows2)))), (c, .gone)] d = if d = b then some (.dvec e cols (rows.set ix (row.set k (.sl rows2)))) else if d = c then some .gone else st.bx d := fun d => rfl
 have hasO : ∀ d γ, d ≠ b → (G'.has d γ ↔ G.has d γ) := fun d γ h => by unfold Gh.has; simp only [G', if_neg h]
 have hasB : ∀ γ, G'.has b γ → G.has b γ ∨ G.has c γ := fun γ h => by
  unfold Gh.has at h
  simp only [G', if_true] at h
  rcases h with h | h | h
  ·exact .inl (.inl h)
  ·exact .inl (.inr h)
  ·exact .inr h
 refine ⟨G', ?_⟩
 refine hs.frame2 (fun d hd => ?_) (fun _ h => h) (fun _ _ => rfl) (fun _ _ => rfl) (fun _ _ => rfl) ?_ ?_ ?_ hs.S_lt hs.S_src hs.below (fun d hd => ?_)
 ·rw [hbx]; split
  ·rfl
  ·split
   ·rfl
   ·exact hd
 ·intro d kk hd
  rw [hbx] at hd
  split at hd
  ·rename_i e1; subst e1; cases hd
   refine .inr ⟨.inr ⟨β, cap, arr, el, fun i0 j0 γ => if i0 = ix ∧ j0 = k then G.has c γ else Rf i0 j0 γ, hβ, by rw [List.length_set]; exact h1, h2, by rw [List.length_set]; exact h3, h4, ?_, ?_, ?_, ?_, ?_⟩, fun c' hc' => by cases hc'⟩
   ·intro j0 row' hj
    rcases ER hj with ⟨_, rfl⟩ | ⟨_, hj⟩
    ·rw [List.length_set]; exact hre
    ·exact h5 j0 row' hj
   ·intro i0 row' j0 t0 hi hj
    have hj0 : j0 < e := by
     have := Ax hj
     rcases ER hi with ⟨_, rfl⟩ | ⟨_, hi⟩
     ·rw [List.length_set] at this; omega
     ·have := h5 i0 row' hi; omega
    by_cases hh : i0 = ix ∧ j0 = k
    ·obtain ⟨rfl, rfl⟩ := hh
     rw [hcol]
     have ht0 : t0 = .sl rows2 := by
      rcases ER hi with ⟨_, rfl⟩ | ⟨hne, _⟩
      ·rcases ER hj with ⟨_, rfl⟩ | ⟨hne, _⟩
       ·rfl
       ·exact (hne rfl).elim
      ·exact (hne rfl).elim
     subst ht0
     rw [h10]
     exact hX.mono (fun _ _ => rfl) (fun _ h => h) (fun γ hγ => by simp only [and_self, if_true]; exact hγ)
    ·have hold : ∃ row0, rows[i0]? = some row0 ∧ row0[j0]? = some t0 := by
      rcases ER hi with ⟨hii, rfl⟩ | ⟨_, hi⟩
      ·subst hii
       rcases ER hj with ⟨hjj, _⟩ | ⟨_, hj⟩
       ·exact (hh ⟨rfl, hjj⟩).elim
       ·exact ⟨row, hrow, hj⟩
      ·exact ⟨row', hi, hj⟩
     obtain ⟨row0, q1, q2⟩ := hold
     exact (h6 i0 row0 j0 t0 q1 q2 hh).mono (fun _ _ => rfl) (fun _ h => h) (fun γ hγ => by simp only [if_neg hh]; exact hγ)
   ·intro i0 j0 γ hγ
    simp only [G', if_true]
    split at hγ
    ·exact .inr hγ
    ·exact .inl (h7 i0 j0 γ hγ)
   ·intro i0 j0 hγ
    split at hγ
    ·exact hcβ β hγ rfl
    ·exact h8 i0 j0 hγ
   ·intro i0 j0 i1 j1 γ hγ hγ'
    have cross : ∀ i j, Rf i j γ → G.has c γ → False := fun i j hr hh => hcb (hs.at_inj c d _ _ γ hc hb CY rfl hh (.inr (h7 i j γ hr)))
    split at hγ <;> split at hγ'
    ·rename_i q q'; exact ⟨q.1.trans q'.1.symm, q.2.trans q'.2.symm⟩
    ·exact (cross _ _ hγ' hγ).elim
    ·exact (cross _ _ hγ hγ').elim
    ·exact h9 i0 j0 i1 j1 γ hγ hγ'
  ·rename_i e1
   split at hd
   ·cases hd; exact .inr ⟨trivial, fun c' hc' => by cases hc'⟩
   ·rename_i e2'
    exact .inl ⟨hd, by simp only [G', if_neg e1], fun _ _ _ => rfl⟩
 ·intro d kk γ hd hr hγ
  rw [hbx] at hd
  split at hd
  ·rename_i e1; subst e1
   rcases hasB γ hγ with h | h
   ·exact hs.at_ok d _ γ hb rfl h
   ·have := hs.at_ok c _ γ hc CY h
    exact ⟨.new (this.1.1 hcl), this.2⟩
  ·rename_i e1
   split at hd
   ·cases hd; cases hr
   ·exact hs.at_ok d kk γ hd hr ((hasO d γ e1).1 hγ)
 ·intro d d' kk kk' γ hd hd' hr hr' hγ hγ'
  rw [hbx] at hd hd'
  have cl : ∀ d kk, (if d = b then some (Bt.dvec e cols (rows.set ix (row.set k (.sl rows2)))) else if d = c then some .gone else st.bx d) = some kk → kk.real = true → G'.has d γ → (d = b ∧ (G.has b γ ∨ G.has c γ)) ∨ (d ≠ b ∧ d ≠ c ∧ st.bx d = some kk ∧ G.has d γ) := by
   intro d kk hd hr hγ
   split at hd
   ·rename_i e1; subst e1; exact .inl ⟨rfl, hasB γ hγ⟩
   ·rename_i e1
    split at hd
    ·cases hd; cases hr
    ·rename_i e2'; exact .inr ⟨e1, e2', hd, (hasO d γ e1).1 hγ⟩
  rcases cl d kk hd hr hγ with ⟨q1, q2⟩ | ⟨q1, q2, q3, q4⟩ <;> rcases cl d' kk' hd' hr' hγ' with ⟨q1', q2'⟩ | ⟨q1', q2', q3', q4'⟩
  ·rw [q1, q1']
  ·rcases q2 with h | h
   ·exact (q1' (hs.at_inj d' b _ _ γ q3' hb hr' rfl q4' h)).elim
   ·exact (q2' (hs.at_inj d' c _ _ γ q3' hc hr' CY q4' h)).elim
  ·rcases q2' with h | h
   ·exact (q1 (hs.at_inj d b _ _ γ q3 hb hr rfl q4 h)).elim
   ·exact (q2 (hs.at_inj d c _ _ γ q3 hc hr CY q4 h)).elim
  ·exact hs.at_inj d d' kk kk' γ q3 q3' hr hr' q4 q4'
 ·have e1 : d ≠ b := fun e' => by rw [e', hbl] at hd; cases hd
  refine ⟨rfl, rfl, ?_⟩
  simp only [G', if_neg e1]
section run
variable {dr : Bool} {Q : St → Prop} {r i : Nat} {st : St} {log : List (Nat × CS)} {o : Oper} {gs : List (Operand × D)}
theorem VV {x : Operand} {b c e ix k s : Nat} {cols : List Ow} {rows : List (List T)} {row : List T} {u : T} {t : TypeId} (hat : At st.env ops i X.n (.load t x) s gs)
  (hx : opd st.env x = some (.e (.one (.eptr b e ix k)))) (ht : FA P t false = true) (hb : st.bx b = some (.hol e cols ix k c rows)) (hrow : rows[ix]? = some row) (hc : row[k]? = some u)
  (next : A6 P X ops dr Q r (i + 1) (CS.upd ⟨gs ++ [(x, .e (.one (.eptr b e ix k)))], [(b, .hol e cols ix k c rows)], some s, some (.e (.one (.own c))), [], []⟩ st) ((i, ⟨gs ++ [(x, .e (.one (.eptr b e ix k)))], [(b, .hol e cols ix k c rows)], some s, some (.e (.one (.own c))), [], []⟩) :: log)) : A6 P X ops dr Q (r + 1) i st log := by
 obtain ⟨o, ho, hop, hd, hn, hg, hgp⟩ := hat.out
 refine A6.step next ⟨Al.2 ⟨hgp, hx, trivial⟩, ⟨hb, trivial⟩, trivial⟩ (LR.value ho hg rfl hd.symm (Di hd hn) ?_)
 intro G st a w hs hpre
 have hx := (Al.1 hpre.r).2.1
 have hb := hpre.b.1
 obtain ⟨β, hβ, hv⟩ : Fe P w G (a.eval x) (.eptr b e ix k) := hs.opd hx
 obtain ⟨β', cap, arr, el, Rf, h0, h1, h2, h3, h4, h5, h6, h7, h8, h9, h10, h11⟩ := hs.blk b _ hb
 rw [hβ] at h0; cases h0
 have hre := h5 ix row hrow
 have hk := Ax hc
 have hix := Ax hrow
 have hbnd : ix * e + e ≤ arr.size := by rw [h4, ← Nat.succ_mul]; exact Nat.mul_le_mul_right e (Nat.le_trans hix h3)
 refine ⟨As arr (ix * e + k), w, G, ?_, hs, ?_⟩
 ·simp only [execOp, hop, hv]
  exact Ak (H3 ht h2 (by omega)) rfl
 ·rintro d ⟨⟩
  refine ⟨⟨h10, by rw [h10]; exact h11⟩, fun b' hb' => ?_⟩
  have : b' = c := by simpa [D.names, E.names, C.names] using hb'
  subst this
  exact hs.liveB b _ hb b' (by simp [Bt.names])
def Ye (bx : Nat → Option Bt) : C → Ow → T → Prop
 | .pure u, .s, t => u = t
 | .own c, .x e2 cols2, .sl rows2 => bx c = some (inner e2 cols2 rows2)
 | _, _, _ => False
def UP (bx : Nat → Option Bt) : Nat → List Ow → List C → List T → Prop
 | _, _, [], [] => True
 | j, cols, c :: cs, t :: ts => Ye bx c (cols.getD j .s) t ∧ UP bx (j + 1) cols cs ts
 | _, _, _, _ => False
def PE : Nat → List Ow → List C → List T → List (Nat × Bt)
 | j, cols, .own c :: cs, .sl rows2 :: ts => (match cols.getD j .s with | .x e2 cols2 => [(c, inner e2 cols2 rows2)] | .s => []) ++ PE (j + 1) cols cs ts
 | j, cols, _ :: cs, _ :: ts => PE (j + 1) cols cs ts
 | _, _, _, _ => []
theorem Qt {bx : Nat → Option Bt} {cols : List Ow} : ∀ {cs : List C} {ts : List T} {j0 : Nat}, UP bx j0 cols cs ts → cs.length = ts.length ∧ ∀ (j : Nat) (c : C) (t : T), cs[j]? = some c → ts[j]? = some t → Ye bx c (cols.getD (j0 + j) .s) t
 | [], [], _, _ => ⟨rfl, fun j c t h => by simp at h⟩
 | c :: cs, t :: ts, j0, h => by
  obtain ⟨g1, g2⟩ := Qt h.2
  refine ⟨by simp [g1], fun j c' t' hc ht => ?_⟩
  cases j with
  | zero => simp at hc ht; subst hc; subst ht; exact h.1
  | succ j =>
   have := g2 j c' t' (by simpa using hc) (by simpa using ht)
   rwa [show j0 + 1 + j = j0 + (j + 1) from by omega] at this
end run
end Go.Lift
namespace Go.Lift
open List renaming mem_of_getElem? → lM
open Go.RowKit
variable {P : Program} {X : Jm} {ops : Array Oper}
theorem XH {e : Nat} {arr : Array Value} {v : Value} (ha : arr.size = 1 * e) (hv : v.cells.size = e) :
  ∃ arr', Instr.fill (fun i => some (i * e, e)) arr [(0, v)] = some arr' ∧ arr'.size = 1 * e ∧ ∀ j, j < e → As arr' j = As v.cells j := by
 refine ⟨Fx arr 0 v.cells.toList, ?_, by rw [FU, ha], fun j hj => ?_⟩
 ·simp only [Instr.fill]
  rw [if_neg (by simp; omega), L7]
  simp
 ·rw [EK _ _ _ _ (by simp; omega), if_pos (by simp; omega), FE, Nat.sub_zero]
theorem WP {bx : Nat → Option Bt} {c : C} {o : Ow} {t : T} (h : Ye bx c o t) : (∃ u, c = .pure u ∧ o = .s ∧ t = u) ∨ ∃ b e2 cols2 rows2, c = .own b ∧ o = .x e2 cols2 ∧ t = .sl rows2 ∧ bx b = some (inner e2 cols2 rows2) := by
 cases c with
 | pure u =>
  cases o with
  | s => exact .inl ⟨u, rfl, rfl, h.symm⟩
  | x e cols => exact h.elim
 | own b =>
  cases o with
  | s => exact h.elim
  | x e cols =>
   cases t with
   | sl rows2 => exact .inr ⟨b, e, cols, rows2, rfl, rfl, rfl, h⟩
   | _ => exact h.elim
 | _ => cases o <;> exact h.elim
section run
variable {dr : Bool} {Q : St → Prop} {r i : Nat} {st : St} {log : List (Nat × CS)} {o : Oper} {gs : List (Operand × D)}
def DY : List C → List Nat
 | [] => []
 | .own c :: cs => c :: DY cs
 | _ :: cs => DY cs
theorem G8 {b : Nat} : ∀ {cs : List C}, b ∈ DY cs ↔ .own b ∈ cs
 | [] => by simp [DY]
 | c :: cs => by
  cases c <;> simp [DY, G8 (cs := cs)]
theorem OW : ∀ {cs : List C}, (DY cs).Nodup → ∀ (j j' b : Nat), cs[j]? = some (.own b) → cs[j']? = some (.own b) → j = j'
 | [], _, j, j', b, h, _ => by simp at h
 | c :: cs, hn, j, j', b, h, h' => by
  have hn2 : (DY cs).Nodup := by
   cases c <;> simp only [DY] at hn <;> first | exact hn | exact (List.nodup_cons.1 hn).2
  have hnot : c = .own b → .own b ∉ cs := fun e hm => by
   subst e
   simp only [DY] at hn
   exact (List.nodup_cons.1 hn).1 (G8.2 hm)
  cases j with
  | zero =>
   cases j' with
   | zero => rfl
   | succ j' =>
    simp at h h'
    exact (hnot h (lM h')).elim
  | succ j =>
   cases j' with
   | zero =>
    simp at h h'
    exact (hnot h' (lM h)).elim
   | succ j' =>
    rw [OW hn2 j j' b (by simpa using h) (by simpa using h')]
theorem IL {t el : TypeId} {s e : Nat} {z : Value} {y : Operand} {x : E} {cs : List C} {ts : List T} (cols : List Ow) (rb : List (Nat × Bt)) {parts : Array (Nat × Operand)} (hat : At st.env ops i X.n (.buildSlice t 1 parts) s gs) (hps : parts = #[(0, y)])
  (hx : opd st.env y = some (.e x)) (hcs : x.cells = cs) (hlen : cs.length = e) (hrb : PE 0 cols cs ts = rb) (hb : H6 st.bx rb) (hcx : UP st.bx 0 cols cs ts) (hnew : st.bx s = none)
  (hnd : I4 (DY cs) = true) (hnl : (DY cs).all (fun c => !Bl c) = true) (ht : sliceB P t el = true) (he : Hp P el e = true) (hz : ES P el = some z) (hsm : e ≤ 16777216)
  (next : A6 P X ops dr Q r (i + 1) (CS.upd ⟨gs ++ [(y, .e x)], rb, some s, some (.e (.one (.own s))), (s, .dvec e cols [ts]) :: Ha (DY cs), [s]⟩ st) ((i, ⟨gs ++ [(y, .e x)], rb, some s, some (.e (.one (.own s))), (s, .dvec e cols [ts]) :: Ha (DY cs), [s]⟩) :: log)) : A6 P X ops dr Q (r + 1) i st log := by
 obtain ⟨o, ho, hop, hdst, hn, hg, hgp⟩ := hat.out
 have hndp := IU hnd
 refine A6.step next ⟨Al.2 ⟨hgp, hx, trivial⟩, hb, hnew, trivial⟩ (LR.value ho hg rfl hdst.symm (Di hdst hn) ?_)
 have hcx0 := Qt hcx
 intro G st' a w hs hpre
 have hx := (Al.1 hpre.r).2.1
 have hnew := hpre.n.1
 have hb := hpre.b
 have hpb : ∀ {l : List (Nat × Bt)}, H6 st'.bx l → ∀ p, p ∈ l → st'.bx p.1 = some p.2 := by
  intro l
  induction l with
  | nil => intro _ p hp; cases hp
  | cons q l ih =>
   intro h p hp
   rcases List.mem_cons.1 hp with e | e
   ·subst e; exact h.1
   ·exact ih h.2 p e
 -- what each cell is, in this state
 have hown : ∀ (j : Nat) (c : C) (u : T), cs[j]? = some c → ts[j]? = some u → (∃ v, c = .pure v ∧ cols.getD j .s = .s ∧ u = v) ∨ ∃ b e2 cols2 rows2, c = .own b ∧ cols.getD j .s = .x e2 cols2 ∧ u = .sl rows2 ∧ st'.bx b = some (inner e2 cols2 rows2) := by
  intro j c u hc hu
  have h1 := hcx0.2 j c u hc hu
  rw [Nat.zero_add] at h1
  rcases WP h1 with h2 | ⟨b, e2, cols2, rows2, rfl, h3, rfl, _⟩
  ·exact .inl h2
  ·refine .inr ⟨b, e2, cols2, rows2, rfl, h3, rfl, ?_⟩
   have hmem : ∀ (cs : List C) (ts : List T) (j0 j : Nat), cs[j]? = some (.own b) → ts[j]? = some (.sl rows2) → cols.getD (j0 + j) .s = .x e2 cols2 → (b, inner e2 cols2 rows2) ∈ PE j0 cols cs ts := by
    intro cs
    induction cs with
    | nil => intro ts j0 j h; simp at h
    | cons c cs ih =>
     intro ts j0 j h h' hcol
     cases ts with
     | nil => simp at h'
     | cons t ts =>
      cases j with
      | zero =>
       simp at h h'; subst h; subst h'
       rw [Nat.add_zero] at hcol
       simp only [PE, hcol]
       exact List.mem_append_left _ (by simp)
      | succ j =>
       have := ih ts (j0 + 1) j (by simpa using h) (by simpa using h') (by rwa [show j0 + 1 + j = j0 + (j + 1) from by omega])
       cases c <;> first | (simp only [PE]; exact this) | (cases t <;> simp only [PE] <;> first | exact this | exact List.mem_append_right _ this)
   have := hmem cs ts 0 j hc hu (by rw [Nat.zero_add]; exact h3)
   rw [hrb] at this
   exact hpb hb _ this
 obtain ⟨hcsz, hcr⟩ := (show Jk P w G (a.eval y) x from hs.opd hx).cells
 rw [hcs] at hcsz hcr
 have hve : (a.eval y).cells.size = e := by rw [hcsz, hlen]
 have hgn : ∀ c, c ∈ DY cs → ∃ (j e2 : Nat) (cols2 : List Ow) (rows2 : List (List T)), cs[j]? = some (.own c) ∧ cols.getD j .s = .x e2 cols2 ∧ st'.bx c = some (inner e2 cols2 rows2) := by
  intro c hc
  obtain ⟨j, hj⟩ := List.mem_iff_getElem?.1 (G8.1 hc)
  have hjt : j < ts.length := by rw [← hcx0.1]; exact Ax hj
  rcases hown j _ ts[j] hj (by simp [hjt]) with ⟨v, h, _⟩ | ⟨b, e2, cols2, rows2, h1, h2, _, h4⟩
  ·cases h
  ·cases h1; exact ⟨j, e2, cols2, rows2, hj, h2, h4⟩
 have hs0 : s ∉ DY cs := fun hm => by
  obtain ⟨_, _, _, _, _, _, h⟩ := hgn s hm
  rw [hnew] at h; cases h
 obtain ⟨arr', r1, r2, r3⟩ := XH (e := e) (arr := (Array.range (1 * e)).map (fun k => (if 1 * e = 0 then (#[] : Array Value) else z.cells)[k % (if 1 * e = 0 then (#[] : Array Value) else z.cells).size]!)) (v := a.eval y) (by simp) hve
 let w' := w.alloc (.cells arr' el)
 let G' : Gh := { S := G.S, loc := fun c => if c = s then some w.heap.size else G.loc c, hd := fun c => if c = s then .slice (some ⟨w.heap.size, 0, none⟩) 1 1 else G.hd c, more := fun c => if c = s then (fun γ => ∃ b, b ∈ DY cs ∧ G.has b γ) else G.more c }
 have hheap : ∀ γ, γ < w.heap.size → w'.heap[γ]? = w.heap[γ]? := fun γ hγ => by show (w.alloc _).heap[γ]? = _; rw [Dl, if_neg (by omega)]
 have hatw : w'.heap[w.heap.size]? = some (.cells arr' el) := by show (w.alloc _).heap[_]? = _; rw [Dl, if_pos rfl]
 have hsz : w'.heap.size = w.heap.size + 1 := by show (w.heap.push _).size = _; simp
 have hbx : ∀ d, Ba st'.bx ((s, .dvec e cols [ts]) :: Ha (DY cs)) d = if d = s then some (.dvec e cols [ts]) else if d ∈ DY cs then some .gone else st'.bx d := fun d => by
  simp only [Ba]; split
  ·rfl
  ·exact LQ
 have hsome : ∀ c, (st'.bx c).isSome = true → c ≠ s := fun c hc e => by rw [e, hnew] at hc; cases hc
 have hasO : ∀ d γ, d ≠ s → (G'.has d γ ↔ G.has d γ) := fun d γ h => by unfold Gh.has; simp only [G', if_neg h]
 have hasS : ∀ γ, G'.has s γ → γ = w.heap.size ∨ ∃ b, b ∈ DY cs ∧ G.has b γ := fun γ h => by
  unfold Gh.has at h
  simp only [G', if_true] at h
  rcases h with h | h
  ·cases h; exact .inl rfl
  ·exact .inr h
 have hlt : ∀ b γ, b ∈ DY cs → G.has b γ → PY X b γ ∧ γ < w.heap.size ∧ ¬ G.S γ := fun b γ hbm hγ => by
  obtain ⟨_, _, _, _, _, _, h⟩ := hgn b hbm
  exact hs.at_ok b _ γ h CY hγ
 have hcsj : ∀ (j : Nat) (c : C), cs[j]? = some c → Fe P w G (As (a.eval y).cells j) c := hcr
 have key : Dy P X G' ⟨st'.env, Ba st'.bx ((s, .dvec e cols [ts]) :: Ha (DY cs))⟩ a w' := by
  refine hs.frame2 (fun d hd => ?_) (fun _ h => h) (fun c hc => by simp only [G']; rw [if_neg (hsome c hc)]) (fun c hc => by simp only [G']; rw [if_neg (hsome c hc)]) (fun γ hγ => hheap γ (hs.S_lt γ hγ)) ?_ ?_ ?_ (fun γ hγ => by have := hs.S_lt γ hγ; omega) hs.S_src (hs.below.alloc hs.below.size _) (fun d hd => ?_)
  ·rw [hbx]; split
   ·rfl
   ·split
    ·rfl
    ·exact hd
  ·intro d kk hd
   rw [hbx] at hd
   split at hd
   ·rename_i e1; subst e1; cases hd
    refine .inr ⟨.inr ⟨w.heap.size, 1, arr', el, fun i0 j0 γ => i0 = 0 ∧ ∃ b, cs[j0]? = some (.own b) ∧ G.has b γ, by simp [G'], by simp [G'], hatw, by simp, r2, ?_, ?_, ?_, ?_, ?_⟩, fun c' hc' => by cases hc'⟩
    ·intro i0 row hi
     cases i0 with
     | zero => simp at hi; subst hi; rw [← hcx0.1, hlen]
     | succ i0 => simp at hi
    ·intro i0 row j0 t0 hi hj
     cases i0 with
     | succ i0 => simp at hi
     | zero =>
      simp at hi; subst hi
      have hj0 : j0 < cs.length := by rw [hcx0.1]; exact Ax hj
      have hcj : cs[j0]? = some cs[j0] := by simp [hj0]
      rw [Nat.zero_mul, Nat.zero_add, r3 j0 (by omega)]
      have hR := hcsj j0 _ hcj
      rcases hown j0 _ t0 hcj hj with ⟨v, h1, h2, h3⟩ | ⟨b, e2, cols2, rows2, h1, h2, h3, h4⟩
      ·rw [h2, h3]
       rw [h1] at hR
       exact .s ((show D7 w G.S _ v from hR).mono (fun γ hγ => hheap γ (hs.S_lt γ hγ)) fun _ h => h)
      ·rw [h2, h3]
       rw [h1] at hR hcj
       have hvv : As (a.eval y).cells j0 = G.hd b := hR.1
       rw [hvv]
       refine (NL (hs.blk b _ h4)).mono (fun γ hγ => hheap γ ?_) (fun _ h => h) (fun γ hγ => ⟨rfl, b, hcj, hγ⟩)
       rcases hγ with h | h
       ·exact hs.S_lt γ h
       ·exact (hs.at_ok b _ γ h4 CY h).2.1
    ·rintro i0 j0 γ ⟨_, b, hcb, hγ⟩
     simp only [G', if_true]
     exact ⟨b, G8.2 (lM hcb), hγ⟩
    ·rintro i0 j0 ⟨_, b, hcb, hγ⟩
     exact Nat.lt_irrefl _ (hlt b _ (G8.2 (lM hcb)) hγ).2.1
    ·rintro i0 j0 i1 j1 γ ⟨q0, b, hcb, hγ⟩ ⟨q1, b', hcb', hγ'⟩
     refine ⟨q0.trans q1.symm, ?_⟩
     obtain ⟨_, _, _, _, _, _, k1⟩ := hgn b (G8.2 (lM hcb))
     obtain ⟨_, _, _, _, _, _, k2⟩ := hgn b' (G8.2 (lM hcb'))
     have := hs.at_inj b b' _ _ γ k1 k2 CY CY hγ hγ'
     subst this
     exact OW hndp _ _ b hcb hcb'
   ·rename_i e1
    split at hd
    ·cases hd; exact .inr ⟨trivial, fun c' hc' => by cases hc'⟩
    ·exact .inl ⟨hd, by simp only [G', if_neg e1], fun γ hr hγ => hheap γ (hs.at_ok d kk γ hd hr hγ).2.1⟩
  ·intro d kk γ hd hr hγ
   rw [hbx] at hd
   split at hd
   ·rename_i e1; subst e1
    rcases hasS γ hγ with h | ⟨b, hbm, h⟩
    ·subst h
     exact ⟨.new hs.below.size, by omega, fun h => Nat.lt_irrefl _ (hs.S_lt _ h)⟩
    ·have := hlt b γ hbm h
     have hbl : Bl b = false := by
      have := List.all_eq_true.1 hnl b hbm
      simpa using this
     exact ⟨.new (this.1.1 hbl), by omega, this.2.2⟩
   ·rename_i e1
    split at hd
    ·cases hd; cases hr
    ·have := hs.at_ok d kk γ hd hr ((hasO d γ e1).1 hγ)
     exact ⟨this.1, by omega, this.2.2⟩
  ·intro d d' kk kk' γ hd hd' hr hr' hγ hγ'
   rw [hbx] at hd hd'
   have cl : ∀ d kk, (if d = s then some (Bt.dvec e cols [ts]) else if d ∈ DY cs then some .gone else st'.bx d) = some kk → kk.real = true → G'.has d γ → (d = s ∧ (γ = w.heap.size ∨ ∃ b, b ∈ DY cs ∧ G.has b γ)) ∨ (d ≠ s ∧ d ∉ DY cs ∧ st'.bx d = some kk ∧ G.has d γ) := by
    intro d kk hd hr hγ
    split at hd
    ·rename_i e1; subst e1; exact .inl ⟨rfl, hasS γ hγ⟩
    ·rename_i e1
     split at hd
     ·cases hd; cases hr
     ·rename_i e2'; exact .inr ⟨e1, e2', hd, (hasO d γ e1).1 hγ⟩
   have cross : ∀ d kk, d ∉ DY cs → st'.bx d = some kk → kk.real = true → G.has d γ → (γ = w.heap.size ∨ ∃ b, b ∈ DY cs ∧ G.has b γ) → False := by
    intro d kk hdm hd hr hγ h
    rcases h with h | ⟨b, hbm, h⟩
    ·have := (hs.at_ok d kk γ hd hr hγ).2.1; omega
    ·obtain ⟨_, _, _, _, _, _, k1⟩ := hgn b hbm
     exact hdm (hs.at_inj d b _ _ γ hd k1 hr CY hγ h ▸ hbm)
   rcases cl d kk hd hr hγ with ⟨q1, q2⟩ | ⟨q1, q2, q3, q4⟩ <;> rcases cl d' kk' hd' hr' hγ' with ⟨q1', q2'⟩ | ⟨q1', q2', q3', q4'⟩
   ·rw [q1, q1']
   ·exact (cross d' kk' q2' q3' hr' q4' q2).elim
   ·exact (cross d kk q2 q3 hr q4 q2').elim
   ·exact hs.at_inj d d' kk kk' γ q3 q3' hr hr' q4 q4'
  ·have e1 : d ≠ s := fun e' => by rw [e', hs.nl hn] at hd; cases hd
   refine ⟨?_, ?_, ?_⟩ <;> simp only [G', if_neg e1]
 refine ⟨.slice (some ⟨w.heap.size, 0, none⟩) 1 1, w', G', ?_, key, ?_⟩
 ·simp only [execOp, hop, hps]
  refine Ak (w1 := w') (a := .slice (some ⟨w.heap.size, 0, none⟩) 1 1) ?_ rfl
  have hpa : ((#[(0, y)] : Array (Nat × Operand)).map fun (i, x) => (i, a.eval x)) = #[(0, a.eval y)] := by simp
  unfold sliceB at ht
  split at ht
  ·rename_i e' hu
   have : e' = el := by simpa using ht
   subst this
   rw [hpa]
   unfold Instr.buildSlice
   refine Ak (AL hu w) ?_
   refine Ak (D8 he w) ?_
   rw [if_neg (by omega)]
   by_cases hne : 1 * e = 0
   ·rw [if_pos hne] at r1
    rw [if_pos hne]
    refine Ak (a := (#[] : Array Value)) (w1 := w) rfl ?_
    simp only [r1]
    rfl
   ·rw [if_neg hne] at r1
    rw [if_neg hne]
    refine Ak (FB hz w) ?_
    refine Ak (a := z.cells) (w1 := w) rfl ?_
    simp only [r1]
    rfl
  ·cases ht
 ·rintro d ⟨⟩
  refine ⟨⟨by simp [G'], _, _, _, rfl⟩, fun b hb => ?_⟩
  have : b = s := by simpa [D.names, E.names, C.names] using hb
  subst this
  rw [hbx, if_pos rfl]; rfl
end run
end Go.Lift
namespace Go.Lift
open Go.RowKit
variable {P : Program} {X : Jm} {ops : Array Oper}
theorem Pl {α : Type} (f : α → List T) (xs : List α) (n e : Nat) (cols : List Ow) : vl (.pvec n e cols (xs.map f)) = some (e, xs.length) := by simp [vl]
theorem Pv {st : St} (b : Nat) (k k' : Bt) (hb : st.bx b = some k) (hr : k.real = true) (hn : k'.names = []) (h : ∀ (w : World) (G : Gh), EY P w G b k → EY P w G b k') : Gl P X st (St.setB st b k') := by
 rintro a w ⟨G, hs⟩
 refine ⟨G, hs.frame (bx' := (St.setB st b k').bx) ?_ ⟨fun _ h => h, fun _ _ => rfl, fun _ _ => rfl, fun _ _ => rfl⟩ (fun _ _ => rfl) ?_ ?_ ?_ hs.S_lt hs.S_src hs.below (fun _ _ => ⟨rfl, rfl, rfl⟩)⟩
 ·intro c hc; simp only [St.setB]; split <;> simp [hc]
 ·intro c kk hc
  simp only [St.setB] at hc
  split at hc
  ·rename_i e1; subst e1; cases hc
   exact .inr ⟨h w G (hs.blk c _ hb), fun c' hc' => by rw [hn] at hc'; cases hc'⟩
  ·exact .inl ⟨hc, fun _ _ _ => rfl⟩
 ·intro c kk β hc hr' hβ
  simp only [St.setB] at hc
  split at hc
  ·rename_i e1; subst e1; exact hs.at_ok _ _ β hb hr hβ
  ·exact hs.at_ok c kk β hc hr' hβ
 ·intro c c' kk kk' β hc hc' hr1 hr2 hβ hβ'
  simp only [St.setB] at hc hc'
  have old : ∀ c kk, (if c = b then some k' else st.bx c) = some kk → kk.real = true → ∃ k0, st.bx c = some k0 ∧ k0.real = true := by
   intro c kk hc hr'
   split at hc
   ·rename_i e1; subst e1; exact ⟨_, hb, hr⟩
   ·exact ⟨kk, hc, hr'⟩
  obtain ⟨k0, q1, q2⟩ := old c kk hc hr1
  obtain ⟨k0', q1', q2'⟩ := old c' kk' hc' hr2
  exact hs.at_inj c c' k0 k0' β q1 q1' q2 q2' hβ hβ'
theorem T1 {st : St} (b e : Nat) (cols : List Ow) (rows : List (List T)) (hb : st.bx b = some (.vec e rows)) : Gl P X st (St.setB st b (.pvec 0 e cols rows)) :=
 Pv b _ _ hb rfl rfl fun _ _ h => ⟨Nat.zero_le _, h.imp id fun ⟨β, cap, arr, el, h0, h1, h2, h3, h4, h5, h6⟩ =>
  ⟨β, cap, arr, el, fun _ _ _ => False, h0, h1, h2, h3, h4, h5, fun i row j t hi hj => by rw [if_neg (by omega)]; exact .s (h6 i row j t hi hj), fun _ _ _ h => h.elim, fun _ _ h => h, fun _ _ _ _ _ h => h.elim⟩⟩
theorem Ur {st : St} (b : Nat) {n m e : Nat} {cols : List Ow} {rows : List (List T)} (hb : st.bx b = some (.pvec n e cols rows)) (h : n = m) : Gl P X st (St.setB st b (.pvec m e cols rows)) :=
 Pv b _ _ hb rfl rfl fun _ _ hk => h ▸ hk
theorem UB {st : St} (b : Nat) {n e : Nat} {cols : List Ow} {rows : List (List T)} (hb : st.bx b = some (.pvec n e cols rows)) (h : n = rows.length) : Gl P X st (St.setB st b (.dvec e cols rows)) :=
 Pv b _ _ hb rfl rfl fun _ _ hk => by
  obtain ⟨_, hk⟩ := hk
  refine hk.imp id fun ⟨β, cap, arr, el, Rf, h0, h1, h2, h3, h4, h5, h6, h7⟩ => ⟨β, cap, arr, el, Rf, h0, h1, h2, h3, h4, h5, fun i row j t hi hj => ?_, h7⟩
  have := h6 i row j t hi hj
  rwa [if_pos (by rw [h]; exact Ax hi)] at this
section run
variable {dr : Bool} {Q : St → Prop} {r i : Nat} {st : St} {log : List (Nat × CS)} {o : Oper} {gs : List (Operand × D)}
theorem TR {x : Operand} {b n e ix k s : Nat} {cols : List Ow} {rows : List (List T)} {row : List T} {u : T} {t : TypeId} (hat : At st.env ops i X.n (.load t x) s gs)
  (hx : opd st.env x = some (.e (.one (.eptr b e ix k)))) (ht : FA P t false = true) (hb : st.bx b = some (.pvec n e cols rows)) (hrow : rows[ix]? = some row) (hc : row[k]? = some u) (hn : n ≤ ix)
  (next : A6 P X ops dr Q r (i + 1) (CS.upd ⟨gs ++ [(x, .e (.one (.eptr b e ix k)))], [(b, .pvec n e cols rows)], some s, some (one u), [], []⟩ st) ((i, ⟨gs ++ [(x, .e (.one (.eptr b e ix k)))], [(b, .pvec n e cols rows)], some s, some (one u), [], []⟩) :: log)) : A6 P X ops dr Q (r + 1) i st log := by
 obtain ⟨o, ho, hop, hd, hn', hg, hgp⟩ := hat.out
 refine A6.step next ⟨Al.2 ⟨hgp, hx, trivial⟩, ⟨hb, trivial⟩, trivial⟩ (LR.value ho hg rfl hd.symm (Di hd hn') ?_)
 intro G st a w hs hpre
 have hx := (Al.1 hpre.r).2.1
 have hb := hpre.b.1
 obtain ⟨β, hβ, hv⟩ : Fe P w G (a.eval x) (.eptr b e ix k) := hs.opd hx
 obtain ⟨_, hbk⟩ := hs.blk b _ hb
 obtain ⟨β', cap, arr, el, Rf, h0, h1, h2, h3, h4, h5, h6, h7⟩ := hbk.resolve_left (fun ⟨_, _, h, _⟩ => by rw [h] at hrow; cases hrow)
 rw [hβ] at h0; cases h0
 have hre := h5 ix row hrow
 have hk := Ax hc
 have hix := Ax hrow
 have hbnd : ix * e + e ≤ arr.size := by rw [h4, ← Nat.succ_mul]; exact Nat.mul_le_mul_right e (Nat.le_trans hix h3)
 have hcell := h6 ix row k u hrow hc
 rw [if_neg (by omega)] at hcell
 refine ⟨As arr (ix * e + k), w, G, ?_, hs, ?_⟩
 ·simp only [execOp, hop, hv]
  exact Ak (H3 ht h2 (by omega)) rfl
 ·rintro d ⟨⟩
  cases hcell with
  | s h => exact ⟨h, fun b hb => by cases hb⟩
theorem Rb {x y : Operand} {b c n ix e2 : Nat} {cols cols2 : List Ow} {rows rows2 rows' : List (List T)} {row : List T} {t : TypeId} (hat : QZ ops i = some (.store t x y))
  (hx : opd st.env x = some (.e (.one (.eptr b 1 ix 0)))) (hy : opd st.env y = some (.e (.one (.own c)))) (hb : st.bx b = some (.pvec n 1 cols rows)) (hc : st.bx c = some (inner e2 cols2 rows2)) (hcol : cols.getD 0 .s = .x e2 cols2) (hrow : rows[ix]? = some row) (hixn : n = ix) (hz : Hp P t 1 = true)
  (hbl : Bl b = false) (hcl : Bl c = false) (hr : rows.set ix (row.set 0 (.sl rows2)) = rows')
  (next : A6 P X ops dr Q r (i + 1) (CS.upd ⟨[(x, .e (.one (.eptr b 1 ix 0))), (y, .e (.one (.own c)))], [(b, .pvec n 1 cols rows), (c, inner e2 cols2 rows2)], none, none, [(b, .pvec (n + 1) 1 cols rows'), (c, .gone)], []⟩ st) ((i, ⟨[(x, .e (.one (.eptr b 1 ix 0))), (y, .e (.one (.own c)))], [(b, .pvec n 1 cols rows), (c, inner e2 cols2 rows2)], none, none, [(b, .pvec (n + 1) 1 cols rows'), (c, .gone)], []⟩) :: log)) : A6 P X ops dr Q (r + 1) i st log := by
 obtain ⟨o, ho, hop, hd, hgn⟩ := L1 hat
 have hg : W7 ops o [] := .none hgn
 have hcb : c ≠ b := fun e' => by rw [e', hb] at hc; unfold inner at hc; split at hc <;> cases hc
 refine A6.step next ⟨⟨hx, hy, trivial⟩, ⟨hb, hc, trivial⟩, trivial⟩ (LR.skip (rs := [(x, .e (.one (.eptr b 1 ix 0))), (y, .e (.one (.own c)))]) ho hg rfl hd rfl ?_)
 intro G st a w hs hpre
 obtain ⟨hx, hy, _⟩ := hpre.r
 obtain ⟨hb, hc, _⟩ := hpre.b
 subst hr
 obtain ⟨β, hβ, hv⟩ : Fe P w G (a.eval x) (.eptr b 1 ix 0) := hs.opd hx
 obtain ⟨hy1, pp, pn, pq, hy2⟩ : Fe P w G (a.eval y) (.own c) := hs.opd hy
 obtain ⟨hnl, hbk⟩ := hs.blk b _ hb
 obtain ⟨β', cap, arr, el, Rf, h0, h1, h2, h3, h4, h5, h6, h7, h8, h9⟩ := hbk.resolve_left (fun ⟨_, _, h, _⟩ => by rw [h] at hrow; cases hrow)
 rw [hβ] at h0; cases h0
 subst hixn
 have hX := NL (hs.blk c _ hc)
 have hatb := hs.at_ok b _ β hb rfl (.inl hβ)
 have hre := h5 n row hrow
 have hix := Ax hrow
 have hbnd : n * 1 + 1 ≤ arr.size := by rw [h4, ← Nat.succ_mul]; exact Nat.mul_le_mul_right 1 (Nat.le_trans hix h3)
 have hone : HB (a.eval y) = true := by rw [hy2]; rfl
 have hst := Ey (P := P) (β := β) (el := el) [a.eval y] w (n * 1 + 0) 0 arr h2 (by simp; omega) (fun v hv => by simp at hv; subst hv; exact hone)
 rw [Nat.add_zero] at hst
 let G' : Gh := { G with more := fun d => if d = b then (fun γ => G.more b γ ∨ G.has c γ) else G.more d }
 let arr' := Fx arr (n * 1 + 0) [a.eval y]
 let w' := FZ w β (.cells arr' el (0, 0))
 have hover : ∀ j, As arr' j = if j = n * 1 + 0 then a.eval y else As arr j := fun j => by
  show As (Fx arr (n * 1 + 0) [a.eval y]) j = _
  rw [EK _ _ _ _ (by simp; omega)]
  simp only [List.length_singleton]
  by_cases hj : j = n * 1 + 0
  ·subst hj; rw [if_pos (by omega), if_pos rfl]; simp
  ·rw [if_neg (by omega), if_neg hj]
 have hheap : ∀ γ, γ ≠ β → w'.heap[γ]? = w.heap[γ]? := fun γ hγ => by show (FZ w β _).heap[γ]? = _; rw [DK, if_neg (fun h => hγ h.1)]
 have hsz : w'.heap.size = w.heap.size := by show (FZ w β _).heap.size = _; simp [FZ]
 have hcβ : ∀ γ, G.has c γ → γ ≠ β := fun γ h e' => hcb (hs.at_inj c b _ _ γ hc hb CY rfl h (.inl (e' ▸ hβ)))
 have hbx : ∀ d, Ba st.bx [(b, .pvec (n + 1) 1 cols (rows.set n (row.set 0 (.sl rows2)))), (c, .gone)] d = if d = b then some (.pvec (n + 1) 1 cols (rows.set n (row.set 0 (.sl rows2)))) else if d = c then some .gone else st.bx d := fun d => rfl
 have hasO : ∀ d γ, d ≠ b → (G'.has d γ ↔ G.has d γ) := fun d γ h => by unfold Gh.has; simp only [G', if_neg h]
 have hasB : ∀ γ, G'.has b γ → G.has b γ ∨ G.has c γ := fun γ h => by
  unfold Gh.has at h
  simp only [G', if_true] at h
  rcases h with h | h | h
  ·exact .inl (.inl h)
  ·exact .inl (.inr h)
  ·exact .inr h
 have hix2 : ∀ i0 j0, j0 < 1 → i0 * 1 + j0 = n * 1 + 0 → i0 = n ∧ j0 = 0 := by
  intro i0 j0 hj0 he
  rcases Nat.lt_trichotomy i0 n with h | h | h
  ·have : i0 * 1 + 1 ≤ n * 1 := by rw [← Nat.succ_mul]; exact Nat.mul_le_mul_right 1 h
   omega
  ·subst h; exact ⟨rfl, by omega⟩
  ·have : n * 1 + 1 ≤ i0 * 1 := by rw [← Nat.succ_mul]; exact Nat.mul_le_mul_right 1 h
   omega
 refine ⟨w', G', ?_, ?_⟩
 ·simp only [execOp, hop, hv]
  have hcells : (a.eval y).cells.toList = [a.eval y] := by rw [hy2]; rfl
  refine Ak (a := ()) (w1 := w') ?_ rfl
  have := Kf (P := P) (n := 1) hz (v := a.eval y) (by rw [hy2]; rfl) h2 (show n * 1 + 0 + 1 ≤ arr.size by omega) (fun u hu => by rw [hcells] at hu; simp at hu; subst hu; exact hone)
  rw [hcells] at this
  exact this
 ·refine hs.frame2 (fun d hd => ?_) (fun _ h => h) (fun _ _ => rfl) (fun _ _ => rfl) (fun γ hγ => hheap γ fun e' => hatb.2.2 (e' ▸ hγ)) ?_ ?_ ?_ (fun γ hγ => by rw [hsz]; exact hs.S_lt γ hγ) hs.S_src (JE hs.below hatb.1.2 _) (fun d hd => ?_)
  ·rw [hbx]; split
   ·rfl
   ·split
    ·rfl
    ·exact hd
  ·intro d kk hd
   rw [hbx] at hd
   split at hd
   ·rename_i e1; subst e1; cases hd
    refine .inr ⟨⟨by rw [List.length_set]; exact Ax hrow, .inr ⟨β, cap, arr', el, fun i0 j0 γ => if i0 = n ∧ j0 = 0 then G.has c γ else Rf i0 j0 γ, hβ, by rw [List.length_set]; exact h1, by show (FZ w β _).heap[β]? = _; rw [DK, if_pos ⟨rfl, hatb.2.1⟩], by rw [List.length_set]; exact h3, by show (Fx _ _ _).size = _; rw [FU, h4], ?_, ?_, ?_, ?_, ?_⟩⟩, fun c' hc' => by cases hc'⟩
    ·intro j0 row' hj
     rcases ER hj with ⟨_, rfl⟩ | ⟨_, hj⟩
     ·rw [List.length_set]; exact hre
     ·exact h5 j0 row' hj
    ·intro i0 row' j0 t0 hi hj
     have hj0 : j0 < 1 := by
      have := Ax hj
      rcases ER hi with ⟨_, rfl⟩ | ⟨_, hi⟩
      ·rw [List.length_set] at this; omega
      ·have := h5 i0 row' hi; omega
     rw [hover]
     by_cases hh : i0 = n ∧ j0 = 0
     ·obtain ⟨rfl, rfl⟩ := hh
      rw [if_pos rfl, hcol]
      have ht0 : t0 = .sl rows2 := by
       rcases ER hi with ⟨_, rfl⟩ | ⟨hne, _⟩
       ·rcases ER hj with ⟨_, rfl⟩ | ⟨hne, _⟩
        ·rfl
        ·exact (hne rfl).elim
       ·exact (hne rfl).elim
      subst ht0
      rw [hy1, if_pos (Nat.lt_succ_self _)]
      refine hX.mono (fun γ hγ => hheap γ ?_) (fun _ h => h) (fun γ hγ => by simp only [and_self, if_true]; exact hγ)
      rcases hγ with h | h
      ·exact fun e' => hatb.2.2 (e' ▸ h)
      ·exact hcβ γ h
     ·rw [if_neg (fun h => hh (hix2 i0 j0 hj0 h))]
      have hold : ∃ row0, rows[i0]? = some row0 ∧ row0[j0]? = some t0 := by
       rcases ER hi with ⟨hii, rfl⟩ | ⟨_, hi⟩
       ·subst hii
        rcases ER hj with ⟨hjj, _⟩ | ⟨_, hj⟩
        ·exact (hh ⟨rfl, hjj⟩).elim
        ·exact ⟨row, hrow, hj⟩
       ·exact ⟨row', hi, hj⟩
      obtain ⟨row0, q1, q2⟩ := hold
      have hne : i0 ≠ n := fun e' => hh ⟨e', by omega⟩
      have hif : (if i0 < n + 1 then cols.getD j0 .s else .s) = if i0 < n then cols.getD j0 .s else .s := by
       by_cases hl : i0 < n
       ·rw [if_pos hl, if_pos (by omega)]
       ·rw [if_neg hl, if_neg (by omega)]
      rw [hif]
      refine (h6 i0 row0 j0 t0 q1 q2).mono (fun γ hγ => hheap γ ?_) (fun _ h => h) (fun γ hγ => by simp only [if_neg hh]; exact hγ)
      rcases hγ with h | h
      ·exact fun e' => hatb.2.2 (e' ▸ h)
      ·exact fun e' => h8 i0 j0 (e' ▸ h)
    ·intro i0 j0 γ hγ
     simp only [G', if_true]
     split at hγ
     ·exact .inr hγ
     ·exact .inl (h7 i0 j0 γ hγ)
    ·intro i0 j0 hγ
     split at hγ
     ·exact hcβ β hγ rfl
     ·exact h8 i0 j0 hγ
    ·intro i0 j0 i1 j1 γ hγ hγ'
     have cross : ∀ i j, Rf i j γ → G.has c γ → False := fun i j hr hh => hcb (hs.at_inj c d _ _ γ hc hb CY rfl hh (.inr (h7 i j γ hr)))
     split at hγ <;> split at hγ'
     ·rename_i q q'; exact ⟨q.1.trans q'.1.symm, q.2.trans q'.2.symm⟩
     ·exact (cross _ _ hγ' hγ).elim
     ·exact (cross _ _ hγ hγ').elim
     ·exact h9 i0 j0 i1 j1 γ hγ hγ'
   ·rename_i e1
    split at hd
    ·cases hd; exact .inr ⟨trivial, fun c' hc' => by cases hc'⟩
    ·rename_i e2'
     refine .inl ⟨hd, by simp only [G', if_neg e1], fun γ hr hγ => hheap γ fun e' => e1 (hs.at_inj d b kk _ γ hd hb hr rfl hγ (.inl (e' ▸ hβ)))⟩
  ·intro d kk γ hd hr hγ
   rw [hbx] at hd
   rw [hsz]
   split at hd
   ·rename_i e1; subst e1
    rcases hasB γ hγ with h | h
    ·exact hs.at_ok d _ γ hb rfl h
    ·have := hs.at_ok c _ γ hc CY h
     exact ⟨.new (this.1.1 hcl), this.2⟩
   ·rename_i e1
    split at hd
    ·cases hd; cases hr
    ·exact hs.at_ok d kk γ hd hr ((hasO d γ e1).1 hγ)
  ·intro d d' kk kk' γ hd hd' hr hr' hγ hγ'
   rw [hbx] at hd hd'
   have cl : ∀ d kk, (if d = b then some (Bt.pvec (n + 1) 1 cols (rows.set n (row.set 0 (.sl rows2)))) else if d = c then some .gone else st.bx d) = some kk → kk.real = true → G'.has d γ → (d = b ∧ (G.has b γ ∨ G.has c γ)) ∨ (d ≠ b ∧ d ≠ c ∧ st.bx d = some kk ∧ G.has d γ) := by
    intro d kk hd hr hγ
    split at hd
    ·rename_i e1; subst e1; exact .inl ⟨rfl, hasB γ hγ⟩
    ·rename_i e1
     split at hd
     ·cases hd; cases hr
     ·rename_i e2'; exact .inr ⟨e1, e2', hd, (hasO d γ e1).1 hγ⟩
   rcases cl d kk hd hr hγ with ⟨q1, q2⟩ | ⟨q1, q2, q3, q4⟩ <;> rcases cl d' kk' hd' hr' hγ' with ⟨q1', q2'⟩ | ⟨q1', q2', q3', q4'⟩
   ·rw [q1, q1']
   ·rcases q2 with h | h
    ·exact (q1' (hs.at_inj d' b _ _ γ q3' hb hr' rfl q4' h)).elim
    ·exact (q2' (hs.at_inj d' c _ _ γ q3' hc hr' CY q4' h)).elim
   ·rcases q2' with h | h
    ·exact (q1 (hs.at_inj d b _ _ γ q3 hb hr rfl q4 h)).elim
    ·exact (q2 (hs.at_inj d c _ _ γ q3 hc hr CY q4 h)).elim
   ·exact hs.at_inj d d' kk kk' γ q3 q3' hr hr' q4 q4'
  ·have e1 : d ≠ b := fun e' => by rw [e', hbl] at hd; cases hd
   refine ⟨rfl, rfl, ?_⟩
   simp only [G', if_neg e1]
end run
theorem Y6 {α : Type} {f : α → List T} {xs : List α} {b e len : Nat} {bs : List (Nat × Bt)} {l l' : List D} (h : 0 + len ≤ xs.length) (hb : lent bs b = some (xs.map f)) (h2 : l.map (fun d => (d.lend bs).nrm) = l') :
  (D.e (.one (.view b e 0 len)) :: l).map (fun d => (d.lend bs).nrm) = .e (.one (.pure (.sl ((xs.take len).map f)))) :: l' := by
 rw [List.map_cons, h2, Ve h bs hb]; rfl
theorem Y4 {d : D} {bs : List (Nat × Bt)} {l l' : List D} (h2 : l.map (fun d => (d.lend bs).nrm) = l') : (d :: l).map (fun d => (d.lend bs).nrm) = (d.lend bs).nrm :: l' := by
 rw [List.map_cons, h2]
end Go.Lift
namespace Go.Lift
open Go.RowKit
variable {P : Program} {X : Jm}
theorem Bc {α : Type} {c : Operand} {x y : Code} {Q : Exit → St → Prop} {st : St} {b : Bool} {e1 e2 : Option α} {v : α} (h : AR b e1 e2 = some v) (ht : e1 = some v → W P X x Q st) (hf : e2 = some v → W P X y Q st) (hc : opd st.env c = some (bD b) := by exact rfl) : W P X (.cond c x y) Q st :=
 ck hc (fun k => ht (aM k h)) (fun k => hf (az k h))
theorem EO {ops : Array Oper} {dr : Bool} {Q : St → Prop} {r i : Nat} {st : St} {log : List (Nat × CS)} {α : Type} {b : Bool} {e1 e2 : Option α} {v : α} (t : Nat) (h : AR b e1 e2 = some v) (hx : st.env t = some (bD b)) (h1 : e1 = some v → A6 P X ops dr Q r i (St.put st (some t) (some (bD true))) log) (h2 : e2 = some v → A6 P X ops dr Q r i (St.put st (some t) (some (bD false))) log) : A6 P X ops dr Q r i st log :=
 Zq hx (fun k => h1 (aM k h)) (fun k => h2 (az k h))
theorem sn {V R : Type} {J : V → Option R} {r : R} {S : V → St} {s : St} {v : V} {el : List (Nat × D)} {bl : List (Nat × Bt)} (l : List (Nat × Nat)) (h : J v = some r) (e : S v = mk el bl := by exact rfl) (h1 : (cG s.env el, da (rn l) s.bx bl) = (dx (rn l) el, ej (rn l) bl) := by exact rfl) (h2 : ((I4 ((Ge bl).map (rn l)) && Ob (rn l) (Ge bl)) && (Q4 (Ge bl) el && RD (Ge bl) bl)) = true := by exact rfl) : ∃ v, J v = some r ∧ Gl P X s (S v) :=
 ⟨v, h, e ▸ sm l el bl h1 h2⟩
theorem fA {y : Code} {id : Nat} {ops : Array Oper} {dr : Bool} {Q : Exit → St → Prop} {st : St} {n : Nat} (hm : P.follows .mixedOrders = true) (hn : ops.size = n)
  (h : A6 P X ops dr (fun st' => W P X y Q st') n 0 st []) : W P X (.seq (.region id ops dr) y) Q st :=
 AQ (Aj hm hn h)
theorem BK {G : Prop} {α β : Type} {xs : List α} {i : Int} {f : α → Option β} {r : β} (h : (Br xs i).bind f = some r) (k : ∀ x, 0 ≤ i → xs[i.toNat]? = some x → f x = some r → G) : G := by
 obtain ⟨x, a, b, c⟩ := Ys h
 exact k x a b c
theorem B7 {G : Prop} {α β : Type} {x : Option α} {f : α → Option β} {r : β} (h : x.bind f = some r) (k : ∀ a, x = some a → f a = some r → G) : G := by
 obtain ⟨a, b, c⟩ := bind_some h
 exact k a b c
theorem FO {G : Prop} {β : Type} {p : Prop} [Decidable p] {f : Unit → Option β} {r : β} (h : (Dp p).bind f = some r) (k : p → f () = some r → G) : G := k (Fy h).1 (Fy h).2
section
variable {ops : Array Oper} {dr : Bool} {Q : St → Prop} {r i : Nat} {st : St} {log : List (Nat × CS)} {gs : List (Operand × D)}
theorem qe {x : Operand} {d : D} {s : Nat} (h : (hd st.env ops i X.n, opd st.env x) = (some (.assign x, s, gs), some d)) (k : Q (CS.upd ⟨gs ++ [(x, d)], [], some s, some d, [], []⟩ st)) : A6 P X ops false Q (0 + 1) i st log :=
 qa h (Ac k)
def Yc (n : Nat) (ops : Array Oper) (i : Nat) (st : St) : Option CS :=
 match (match bE ops i n with
  | some (_, s, t, want) => (match st.env t with
   | some (.e (.one (.pure (.val (.bool b))))) => (match b, want with
    | true, false => some (s, t, want)
    | false, true => some (s, t, want)
    | _, _ => none)
   | _ => none)
  | none => none) with
 | some (s, t, want) => some ⟨[(.tmp t, bD (!want))], [], some s, some uD, [], []⟩
 | none => match hd st.env ops i n with
  | some (.move x, s, gs) => (opd st.env x).map fun d => ⟨gs ++ [(x, d)], [], some s, some d, [], []⟩
  | _ => none
def aU (n : Nat) (ops : Array Oper) : Nat → Nat → St → List (Nat × CS) → Option (St × List (Nat × CS))
 | 0, _, st, log => some (st, log)
 | k + 1, i, st, log => match Yc n ops i st with
  | none => none
  | some l => aU n ops k (i + 1) (CS.upd l st) ((i, l) :: log)
theorem Xt {l : CS} (h : Yc X.n ops i st = some l) (next : Nx P X ops dr Q r i st log l) : A6 P X ops dr Q (r + 1) i st log := by
 unfold Yc at h
 split at h
 ·rename_i s t want hh
  split at hh
  ·rename_i j s' t' want' ha
   split at hh
   ·rename_i b hb
    split at hh
    ·cases hh; cases h; exact qn (want := false) (by rw [ha, hb]; rfl) next
    ·cases hh; cases h; exact qn (want := true) (by rw [ha, hb]; rfl) next
    ·cases hh
   ·cases hh
  ·cases hh
 ·split at h
  ·rename_i x s gs' hh
   cases hd' : opd st.env x with
   | none => rw [hd'] at h; cases h
   | some d =>
    rw [hd'] at h
    cases h
    exact qm (by rw [hh, hd']) next
  ·cases h
theorem qw (k : Nat) {st' : St} {log' : List (Nat × CS)} (h : aU X.n ops k i st log = some (st', log')) (next : A6 P X ops dr Q r (i + k) st' log') : A6 P X ops dr Q (r + k) i st log := by
 induction k generalizing i st log with
 | zero => cases h; exact next
 | succ k ih =>
  rw [aU] at h
  split at h
  ·cases h
  ·rename_i l hl
   exact Xt hl (ih h (by rwa [Nat.add_assoc, Nat.add_comm 1]))
end
theorem cw {f n : Nat} {fn : Func} {c : Code} {args : List D} {rv : List (Nat × List (List T))} {res : D} {rs : List ResultVar} (hf : P.funcs[f]? = some fn)
  (h : ∀ (w0 : World) (S0 : Nat → Prop), W P ⟨w0, S0, n, G0 S0⟩ c (fun e st => match e with | .normal | .ret => Yt P rs st rv res | _ => False) (bj args))
  (hb : fn.body = some c := by exact rfl) (hn : fn.ntmps = n := by exact rfl) (hrs : fn.results.toList = rs := by exact rfl) (hl : args.length ≤ n := by exact Hn rfl) (hn9 : n ≤ 90000 := by exact Hn rfl) (hpub : args.all Xe = true := by exact rfl) : Au P f args rv res :=
 QI hf hb hn hrs hl hn9 hpub h
theorem tm {st : St} {t : Nat} {x : E} (h : st.env t = some (.e x) := by exact rfl) : dT P st [.tmp t] [x] := ⟨.tmp _ _ h, trivial⟩
end Go.Lift
namespace Go.Lift
open List renaming mem_of_getElem? → lM
open List renaming getD_eq_getElem?_getD → lD
open Go.RowKit Go.Shelf
theorem Yp {w w' : World} (h : XY w.heap.size w w') : ∃ q os, w' = Go.Sort.grow (w.drewN q) os := by
 refine ⟨w'.drawn - w.drawn, w'.heap.extract w.heap.size w'.heap.size, ?_⟩
 have hh : w'.heap = w.heap ++ w'.heap.extract w.heap.size w'.heap.size := by
  apply Array.ext_getElem?
  intro k
  rw [Array.getElem?_append]
  split
  ·rename_i hk; exact h.block k hk
  ·rename_i hk
   rw [Array.getElem?_extract]
   have := h.size
   split
   ·congr 1; omega
   ·rw [Array.getElem?_eq_none]; omega
 have hd := h.drawn
 have ht := h.tape
 have ho := h.os
 have hu := h.output
 obtain ⟨hp', tp', dr', os', ou'⟩ := w'
 obtain ⟨hp, tp, dr, os, ou⟩ := w
 simp only at hh hd ht ho hu
 subst ht; subst ho; subst hu
 simp only [Go.Sort.grow, World.drewN, World.mk.injEq, and_true, true_and]
 exact ⟨hh, by omega⟩
def VC {α : Type} (c : α → α → Int) (x y : α) : Prop := c x y < 0 ∧ 0 < c y x
structure NU {α : Type} (c : α → α → Int) (M : α → Prop) : Prop where
 self : ∀ x, M x → c x x = 0
 tri : ∀ x y, M x → M y → x = y ∨ VC c x y ∨ VC c y x
 trans : ∀ x y z, M x → M y → M z → VC c x y → VC c y z → VC c x z
namespace NU
variable {α : Type} {c : α → α → Int} {M : α → Prop}
theorem lt (O : NU c M) {x y : α} (hx : M x) (hy : M y) : c x y < 0 ↔ VC c x y := by
 refine ⟨fun h => ?_, fun h => h.1⟩
 rcases O.tri x y hx hy with e | e | e
 ·subst e; have := O.self x hx; omega
 ·exact e
 ·have := e.2; omega
theorem asym {x y : α} (h : VC c x y) (k : VC c y x) : False := by have := h.1; have := k.2; omega
theorem eq (O : NU c M) {x y : α} (hx : M x) (hy : M y) (h : ¬ c x y < 0) (k : ¬ c y x < 0) : x = y := by
 rcases O.tri x y hx hy with e | e | e
 ·exact e
 ·exact absurd e.1 h
 ·exact absurd e.1 k
theorem ntrans (O : NU c M) {x y z : α} (hx : M x) (hy : M y) (hz : M z) (h : ¬ c x y < 0) (k : ¬ c y z < 0) : ¬ c x z < 0 := by
 rw [O.lt hx hy] at h; rw [O.lt hy hz] at k; rw [O.lt hx hz]
 intro q
 have h' : x = y ∨ VC c y x := by rcases O.tri x y hx hy with e | e | e; exact .inl e; exact absurd e h; exact .inr e
 have k' : y = z ∨ VC c z y := by rcases O.tri y z hy hz with e | e | e; exact .inl e; exact absurd e k; exact .inr e
 rcases h' with e | e
 ·subst e; exact k q
 ·rcases k' with f | f
  ·subst f; exact asym q e
  ·exact asym q (O.trans z y x hz hy hx f e)
end NU
theorem Wi {α : Type} {c : α → α → Int} : ∀ (a b : List α), (∀ x y, x ∈ a → y ∈ a → ¬ c x y < 0 → ¬ c y x < 0 → x = y) → a.Perm b → a.Pairwise (fun x y => ¬ c y x < 0) → b.Pairwise (fun x y => ¬ c y x < 0) → a = b
 | [], b, _, h, _, _ => (List.nil_perm.1 h).symm
 | x :: xs, [], _, h, _, _ => by cases List.perm_nil.1 h
 | x :: xs, y :: ys, hE, h, ha, hb => by
  obtain ⟨a1, a2⟩ := List.pairwise_cons.1 ha
  obtain ⟨b1, b2⟩ := List.pairwise_cons.1 hb
  have exy : x = y := by
   rcases List.mem_cons.1 (h.mem_iff.1 (List.mem_cons_self : x ∈ x :: xs)) with e | e
   ·exact e
   rcases List.mem_cons.1 (h.mem_iff.2 (List.mem_cons_self : y ∈ y :: ys)) with f | f
   ·exact f.symm
   exact hE x y (by simp) (by simp [f]) (b1 x e) (a1 y f)
  subst exy
  rw [Wi xs ys (fun u v hu hv => hE u v (by simp [hu]) (by simp [hv])) (List.perm_cons x |>.1 h) a2 b2]
section
variable {P : Program} {ρ : Ren} {α : Type}
theorem JF {β' : Type} [Inhabited β'] (enc : β' → List Value) (k : Nat) (w : World) (β m : Nat) (d : Array β') (os : Array Obj) {γ : Nat} (h : γ < w.heap.size) (hne : γ ≠ β) : (Go.Proofs.sortWorldK enc k w β 0 m d os).heap[γ]? = w.heap[γ]? := by
 unfold Go.Proofs.sortWorldK Go.Sort.grow Go.Sort.putRowK Go.Sort.putRow Go.Sort.mapBlock Go.Sort.ahead
 simp only
 rw [Array.getElem?_append, if_pos (by simpa using h), Array.getElem?_modify, if_neg (Ne.symm hne)]
theorem TT {β' : Type} [Inhabited β'] (enc : β' → List Value) (k : Nat) (w : World) (β m : Nat) (d : Array β') (os : Array Obj) {arr : Array Value} {el : TypeId} {fz : Nat × Nat} (h : w.heap[β]? = some (.cells arr el fz)) : (Go.Proofs.sortWorldK enc k w β 0 m d os).heap[β]? = some (.cells (Go.Sort.putCells id 0 (Go.Sort.flatK enc k d) arr) el fz) := by
 unfold Go.Proofs.sortWorldK Go.Sort.grow Go.Sort.putRowK Go.Sort.putRow Go.Sort.mapBlock Go.Sort.ahead
 simp only
 have hlt : β < w.heap.size := (Array.getElem?_eq_some_iff.1 h).1
 rw [Array.getElem?_append, if_pos (by simpa using hlt), Array.getElem?_modify, if_pos rfl, h]
 rfl
theorem Py {β' : Type} [Inhabited β'] (enc : β' → List Value) (k : Nat) (w : World) (β m : Nat) (d : Array β') (os : Array Obj) : w.heap.size ≤ (Go.Proofs.sortWorldK enc k w β 0 m d os).heap.size := by
 unfold Go.Proofs.sortWorldK Go.Sort.grow Go.Sort.putRowK Go.Sort.putRow Go.Sort.mapBlock Go.Sort.ahead
 simp
theorem Vh (L : Go.Proofs.SlLaysF0.n6 P ρ) (k : Nat) (aE : ∀ w, (isAgg (ρ.t 24)).run P w = .ok true w) (zE : ∀ w, (Go.sizeOf (ρ.t 24)).run P w = .ok k w) {e : α → List T} {g : List (Bool × List T) → Option T} {c : α → α → Int} {xs ys : List α}
  (hg : ∀ x y, x ∈ xs → y ∈ xs → g [(true, e x), (true, e y)] = some (.val (.int .i64 (c x y)))) (O : NU c (· ∈ xs)) (hp : ys.Perm xs) (hs : ys.Pairwise fun x y => ¬ c y x < 0) (hl : xs.length < 4611686018427387904) :
  D1 P (ρ.f 6) [.e (.one (.own 90000)), .e (.one (.clo g))] [(.vec k (xs.map e), .vec k (ys.map e))] [] (.tup []) := by
 intro w G vs hS hgk hlb hla hli hlen hrd
 have hb := hlb 0 _ rfl
 have h0 : Fe P w G (As vs 0) (.own 90000) := hrd 0 _ rfl
 obtain ⟨f, caps, hv, ⟨fn, hf1, hf2, hf3⟩, hcall⟩ : MF P w G.S (As vs 1) g := hrd 1 _ rfl
 have hvs : vs = #[As vs 0, As vs 1] := by
  have h2 : vs.size = 2 := hlen
  apply Array.ext (by simp [h2])
  intro i h1 _
  match i, h1 with
  | 0, h1 => simp [As, h1]
  | 1, h1 => simp [As, h1]
  | i + 2, h1 => omega
 have hys : ys.length = xs.length := hp.length_eq
 rw [hvs, h0.1, hv]
 by_cases hx0 : xs = []
 ·subst hx0
  have hy : ys = [] := List.perm_nil.1 hp
  subst hy
  obtain ⟨p, cap, hh⟩ : ∃ p cap, G.hd 90000 = .slice p 0 cap := by
   rcases hb with ⟨a, b1, _, _⟩ | ⟨β, cap, arr, el, _, b1, _⟩
   ·exact ⟨_, _, b1⟩
   ·exact ⟨_, _, b1⟩
  rw [hh]
  refine (Go.Proofs.AnyF.slices_SortFunc_none L p cap _ w).mono ?_
  rintro e' w' ⟨rfl, rfl⟩
  refine ⟨_, G, rfl, DO.refl _ _ _, fun _ h => h, fun _ h => .inl h, ⟨#[], rfl, rfl, fun j x hj => by simp at hj⟩, fun i x hi => ?_, fun i x hi => by simp at hi, fun _ _ => ⟨rfl, rfl, rfl⟩, fun i β hi h => (hla i β hi h).2, fun i β hi => by simp at hi, fun i l β hi => by simp at hi⟩
  match i, hi with
  | 0, hi => cases hi; exact hb
  | i + 1, hi => simp at hi
 ·rcases hb with ⟨a, b1, b2, b3⟩ | ⟨β, cap, arr, el, b0, b1, b2, b3, b4, b5, b6⟩
  ·exact absurd (List.map_eq_nil_iff.1 b2) hx0
  ·have hβ : β < w.heap.size ∧ ¬ G.S β := hla 0 β (by simp) (.inl b0)
   have hek : ∀ x, x ∈ xs → (e x).length = k := fun x hx => by
    obtain ⟨i, hi, rfl⟩ := List.mem_iff_getElem.1 hx
    exact b5 i _ (by simp [hi])
   -- the elements with their cells
   let A := { p : List Value × α // p.2 ∈ xs ∧ p.1.length = k ∧ ∀ (j : Nat) (t : T), (e p.2)[j]? = some t → D7 w G.S (p.1.getD j undef) t }
   let at' : Fin xs.length → A := fun i => ⟨((List.range k).map fun j => As arr (i.1 * k + j), xs[i.1]), List.getElem_mem i.2, by simp, fun j t hj => by
    have hjk : j < k := by rw [← hek xs[i.1] (List.getElem_mem i.2)]; exact Ax hj
    have := b6 i.1 (e xs[i.1]) j t (by simp) hj
    simpa [hjk] using this⟩
   have hpos : 0 < xs.length := List.length_pos_iff.2 hx0
   letI : Inhabited A := ⟨at' ⟨0, hpos⟩⟩
   let d : Array A := Array.ofFn at'
   have hds : d.size = xs.length := by simp [d]
   have hdg : ∀ i (h : i < xs.length), d[i]! = at' ⟨i, h⟩ := fun i h => by rw [getElem!_pos d i (by omega)]; simp [d]
   have hdl : d.toList.map (fun x => x.1.2) = xs := by
    apply List.ext_getElem
    ·simp [hds]
    ·intro i h1 h2
     simp [d, at']
   let enc : A → List Value := fun x => x.1.1
   have hk : ∀ x : A, (enc x).length = k := fun x => x.2.2.1
   have h1c : ∀ x : A, ∀ v ∈ enc x, v.oneCell' = true := by
    intro x v hv
    obtain ⟨j, hj, rfl⟩ := List.mem_iff_getElem.1 hv
    have hje : j < (e x.1.2).length := by rw [hek _ x.2.1, ← hk x]; exact hj
    have := (x.2.2.2 j _ (List.getElem?_eq_getElem hje)).one
    rw [lD, List.getElem?_eq_getElem hj] at this
    revert this
    show HB (enc x)[j] = true → _
    generalize (enc x)[j] = q
    intro h
    cases q <;> first | rfl | cases h
   let cf : A → A → Int := fun x y => c x.1.2 y.1.2
   have hlt : ∀ x y : A, Go.Proofs.ltOf cf x y = decide (c x.1.2 y.1.2 < 0) := fun _ _ => rfl
   have hO : Go.Sort.SWO (Go.Proofs.ltOf cf) := by
    refine ⟨fun x => ?_, fun x y z => ?_, fun x y z => ?_⟩
    ·rw [hlt, O.self _ x.2.1]; rfl
    ·rw [hlt, hlt, hlt]; intro h1 h2
     have h1 := (O.lt x.2.1 y.2.1).1 (of_decide_eq_true h1)
     have h2 := (O.lt y.2.1 z.2.1).1 (of_decide_eq_true h2)
     exact decide_eq_true (O.trans _ _ _ x.2.1 y.2.1 z.2.1 h1 h2).1
    ·rw [hlt, hlt, hlt]; intro h1 h2
     exact decide_eq_false (O.ntrans x.2.1 y.2.1 z.2.1 (of_decide_eq_false h1) (of_decide_eq_false h2))
   have eg : ∀ args w, (callFunc f args).run P w = .ok (.enter f args) w := KQ (by unfold AI; rw [hf1]; simp [hf2]; simpa using hf3)
   have hcmp : Go.Proofs.CmpLays P f caps enc k cf β 0 d.size w := by
    intro m os dk hdk x y
    refine (hcall _ G.S (fun _ h => h) (fun γ hγ => JF enc k w β m dk os (hS γ hγ) (fun q => hβ.2 (q ▸ hγ))) (fun γ hγ => Nat.lt_of_lt_of_le (hS γ hγ) (Py enc k w β m dk os)) (hgk.mono (fun γ hγ => JF enc k w β m dk os (hS γ hγ) (fun q => hβ.2 (q ▸ hγ))) (fun _ h => h)) #[.agg (enc x).toArray, .agg (enc y).toArray] [(true, e x.1.2), (true, e y.1.2)] _ rfl ?_ (hg _ _ x.2.1 y.2.1)).mono ?_
    ·have one : ∀ z : A, bg (Go.Proofs.sortWorldK enc k w β 0 m dk os) G.S (.agg (enc z).toArray) (true, e z.1.2) := fun z => by
      refine ⟨_, rfl, by simp [hk, hek _ z.2.1], fun j t hj => ?_⟩
      have := z.2.2.2 j t hj
      have e1 : As (enc z).toArray j = z.1.1.getD j undef := by simp [As, enc, lD]
      rw [e1]
      exact this.mono (fun γ hγ => JF enc k w β m dk os (hS γ hγ) (fun q => hβ.2 (q ▸ hγ))) (fun _ h => h)
     intro j q hq
     match j, hq with
     | 0, hq => cases hq; exact one x
     | 1, hq => cases hq; exact one y
     | j + 2, hq => simp at hq
    ·rintro e' w'' ⟨v', S'', rfl, hbel, _, _, hr⟩
     cases hr
     exact ⟨rfl, Yp hbel⟩
   have hH : Go.Sort.HoldsK enc k w β 0 d := by
    intro j hj
    have hj' : j < xs.length * k := by simpa [hds] using hj
    have hk0 : 0 < k := Nat.pos_of_ne_zero fun h => by rw [h] at hj'; simp at hj'
    have hi : j / k < xs.length := Nat.div_lt_of_lt_mul (by rwa [Nat.mul_comm] at hj')
    have hm : j % k < k := Nat.mod_lt _ hk0
    have hsz : j < arr.size := by
     have h3 : (xs.map e).length ≤ cap := b3
     rw [List.length_map] at h3
     have := Nat.mul_le_mul_right k h3
     omega
    have hval : (Go.Sort.flatK enc k d)[j]! = As arr j := by
     rw [Go.Sort.get_flatK enc k d j (by rw [hds]; exact hj'), hdg _ hi]
     simp only [enc, at']
     rw [getElem!_pos _ _ (by simp [hm])]
     simp only [List.getElem_map, List.getElem_range]
     rw [Nat.div_add_mod']
    rw [hval, Nat.zero_add]
    refine ⟨by simp [World.cell?, b2, IR hsz], by simp [World.frozen?, b2]⟩
   have hhd : G.hd 90000 = .slice (some ⟨β, 0, none⟩) d.size cap := by rw [b1, hds, List.length_map]
   rw [hhd]
   refine (Go.Proofs.AnyQ.slices_SortFunc L k aE zE enc hk h1c cf hO f caps β 0 cap d w eg hcmp hH hβ.1 (by rw [hds]; exact hl)).mono ?_
   rintro e' w' ⟨rfl, d', n, os, hpm, hsd, rfl⟩
   have hds' : d'.size = d.size := hpm.1
   have hpl : d'.toList.Perm d.toList := by
    have h := hpm.2.2
    have e1 : (d'.extract 0 d.size).toList = d'.toList := by rw [← hds']; simp
    have e2 : (d.extract 0 d.size).toList = d.toList := by simp
    rwa [e1, e2] at h
   have hlist : d'.toList.map (fun x => x.1.2) = ys := by
    refine Wi (c := c) _ _ (fun x y hx hy h1 h2 => ?_) (((hpl.map _).trans (by rw [hdl])).trans hp.symm) ?_ hs
    ·obtain ⟨a, _, rfl⟩ := List.mem_map.1 hx
     obtain ⟨b, _, rfl⟩ := List.mem_map.1 hy
     exact O.eq a.2.1 b.2.1 h1 h2
    ·rw [List.pairwise_map, List.pairwise_iff_getElem]
     intro i j hi hj hij
     have := hsd i j (Nat.zero_le _) hij (by rw [← hds']; simpa using hj)
     rw [getElem!_pos d' i (by simpa using hi), getElem!_pos d' j (by simpa using hj), hlt] at this
     simpa using of_decide_eq_false this
   have hat : (Go.Proofs.sortWorldK enc k w β 0 n d' os).heap[β]? = some (.cells (Go.Sort.putCells id 0 (Go.Sort.flatK enc k d') arr) el (0, 0)) := TT enc k w β n d' os b2
   have hlen' : d'.size = ys.length := by rw [hds', hds, hys]
   refine ⟨_, G, rfl, ⟨rfl, rfl, rfl, Py enc k w β n d' os, by show w.drawn ≤ w.drawn + n; omega, fun γ hγ hL => JF enc k w β n d' os hγ fun q => hL ⟨0, by simp, .inl (q ▸ b0)⟩⟩, fun _ h => h, fun _ h => .inl h, ⟨#[], rfl, rfl, fun j x hj => by simp at hj⟩, fun i x hi => ?_, fun i x hi => by simp at hi, fun _ _ => ⟨rfl, rfl, rfl⟩, fun i γ hi h => (hla i γ hi h).2, fun i γ hi => by simp at hi, fun i l γ hi => by simp at hi⟩
   match i, hi with
   | i + 1, hi => simp at hi
   | 0, hi =>
    cases hi
    refine .inr ⟨β, cap, _, el, b0, by rw [hhd, hds, List.length_map, hys], hat, by rw [List.length_map, hys]; simpa using b3, by simpa [Go.Sort.putCells] using b4, ?_, ?_⟩
    ·intro i row hi
     obtain ⟨x, hx, rfl⟩ : ∃ x, x ∈ ys ∧ e x = row := by
      rw [List.getElem?_map] at hi
      cases hq : ys[i]? with
      | none => rw [hq] at hi; cases hi
      | some x => rw [hq] at hi; cases hi; exact ⟨x, lM hq, rfl⟩
     exact hek x (hp.mem_iff.1 hx)
    ·intro i row j t hi hj
     rw [List.getElem?_map] at hi
     cases hq : ys[i]? with
     | none => rw [hq] at hi; cases hi
     | some x =>
      rw [hq] at hi; cases hi
      have hil : i < d'.size := by rw [hlen']; exact Ax hq
      have hxm : x ∈ xs := hp.mem_iff.1 (lM hq)
      have hjk : j < k := by rw [← hek x hxm]; exact Ax hj
      have hx : (d'[i]!).1.2 = x := by
       rw [← hlist, List.getElem?_map] at hq
       rw [getElem!_pos d' i hil]
       rw [show d'.toList[i]? = some d'[i] from by simp [hil]] at hq
       simpa using hq
      have hr := (d'[i]!).2.2.2 j t (by rw [hx]; exact hj)
      have hij : i * k + j < d'.size * k := by
       have := Nat.mul_le_mul_right k (show i + 1 ≤ d'.size from hil)
       rw [Nat.add_mul, Nat.one_mul] at this; omega
      have hasz : i * k + j < arr.size := by
       have h3 : (xs.map e).length ≤ cap := b3
       rw [List.length_map] at h3
       have h4 := Nat.mul_le_mul_right k h3
       rw [hlen', hys] at hij
       omega
      have d1 : (i * k + j) / k = i := (Go.Sort.blk_iff k i _ (by omega)).1 ⟨by omega, by omega⟩
      have d2 : (i * k + j) % k = j := by rw [Nat.mod_eq_sub_div_mul, d1]; omega
      have hcell : As (Go.Sort.putCells id 0 (Go.Sort.flatK enc k d') arr) (i * k + j) = (d'[i]!).1.1.getD j undef := by
       unfold As Go.Sort.putCells
       rw [Array.getElem?_mapIdx, show arr[i * k + j]? = some (As arr (i * k + j)) from IR hasz]
       simp only [Option.map_some, Option.getD_some, Nat.zero_le, true_and, Nat.zero_add, Nat.sub_zero, Go.Sort.size_flatK]
       rw [if_pos hij]
       simp only [id]
       rw [Go.Sort.get_flatK enc k d' _ hij, d1, d2, lD, getElem!_pos _ _ (by rw [hk]; exact hjk), List.getElem?_eq_getElem (by rw [show (d'[i]!).1.1.length = k from hk _]; exact hjk)]
       rfl
      rw [hcell]
      exact hr.mono (fun γ hγ => JF enc k w β n d' os (hS γ hγ) (fun q => hβ.2 (q ▸ hγ))) (fun _ h => h)
end
end Go.Lift
namespace Go.Lift
open Go.RowKit Go.Shelf
section
variable {α : Type}
def Va (cmp : α × α → Option Int) (x : α) : List α → List α
 | [] => [x]
 | y :: ys => match cmp (x, y) with
  | some a => if a ≤ 0 then x :: y :: ys else y :: Va cmp x ys
  | none => x :: y :: ys
def UQ (cmp : α × α → Option Int) (xs : List α) : List α := xs.foldr (Va cmp) []
def Wo (cmp : α × α → Option Int) (bq : α → α → Bool) (y z : α) : Bool := match cmp (y, z), cmp (z, y) with
 | some a, some b => (decide (a < 0) && decide (0 < b)) || (bq y z && decide (a = 0) && decide (b = 0))
 | _, _ => false
def cx (cmp : α × α → Option Int) (bq : α → α → Bool) : List α → Bool
 | [] => true
 | y :: ys => (match cmp (y, y) with | some a => decide (a = 0) | none => false) && ys.all (Wo cmp bq y) && cx cmp bq ys
def Ra (cmp : α × α → Option Int) (bq : α → α → Bool) (xs : List α) : Option (List α) :=
 if cx cmp bq (UQ cmp xs) && decide (xs.length < 4611686018427387904) then some (UQ cmp xs) else none
theorem Oq (cmp : α × α → Option Int) (x : α) : ∀ l : List α, (Va cmp x l).Perm (x :: l)
 | [] => List.Perm.refl _
 | y :: ys => by
  unfold Va
  split
  ·split
   ·exact List.Perm.refl _
   ·exact ((Oq cmp x ys).cons y).trans (List.Perm.swap x y ys)
  ·exact List.Perm.refl _
theorem Mc (cmp : α × α → Option Int) : ∀ l : List α, (UQ cmp l).Perm l
 | [] => List.Perm.refl _
 | x :: l => (Oq cmp x (UQ cmp l)).trans ((Mc cmp l).cons x)
theorem Ya {cmp : α × α → Option Int} {bq : α → α → Bool} (hq : ∀ x y, bq x y = true → x = y) {y z : α} (h : Wo cmp bq y z = true) :
  ∃ a b, cmp (y, z) = some a ∧ cmp (z, y) = some b ∧ (VC (fun x y => (cmp (x, y)).getD 0) y z ∨ y = z) := by
 unfold Wo at h
 split at h
 ·rename_i a b e1 e2
  refine ⟨a, b, e1, e2, ?_⟩
  rw [Bool.or_eq_true] at h
  rcases h with h | h
  ·rw [Bool.and_eq_true] at h
   exact .inl ⟨by show (cmp (y, z)).getD 0 < 0; rw [e1]; exact of_decide_eq_true h.1, by show 0 < (cmp (z, y)).getD 0; rw [e2]; exact of_decide_eq_true h.2⟩
  ·rw [Bool.and_eq_true, Bool.and_eq_true] at h
   exact .inr (hq _ _ h.1.1)
 ·cases h
theorem Wg {cmp : α × α → Option Int} {bq : α → α → Bool} (hq : ∀ x y, bq x y = true → x = y) : ∀ {l : List α}, cx cmp bq l = true →
  (∀ x y, x ∈ l → y ∈ l → cmp (x, y) = some ((cmp (x, y)).getD 0)) ∧ NU (fun x y => (cmp (x, y)).getD 0) (· ∈ l) ∧ l.Pairwise (fun x y => ¬ (cmp (y, x)).getD 0 < 0)
 | [], _ => ⟨fun x y h => by simp at h, ⟨fun x h => by simp at h, fun x y h => by simp at h, fun x y z h => by simp at h⟩, List.Pairwise.nil⟩
 | y0 :: ys, h => by
  unfold cx at h
  rw [Bool.and_eq_true, Bool.and_eq_true, List.all_eq_true] at h
  obtain ⟨⟨h0, h1⟩, h2⟩ := h
  obtain ⟨i1, i2, i3⟩ := Wg hq h2
  have hs : cmp (y0, y0) = some 0 := by
   split at h0
   ·rename_i a e; rw [e, of_decide_eq_true h0]
   ·cases h0
  have hp := fun z hz => Ya hq (h1 z hz)
  have self : ∀ x, x ∈ y0 :: ys → (cmp (x, x)).getD 0 = 0 := fun x hx => by
   rcases List.mem_cons.1 hx with e | e
   ·subst e; rw [hs]; rfl
   ·exact i2.self x e
  have asy : ∀ x z, VC (fun x y => (cmp (x, y)).getD 0) x z → VC (fun x y => (cmp (x, y)).getD 0) z x → False := fun x z a b => NU.asym a b
  have first : ∀ z, z ∈ y0 :: ys → y0 = z ∨ VC (fun x y => (cmp (x, y)).getD 0) y0 z := fun z hz => by
   rcases List.mem_cons.1 hz with e | e
   ·exact .inl e.symm
   ·obtain ⟨a, b, _, _, g⟩ := hp z e; exact g.symm
  refine ⟨fun x y hx hy => ?_, ⟨self, fun x y hx hy => ?_, fun x y z hx hy hz a b => ?_⟩, List.pairwise_cons.2 ⟨fun z hz => ?_, i3⟩⟩
  ·rcases List.mem_cons.1 hx with e | e
   ·subst e
    rcases List.mem_cons.1 hy with f | f
    ·subst f; rw [hs]; rfl
    ·obtain ⟨a, b, g, _⟩ := hp y f; rw [g]; rfl
   ·rcases List.mem_cons.1 hy with f | f
    ·subst f; obtain ⟨a, b, _, g, _⟩ := hp x e; rw [g]; rfl
    ·exact i1 x y e f
  ·rcases List.mem_cons.1 hx with e | e
   ·subst e; rcases first y hy with f | f
    ·exact .inl f
    ·exact .inr (.inl f)
   ·rcases List.mem_cons.1 hy with f | f
    ·subst f; rcases first x hx with g | g
     ·exact .inl g.symm
     ·exact .inr (.inr g)
    ·exact i2.tri x y e f
  ·have nofirst : ∀ u, u ∈ y0 :: ys → VC (fun x y => (cmp (x, y)).getD 0) u y0 → False := fun u hu a => by
    rcases first u hu with f | f
    ·subst f; exact asy _ _ a a
    ·exact asy _ _ a f
   rcases List.mem_cons.1 hy with f | f
   ·subst f; exact (nofirst x hx a).elim
   rcases List.mem_cons.1 hz with g | g
   ·subst g; exact (nofirst y hy b).elim
   rcases List.mem_cons.1 hx with e | e
   ·subst e
    rcases first z hz with q | q
    ·subst q; exact (asy _ _ a b).elim
    ·exact q
   ·exact i2.trans x y z e f g a b
  ·rcases first z (List.mem_cons_of_mem _ hz) with f | f
   ·subst f; rw [hs]; simp
   ·have := f.2; simp only at this; omega
theorem Yl {cmp : α × α → Option Int} {bq : α → α → Bool} (hq : ∀ x y, bq x y = true → x = y) {xs ys : List α} (h : Ra cmp bq xs = some ys) :
  (∀ x y, x ∈ xs → y ∈ xs → cmp (x, y) = some ((cmp (x, y)).getD 0)) ∧ NU (fun x y => (cmp (x, y)).getD 0) (· ∈ xs) ∧ ys.Perm xs ∧ ys.Pairwise (fun x y => ¬ (cmp (y, x)).getD 0 < 0) ∧ xs.length < 4611686018427387904 := by
 unfold Ra at h
 split at h
 ·rename_i hc
  rw [Bool.and_eq_true] at hc
  cases h
  have hp := Mc cmp xs
  obtain ⟨h1, h2, h3⟩ := Wg hq hc.1
  have hm : ∀ x, x ∈ xs → x ∈ UQ cmp xs := fun x hx => hp.mem_iff.2 hx
  exact ⟨fun x y hx hy => h1 x y (hm x hx) (hm y hy), ⟨fun x hx => h2.self x (hm x hx), fun x y hx hy => h2.tri x y (hm x hx) (hm y hy), fun x y z hx hy hz => h2.trans x y z (hm x hx) (hm y hy) (hm z hz)⟩, hp, h3, of_decide_eq_true hc.2⟩
 ·cases h
theorem ZC {P : Program} {ρ : Ren} (L : Go.Proofs.SlLaysF0.n6 P ρ) (k : Nat) (aE : ∀ w, (isAgg (ρ.t 24)).run P w = .ok true w) (zE : ∀ w, (Go.sizeOf (ρ.t 24)).run P w = .ok k w) {e : α → List T} (he : Xf e) {bq : α → α → Bool} (hq : ∀ x y, bq x y = true → x = y) {cmp : α × α → Option Int} {xs ys : List α} (h : Ra cmp bq xs = some ys) :
  D1 P (ρ.f 6) [.e (.one (.own 90000)), .e (.one (.clo (JG (cy true e true e) (fun n => .val (.int .i64 n)) cmp)))] [(.vec k (xs.map e), .vec k (ys.map e))] [] (.tup []) := by
 obtain ⟨h1, h2, h3, h4, h5⟩ := Yl hq h
 refine Vh L k aE zE (c := fun x y => (cmp (x, y)).getD 0) (fun x y hx hy => ?_) h2 h3 h4 h5
 exact L8 (ea := cy true e true e) (er := fun n => T.val (.int .i64 n)) (Z5 true e true e he he) (x := (x, y)) (h1 x y hx hy)
end
end Go.Lift
namespace Go.Lift
open Go.RowKit Go.ChangeShapes Go.WideShapes
variable {P : Program} {X : Jm} {ops : Array Oper}
section run
variable {dr : Bool} {Q : St → Prop} {r i : Nat} {st : St} {log : List (Nat × CS)} {o : Oper} {gs : List (Operand × D)}
end run
end Go.Lift
namespace Go.Lift
def Aq (n : Int) : List T := [.val (.int .i64 n)]
def Eh (n : Int) : List T := [.val (.int .u8 n)]
def eV (n : Int) : List T := [.val (.int .u16 n)]
abbrev PD (n : Int) : T := .val (.int .i64 n)
abbrev tB (b : Bool) : T := .val (.bool b)
def eB (b : Bool) : List T := [.val (.bool b)]
def Fa {α : Type} (f : α → List T) (xs : List α) : List T := [.sl (xs.map f)]
theorem SS : Xf Aq := ⟨by intro x y h; simpa [Aq] using h⟩
theorem cZ : Xf Eh := ⟨by intro x y h; simpa [Eh] using h⟩
theorem ft : Xf eB := ⟨by intro x y h; simpa [eB] using h⟩
theorem dj {α : Type} {f : α → List T} (h : Xf f) : Xf (Fa f) := ⟨by intro x y hx; simp only [Fa, List.cons.injEq, T.sl.injEq, and_true] at hx; exact L9 h.inj _ _ hx⟩
structure HO where
 fJ : Int
 fK : Int
 fP : Int
 fS : Bool
 f7 : Int
 f8 : Int
def Hm (x : HO) : List T := [.val (.int .u8 x.fJ), .val (.int .u8 x.fK), .val (.int .u8 x.fP), .val (.bool x.fS), .val (.int .u16 x.f7), .val (.int .u16 x.f8)]
structure BJ where
 fF : List Int
 fL : List Int
 fQ : List Int
 f5 : List HO
def Na (x : BJ) : List T := [.sl (x.fF.map Eh), .sl (x.fL.map Eh), .sl (x.fQ.map Eh), .sl (x.f5.map Hm)]
structure Aa where
 fW : Int
 fV : Int
 fX : Int
def Ad (x : Aa) : List T := [.val (.int .i64 x.fW), .val (.int .i64 x.fV), .val (.int .i64 x.fX)]
theorem P5 : Xf Ad := ⟨by
 rintro ⟨a1, a2, a3⟩ ⟨b1, b2, b3⟩ h
 simp only [Ad, List.cons.injEq, T.val.injEq, Value.int.injEq, and_true, true_and] at h
 obtain ⟨h1, h2, h3⟩ := h
 subst h1
 subst h2
 subst h3
 rfl⟩
def HN (a b : Aa) : Bool := decide (a.fW = b.fW) && decide (a.fV = b.fV) && decide (a.fX = b.fX)
theorem Oj {a b : Aa} (h : HN a b = true) : a = b := by
 cases a; cases b; simp only [HN, Bool.and_eq_true, decide_eq_true_eq] at h
 obtain ⟨⟨h1, h2⟩, h3⟩ := h
 subst h1
 subst h2
 subst h3
 rfl
structure Ao where
 fJ : Int
 fK : Int
 fP : Int
 fS : Bool
 fO : List (List Bool)
 fR : List (List Bool)
def AG (x : Ao) : List T := [.val (.int .i64 x.fJ), .val (.int .i64 x.fK), .val (.int .i64 x.fP), .val (.bool x.fS), .sl (x.fO.map (Fa eB)), .sl (x.fR.map (Fa eB))]
structure Ab where
 fF : List Int
 fL : List Int
 fQ : List Int
 fG : List Ao
structure Ae where
 fH : List Int
 fE : List Int
 fI : List Int
def Fo (x : Ae) : List T := [.sl (x.fH.map Aq), .sl (x.fE.map Aq), .sl (x.fI.map Eh)]
structure Af where
 fJ : Int
 fN : Int
 fT : Int
def AD (x : Af) : List T := [.val (.int .i64 x.fJ), .val (.int .i64 x.fN), .val (.int .i64 x.fT)]
theorem PK : Xf AD := ⟨by
 rintro ⟨a1, a2, a3⟩ ⟨b1, b2, b3⟩ h
 simp only [AD, List.cons.injEq, T.val.injEq, Value.int.injEq, and_true, true_and] at h
 obtain ⟨h1, h2, h3⟩ := h
 subst h1
 subst h2
 subst h3
 rfl⟩
structure AE where
 fZ : Ae
 f9 : Int
 fY : Af
def BI (x : AE) : List T := [.sl (x.fZ.fH.map Aq), .sl (x.fZ.fE.map Aq), .sl (x.fZ.fI.map Eh), .val (.int .i64 x.f9), .val (.int .i64 x.fY.fJ), .val (.int .i64 x.fY.fN), .val (.int .i64 x.fY.fT)]
structure AF where
 fU : Ae
 fK : Int
 fY : Af
 fE : List Int
def Bf (x : AF) : List T := [.sl (x.fU.fH.map Aq), .sl (x.fU.fE.map Aq), .sl (x.fU.fI.map Eh), .val (.int .i64 x.fK), .val (.int .i64 x.fY.fJ), .val (.int .i64 x.fY.fN), .val (.int .i64 x.fY.fT), .sl (x.fE.map Aq)]
theorem Tk : Xf Bf := ⟨by
 rintro ⟨⟨a1, a2, a3⟩, a4, ⟨a5, a6, a7⟩, a8⟩ ⟨⟨b1, b2, b3⟩, b4, ⟨b5, b6, b7⟩, b8⟩ h
 simp only [Bf, List.cons.injEq, T.val.injEq, T.sl.injEq, Value.int.injEq, and_true, true_and] at h
 obtain ⟨h1, h2, h3, h4, h5, h6, h7, h8⟩ := h
 have h1 := L9 SS.inj _ _ h1
 subst h1
 have h2 := L9 SS.inj _ _ h2
 subst h2
 have h3 := L9 cZ.inj _ _ h3
 subst h3
 subst h4
 subst h5
 subst h6
 subst h7
 have h8 := L9 SS.inj _ _ h8
 subst h8
 rfl⟩
open IntKind renaming wrap → wI
def EE (_ : Nat) (p0 : List Int) (p1 : Int) : Option Int :=
 AR ((decide (p1 < (p0.length : Int))))
  ((Br p0 p1).bind fun v2 =>
  some ((wI .i64 v2)))
  (some 0)
def A8 (_ : Nat) (p0 : Ao) : Option Bool :=
 Bi (fun (v1 : Bool) =>
  some v1)
 fun j1 =>
 AR ((p0.fJ == 3))
  (j1 true)
  (j1 (p0.fJ == 4))
def CB (N : Nat) (p1 : Int) (p2 : Int) (p3 : Bool) (v1 : (List (List Bool)) × Int) (j4 : ((List Bool)) → Option ((List (List Bool)))) : Nat → ((List Bool) × Int) → Option ((List (List Bool)))
 | 0, _ => none
 | n4 + 1, v4 =>
  AR ((decide (v4.2 < p1)))
   (Bi (fun (v7 : (List Bool)) =>
    CB N p1 p2 p3 v1 j4 n4 (v7, (wI .i64 (v4.2 + 1))))
   fun j7 =>
   AR p3
    (AR ((v1.2 == v4.2))
     ((Dp (v4.1.length + (([true] : List Bool)).length ≤ C2)).bind fun _ =>
     j7 (v4.1 ++ (([true] : List Bool))))
     ((Dp (0 ≤ (wI .i64 ((wI .i64 (3 * v1.2)) + v4.2)))).bind fun _ =>
     (Dp (v4.1.length + (([((Int.tmod ((Gv .u16 p2 ((wI .i64 ((wI .i64 (3 * v1.2)) + v4.2))))) 2) == 0)] : List Bool)).length ≤ C2)).bind fun _ =>
     j7 (v4.1 ++ (([((Int.tmod ((Gv .u16 p2 ((wI .i64 ((wI .i64 (3 * v1.2)) + v4.2))))) 2) == 0)] : List Bool)))))
    ((Dp (0 ≤ (wI .i64 ((wI .i64 (3 * v1.2)) + v4.2)))).bind fun _ =>
    (Dp (v4.1.length + (([((Int.tmod ((Gv .u16 p2 ((wI .i64 ((wI .i64 (3 * v1.2)) + v4.2))))) 2) == 0)] : List Bool)).length ≤ C2)).bind fun _ =>
    j7 (v4.1 ++ (([((Int.tmod ((Gv .u16 p2 ((wI .i64 ((wI .i64 (3 * v1.2)) + v4.2))))) 2) == 0)] : List Bool)))))
   (j4 v4.1)
def CH (N : Nat) (p0 : Int) (p1 : Int) (p2 : Int) (p3 : Bool) (j1 : ((List (List Bool))) → Option ((List (List Bool)))) : Nat → ((List (List Bool)) × Int) → Option ((List (List Bool)))
 | 0, _ => none
 | n1 + 1, v1 =>
  AR ((decide (v1.2 < p0)))
   (CB N p1 p2 p3 v1 (fun (v5 : (List Bool)) =>
    (Dp (v1.1.length + (([v5] : List (List Bool))).length ≤ C2)).bind fun _ =>
    CH N p0 p1 p2 p3 j1 n1 (v1.1 ++ (([v5] : List (List Bool))), (wI .i64 (v1.2 + 1)))) N (([] : List Bool), 0))
   (j1 v1.1)
def EH (N : Nat) (p0 : Int) (p1 : Int) (p2 : Int) (p3 : Bool) : Option ((List (List Bool))) :=
 CH N p0 p1 p2 p3 (fun (v2 : (List (List Bool))) =>
  some v2) N (([] : List (List Bool)), 0)
def C7 (N : Nat) (p0 : BJ) (j4 : ((List Int) × (List Int) × (List Int)) → Option (Ab × Bool)) : Nat → ((List Int) × (List Int) × (List Int) × Int) → Option (Ab × Bool)
 | 0, _ => none
 | n4 + 1, v4 =>
  AR ((decide (v4.2.2.2 < (p0.fF.length : Int))))
   ((Br p0.fF v4.2.2.2).bind fun v7 =>
   (Dp (v4.1.length + (([(wI .i64 (1 + (wI .i64 ((Int.tmod v7 3)))))] : List Int)).length ≤ C2)).bind fun _ =>
   (EE N p0.fL v4.2.2.2).bind fun v9 =>
   (Dp ((wI .i64 (1 + (wI .i64 ((Int.tmod v7 3))))) ≠ 0)).bind fun _ =>
   (Dp (v4.2.1.length + (([(Int.tmod v9 ((wI .i64 (1 + (wI .i64 ((Int.tmod v7 3)))))))] : List Int)).length ≤ C2)).bind fun _ =>
   (EE N p0.fQ v4.2.2.2).bind fun v12 =>
   (Dp ((wI .i64 (1 + (wI .i64 ((Int.tmod v7 3))))) ≠ 0)).bind fun _ =>
   (Dp (v4.2.2.1.length + (([(Int.tmod v12 ((wI .i64 (1 + (wI .i64 ((Int.tmod v7 3)))))))] : List Int)).length ≤ C2)).bind fun _ =>
   C7 N p0 j4 n4 (v4.1 ++ (([(wI .i64 (1 + (wI .i64 ((Int.tmod v7 3)))))] : List Int)), v4.2.1 ++ (([(Int.tmod v9 ((wI .i64 (1 + (wI .i64 ((Int.tmod v7 3)))))))] : List Int)), v4.2.2.1 ++ (([(Int.tmod v12 ((wI .i64 (1 + (wI .i64 ((Int.tmod v7 3)))))))] : List Int)), (wI .i64 (v4.2.2.2 + 1))))
   (j4 (v4.1, v4.2.1, v4.2.2.1))
def BG (N : Nat) (p0 : BJ) (v5 : (List Int) × (List Int) × (List Int)) (j15 : ((List Ao)) → Option (Ab × Bool)) : Nat → ((List Ao) × Int) → Option (Ab × Bool)
 | 0, _ => none
 | n15 + 1, v15 =>
  Bi (fun (v17 : Bool) =>
   AR v17
    ((Br p0.f5 v15.2).bind fun v20 =>
    (Dp ((v5.1.length : Int) ≠ 0)).bind fun _ =>
    (Dp ((v5.1.length : Int) ≠ 0)).bind fun _ =>
    Bi (fun (v23 : Bool) =>
     (Br v5.1 ((Int.tmod ((wI .i64 v20.fK)) ((v5.1.length : Int))))).bind fun v26 =>
     (Br v5.1 ((Int.tmod ((wI .i64 v20.fP)) ((v5.1.length : Int))))).bind fun v27 =>
     (EH N v26 v27 v20.f7 false).bind fun v28 =>
     Bi (fun (v29 : (List (List Bool))) =>
      (Dp (v15.1.length + (([(Ao.mk ((wI .i64 (1 + (wI .i64 ((Int.tmod v20.fJ 4)))))) ((Int.tmod ((wI .i64 v20.fK)) ((v5.1.length : Int)))) ((Int.tmod ((wI .i64 v20.fP)) ((v5.1.length : Int)))) v23 v28 v29)] : List Ao)).length ≤ C2)).bind fun _ =>
      BG N p0 v5 j15 n15 (v15.1 ++ (([(Ao.mk ((wI .i64 (1 + (wI .i64 ((Int.tmod v20.fJ 4)))))) ((Int.tmod ((wI .i64 v20.fK)) ((v5.1.length : Int)))) ((Int.tmod ((wI .i64 v20.fP)) ((v5.1.length : Int)))) v23 v28 v29)] : List Ao)), (wI .i64 (v15.2 + 1))))
     fun j29 =>
     AR (((wI .i64 (1 + (wI .i64 ((Int.tmod v20.fJ 4))))) == 4))
      ((Br v5.1 ((Int.tmod ((wI .i64 v20.fK)) ((v5.1.length : Int))))).bind fun v31 =>
      (Br v5.1 ((Int.tmod ((wI .i64 v20.fK)) ((v5.1.length : Int))))).bind fun v32 =>
      (EH N v31 v32 v20.f8 true).bind fun v33 =>
      j29 v33)
      (j29 ([] : List (List Bool))))
    fun j23 =>
    AR v20.fS
     ((A8 N ((Ao.mk ((wI .i64 (1 + (wI .i64 ((Int.tmod v20.fJ 4)))))) ((Int.tmod ((wI .i64 v20.fK)) ((v5.1.length : Int)))) ((Int.tmod ((wI .i64 v20.fP)) ((v5.1.length : Int)))) false (([] : List (List Bool))) (([] : List (List Bool)))))).bind fun v25 =>
     j23 (!v25))
     (j23 false))
    (j15 v15.1))
  fun j17 =>
  AR ((decide (v15.2 < (p0.f5.length : Int))))
   (j17 (decide (0 < (v5.1.length : Int))))
   (j17 false)
def F2 (N : Nat) (p0 : BJ) : Option (Ab × Bool) :=
 Bi (fun (v1 : Bool) =>
  AR v1
   (some ((Ab.mk (([] : List Int)) (([] : List Int)) (([] : List Int)) (([] : List Ao))), false))
   (C7 N p0 (fun (v5 : (List Int) × (List Int) × (List Int)) =>
    BG N p0 v5 (fun (v16 : (List Ao)) =>
     some ((Ab.mk v5.1 v5.2.1 v5.2.2 v16), true)) N (([] : List Ao), 0)) N (([] : List Int), ([] : List Int), ([] : List Int), 0)))
 fun j1 =>
 AR ((decide (3 < (p0.fF.length : Int))))
  (j1 true)
  (j1 (decide (4 < (p0.f5.length : Int))))
def Cy (N : Nat) (p0 : Ab) (v1 : (List Aa) × Int) (v4 : (List Aa) × Int) (j8 : ((List Aa)) → Option ((List Aa))) : Nat → ((List Aa) × Int) → Option ((List Aa))
 | 0, _ => none
 | n8 + 1, v8 =>
  (Br p0.fG v1.2).bind fun v10 =>
  (Br v10.fO v4.2).bind fun v11 =>
  AR ((decide (v8.2 < (v11.length : Int))))
   (Bi (fun (v13 : (List Aa)) =>
    Cy N p0 v1 v4 j8 n8 (v13, (wI .i64 (v8.2 + 1))))
   fun j13 =>
   (Br p0.fG v1.2).bind fun v14 =>
   (Br v14.fO v4.2).bind fun v15 =>
   (Br v15 v8.2).bind fun v16 =>
   AR ((!v16))
    ((Dp (v8.1.length + (([(Aa.mk v1.2 v4.2 v8.2)] : List Aa)).length ≤ C2)).bind fun _ =>
    j13 (v8.1 ++ (([(Aa.mk v1.2 v4.2 v8.2)] : List Aa))))
    (j13 v8.1))
   (j8 v8.1)
def BY (N : Nat) (p0 : Ab) (v1 : (List Aa) × Int) (j4 : ((List Aa)) → Option ((List Aa))) : Nat → ((List Aa) × Int) → Option ((List Aa))
 | 0, _ => none
 | n4 + 1, v4 =>
  (Br p0.fG v1.2).bind fun v6 =>
  AR ((decide (v4.2 < (v6.fO.length : Int))))
   (Cy N p0 v1 v4 (fun (v9 : (List Aa)) =>
    BY N p0 v1 j4 n4 (v9, (wI .i64 (v4.2 + 1)))) N (v4.1, 0))
   (j4 v4.1)
def BB (N : Nat) (p0 : Ab) (j1 : ((List Aa)) → Option ((List Aa))) : Nat → ((List Aa) × Int) → Option ((List Aa))
 | 0, _ => none
 | n1 + 1, v1 =>
  AR ((decide (v1.2 < (p0.fG.length : Int))))
   (BY N p0 v1 (fun (v5 : (List Aa)) =>
    BB N p0 j1 n1 (v5, (wI .i64 (v1.2 + 1)))) N (v1.1, 0))
   (j1 v1.1)
def CG (N : Nat) (p0 : Ab) : Option ((List Aa)) :=
 BB N p0 (fun (v2 : (List Aa)) =>
  some v2) N (([] : List Aa), 0)
def El (N : Nat) (p0 : List Aa) (p1 : Aa) (j1 : Unit → Option Bool) : Nat → Int → Option Bool
 | 0, _ => none
 | n1 + 1, v1 =>
  AR ((decide (v1 < (p0.length : Int))))
   ((Br p0 v1).bind fun v4 =>
   AR (((v4.fW == p1.fW) && ((v4.fV == p1.fV) && ((v4.fX == p1.fX) && true))))
    (some true)
    (El N p0 p1 j1 n1 (wI .i64 (v1 + 1))))
   (j1 ())
def Ez (N : Nat) (p0 : List Aa) (p1 : Aa) : Option Bool :=
 El N p0 p1 (fun (_ : Unit) =>
  some false) N 0
def Ct (N : Nat) (p1 : List Aa) (v4 : (List Ao) × Int) (v8 : (List (List Bool)) × Int) (j15 : ((List Bool)) → Option Ab) : Nat → ((List Bool) × Int) → Option Ab
 | 0, _ => none
 | n15 + 1, v15 =>
  AR ((decide (v15.2 < (v15.1.length : Int))))
   (Bi (fun (v18 : (List Bool)) =>
    Ct N p1 v4 v8 j15 n15 (v18, (wI .i64 (v15.2 + 1))))
   fun j18 =>
   (Br v15.1 v15.2).bind fun v19 =>
   AR v19
    ((Br v15.1 v15.2).bind fun _ =>
    j18 (v15.1.set ((v15.2).toNat) true))
    ((Ez N p1 ((Aa.mk v4.2 v8.2 v15.2))).bind fun v22 =>
    (Br v15.1 v15.2).bind fun _ =>
    j18 (v15.1.set ((v15.2).toNat) v22)))
   (j15 v15.1)
def Dh (N : Nat) (p0 : Ab) (p1 : List Aa) (v4 : (List Ao) × Int) (j8 : ((List (List Bool))) → Option Ab) : Nat → ((List (List Bool)) × Int) → Option Ab
 | 0, _ => none
 | n8 + 1, v8 =>
  (Br p0.fG v4.2).bind fun v10 =>
  AR ((decide (v8.2 < (v10.fO.length : Int))))
   ((Br p0.fG v4.2).bind fun v12 =>
   (Br v12.fO v8.2).bind fun v13 =>
   (Dp ((([] : List Bool)).length + v13.length ≤ C2)).bind fun _ =>
   Ct N p1 v4 v8 (fun (v16 : (List Bool)) =>
    (Dp (v8.1.length + (([v16] : List (List Bool))).length ≤ C2)).bind fun _ =>
    Dh N p0 p1 v4 j8 n8 (v8.1 ++ (([v16] : List (List Bool))), (wI .i64 (v8.2 + 1)))) N ((([] : List Bool)) ++ v13, 0))
   (j8 v8.1)
def Cr (N : Nat) (p0 : Ab) (v4 : (List Ao) × Int) (j25 : ((List (List Bool))) → Option Ab) : Nat → ((List (List Bool)) × Int) → Option Ab
 | 0, _ => none
 | n25 + 1, v25 =>
  (Br p0.fG v4.2).bind fun v27 =>
  AR ((decide (v25.2 < (v27.fR.length : Int))))
   ((Br p0.fG v4.2).bind fun v29 =>
   (Br v29.fR v25.2).bind fun v30 =>
   (Dp ((([] : List Bool)).length + v30.length ≤ C2)).bind fun _ =>
   (Dp (v25.1.length + (([(([] : List Bool)) ++ v30] : List (List Bool))).length ≤ C2)).bind fun _ =>
   Cr N p0 v4 j25 n25 (v25.1 ++ (([(([] : List Bool)) ++ v30] : List (List Bool))), (wI .i64 (v25.2 + 1))))
   (j25 v25.1)
def Cc (N : Nat) (p0 : Ab) (p1 : List Aa) (j4 : ((List Ao)) → Option Ab) : Nat → ((List Ao) × Int) → Option Ab
 | 0, _ => none
 | n4 + 1, v4 =>
  AR ((decide (v4.2 < (p0.fG.length : Int))))
   ((Br p0.fG v4.2).bind fun v7 =>
   Dh N p0 p1 v4 (fun (v9 : (List (List Bool))) =>
    Cr N p0 v4 (fun (v26 : (List (List Bool))) =>
     (Dp (v4.1.length + (([(Ao.mk v7.fJ v7.fK v7.fP v7.fS v9 v26)] : List Ao)).length ≤ C2)).bind fun _ =>
     Cc N p0 p1 j4 n4 (v4.1 ++ (([(Ao.mk v7.fJ v7.fK v7.fP v7.fS v9 v26)] : List Ao)), (wI .i64 (v4.2 + 1)))) N (([] : List (List Bool)), 0)) N (([] : List (List Bool)), 0))
   (j4 v4.1)
def Dj (N : Nat) (p0 : Ab) (p1 : List Aa) : Option Ab :=
 (Dp ((([] : List Int)).length + p0.fF.length ≤ C2)).bind fun _ =>
 (Dp ((([] : List Int)).length + p0.fL.length ≤ C2)).bind fun _ =>
 (Dp ((([] : List Int)).length + p0.fQ.length ≤ C2)).bind fun _ =>
 Cc N p0 p1 (fun (v5 : (List Ao)) =>
  some ((Ab.mk ((([] : List Int)) ++ p0.fF) ((([] : List Int)) ++ p0.fL) ((([] : List Int)) ++ p0.fQ) v5))) N (([] : List Ao), 0)
def CM (N : Nat) (p0 : List (List Bool)) (p1 : Int) (p2 : Int) (j2 : Unit → Option Bool) : Nat → Int → Option Bool
 | 0, _ => none
 | n2 + 1, v2 =>
  AR ((decide (v2 < p1)))
   ((Br p0 v2).bind fun v5 =>
   AR (((v5.length : Int) != p2))
    (some false)
    (CM N p0 p1 p2 j2 n2 (wI .i64 (v2 + 1))))
   (j2 ())
def D2 (N : Nat) (p0 : List (List Bool)) (p1 : Int) (p2 : Int) : Option Bool :=
 AR (((p0.length : Int) != p1))
  (some false)
  (CM N p0 p1 p2 (fun (_ : Unit) =>
   some true) N 0)
def Ce (N : Nat) (p1 : Ao) (j22 : Unit → Option Int) : Nat → Int → Option Int
 | 0, _ => none
 | n22 + 1, v22 =>
  AR ((decide (v22 < (p1.fR.length : Int))))
   ((Br p1.fR v22).bind fun v25 =>
   (Br v25 v22).bind fun v26 =>
   AR ((!v26))
    (some 1)
    (Ce N p1 j22 n22 (wI .i64 (v22 + 1))))
   (j22 ())
def Fk (N : Nat) (p0 : Ab) (p1 : Ao) : Option Int :=
 Bi (fun (v1 : Bool) =>
  AR v1
   (some 1)
   (Bi (fun (v7 : Bool) =>
    AR v7
     (some 4)
     ((Br p0.fF p1.fK).bind fun v12 =>
     (Br p0.fF p1.fP).bind fun v13 =>
     (D2 N p1.fO v12 v13).bind fun v14 =>
     AR ((!v14))
      (some 6)
      (AR ((p1.fJ != 4))
       (AR (((p1.fR.length : Int) != 0))
        (some 6)
        (some 0))
       ((Br p0.fF p1.fK).bind fun v18 =>
       (Br p0.fF p1.fK).bind fun v19 =>
       (D2 N p1.fR v18 v19).bind fun v20 =>
       AR ((!v20))
        (some 6)
        (Ce N p1 (fun (_ : Unit) =>
         some 0) N 0)))))
   fun j7 =>
   AR ((decide (p1.fK < 0)))
    (j7 true)
    (AR ((decide ((p0.fF.length : Int) ≤ p1.fK)))
     (j7 true)
     (AR ((decide (p1.fP < 0)))
      (j7 true)
      (j7 (decide ((p0.fF.length : Int) ≤ p1.fP)))))))
 fun j1 =>
 AR ((decide (p1.fJ < 1)))
  (j1 true)
  (AR ((decide (4 < p1.fJ)))
   (j1 true)
   (AR p1.fS
    ((A8 N p1).bind fun v5 =>
    j1 v5)
    (j1 false)))
def Bp (N : Nat) (p0 : Ab) (j7 : Unit → Option Int) : Nat → Int → Option Int
 | 0, _ => none
 | n7 + 1, v7 =>
  AR ((decide (v7 < (p0.fF.length : Int))))
   ((Br p0.fF v7).bind fun v10 =>
   Bi (fun (v11 : Bool) =>
    AR v11
     (some 7)
     (Bp N p0 j7 n7 (wI .i64 (v7 + 1))))
   fun j11 =>
   AR ((decide (v10 < 1)))
    (j11 true)
    (AR ((decide (6 < v10)))
     (j11 true)
     ((Br p0.fL v7).bind fun v14 =>
     AR ((decide (v14 < 0)))
      (j11 true)
      ((Br p0.fL v7).bind fun v16 =>
      AR ((decide (v10 ≤ v16)))
       (j11 true)
       ((Br p0.fQ v7).bind fun v18 =>
       AR ((decide (v18 < 0)))
        (j11 true)
        ((Br p0.fQ v7).bind fun v20 =>
        j11 (decide (v10 ≤ v20))))))))
   (j7 ())
def Be (N : Nat) (p0 : Ab) (j22 : Unit → Option Int) : Nat → Int → Option Int
 | 0, _ => none
 | n22 + 1, v22 =>
  AR ((decide (v22 < (p0.fG.length : Int))))
   ((Br p0.fG v22).bind fun v25 =>
   (Fk N p0 v25).bind fun v26 =>
   AR ((v26 != 0))
    (some v26)
    (Be N p0 j22 n22 (wI .i64 (v22 + 1))))
   (j22 ())
def Ca (N : Nat) (p0 : Ab) : Option Int :=
 Bi (fun (v1 : Bool) =>
  AR v1
   (some 3)
   (Bi (fun (v4 : Bool) =>
    AR v4
     (some 6)
     (Bp N p0 (fun (_ : Unit) =>
      Be N p0 (fun (_ : Unit) =>
       some 0) N 0) N 0))
   fun j4 =>
   AR (((p0.fL.length : Int) != (p0.fF.length : Int)))
    (j4 true)
    (j4 ((p0.fQ.length : Int) != (p0.fF.length : Int)))))
 fun j1 =>
 AR ((decide (6 < (p0.fF.length : Int))))
  (j1 true)
  (j1 (decide (12 < (p0.fG.length : Int))))
def Cp (N : Nat) (p0 : Ab) (j3 : ((List Int) × (List Int)) → Option (Ae × Int)) : Nat → ((List Int) × (List Int) × Int) → Option (Ae × Int)
 | 0, _ => none
 | n3 + 1, v3 =>
  AR ((decide (v3.2.2 < (p0.fF.length : Int))))
   ((Br p0.fL v3.2.2).bind fun v6 =>
   (Dp (v3.1.length + (([v6] : List Int)).length ≤ C2)).bind fun _ =>
   (Dp (v3.2.1.length + (([(-1)] : List Int)).length ≤ C2)).bind fun _ =>
   Cp N p0 j3 n3 (v3.1 ++ (([v6] : List Int)), v3.2.1 ++ (([(-1)] : List Int)), (wI .i64 (v3.2.2 + 1))))
   (j3 (v3.1, v3.2.1))
def Bn (N : Nat) (p0 : Ab) (j9 : ((List Int)) → Option (Ae × Int)) : Nat → ((List Int) × Int) → Option (Ae × Int)
 | 0, _ => none
 | n9 + 1, v9 =>
  AR ((decide (v9.2 < (p0.fG.length : Int))))
   (Bi (fun (v12 : Int) =>
    (Dp (v9.1.length + (([v12] : List Int)).length ≤ C2)).bind fun _ =>
    Bn N p0 j9 n9 (v9.1 ++ (([v12] : List Int)), (wI .i64 (v9.2 + 1))))
   fun j12 =>
   (Br p0.fG v9.2).bind fun v13 =>
   (A8 N v13).bind fun v14 =>
   AR v14
    ((Br p0.fG v9.2).bind fun v16 =>
    (Br p0.fL v16.fK).bind fun v17 =>
    (Dp (0 ≤ v17)).bind fun _ =>
    j12 (Ex .u8 1 v17))
    (j12 0))
   (j9 v9.1)
def Er (N : Nat) (p0 : Ab) : Option (Ae × Int) :=
 (Ca N p0).bind fun v1 =>
 AR ((v1 != 0))
  (some ((Ae.mk (([] : List Int)) (([] : List Int)) (([] : List Int))), v1))
  (Cp N p0 (fun (v4 : (List Int) × (List Int)) =>
   Bn N p0 (fun (v10 : (List Int)) =>
    some ((Ae.mk v4.1 v4.2 v10), 0)) N (([] : List Int), 0)) N (([] : List Int), ([] : List Int), 0))
def EW (_ : Nat) (p0 : Ae) : Option Ae :=
 (Dp ((([] : List Int)).length + p0.fH.length ≤ C2)).bind fun _ =>
 (Dp ((([] : List Int)).length + p0.fE.length ≤ C2)).bind fun _ =>
 (Dp ((([] : List Int)).length + p0.fI.length ≤ C2)).bind fun _ =>
 some ((Ae.mk ((([] : List Int)) ++ p0.fH) ((([] : List Int)) ++ p0.fE) ((([] : List Int)) ++ p0.fI)))
def CT (N : Nat) (p0 : Ae) (j1 : Int → Option ((List Ae))) : Nat → (Int × Int) → Option ((List Ae))
 | 0, _ => none
 | n1 + 1, v1 =>
  AR ((decide (v1.2 < (p0.fE.length : Int))))
   (Bi (fun (v4 : Int) =>
    CT N p0 j1 n1 (v4, (wI .i64 (v1.2 + 1))))
   fun j4 =>
   (Br p0.fE v1.2).bind fun v5 =>
   AR ((decide (0 ≤ v5)))
    (j4 (wI .i64 (v1.1 + 1)))
    (j4 v1.1))
   (j1 v1.1)
def B9 (N : Nat) (p0 : Ae) (v7 : (List Ae) × Int) (j12 : ((List Int)) → Option ((List Ae))) : Nat → ((List Int) × Int × Int) → Option ((List Ae))
 | 0, _ => none
 | n12 + 1, v12 =>
  AR ((decide (v12.2.2 < (p0.fE.length : Int))))
   (Bi (fun (v15 : (List Int) × Int) =>
    B9 N p0 v7 j12 n12 (v15.1, v15.2, (wI .i64 (v12.2.2 + 1))))
   fun j15 =>
   (Br p0.fE v12.2.2).bind fun v16 =>
   AR ((decide (v16 < 0)))
    (j15 (v12.1, v12.2.1))
    (Bi (fun (v18 : (List Int)) =>
     j15 (v18, (wI .i64 (v12.2.1 + 1))))
    fun j18 =>
    (Dp (0 ≤ v12.2.1)).bind fun _ =>
    AR (((Int.tmod ((Gv .i64 v7.2 v12.2.1)) 2) == 1))
     ((Br v12.1 v12.2.2).bind fun _ =>
     j18 (v12.1.set ((v12.2.2).toNat) ((-1))))
     (j18 v12.1)))
   (j12 v12.1)
def BE (N : Nat) (p0 : Ae) (v2 : Int) (j7 : ((List Ae)) → Option ((List Ae))) : Nat → ((List Ae) × Int) → Option ((List Ae))
 | 0, _ => none
 | n7 + 1, v7 =>
  (Dp (0 ≤ v2)).bind fun _ =>
  AR ((decide (v7.2 < (Ex .i64 1 v2))))
   ((EW N p0).bind fun v11 =>
   B9 N p0 v7 (fun (v13 : (List Int)) =>
    (Dp (v7.1.length + (([(Ae.mk v11.fH v13 v11.fI)] : List Ae)).length ≤ C2)).bind fun _ =>
    BE N p0 v2 j7 n7 (v7.1 ++ (([(Ae.mk v11.fH v13 v11.fI)] : List Ae)), (wI .i64 (v7.2 + 1)))) N (v11.fE, 0, 0))
   (j7 v7.1)
def E2 (N : Nat) (p0 : Ae) : Option ((List Ae)) :=
 CT N p0 (fun (v2 : Int) =>
  BE N p0 v2 (fun (v8 : (List Ae)) =>
   some v8) N (([] : List Ae), 0)) N (0, 0)
def Cb (_ : Nat) (p0 : Ae) (p1 : Int) : Option Int :=
 (Br p0.fH p1).bind fun v1 =>
 (Dp (0 ≤ v1)).bind fun _ =>
 Bi (fun (v3 : Int) =>
  some v3)
 fun j3 =>
 (Br p0.fE p1).bind fun v4 =>
 AR ((decide (0 ≤ v4)))
  ((Br p0.fE p1).bind fun v6 =>
  (Dp (0 ≤ v6)).bind fun _ =>
  j3 (QD .u8 ((Ex .u8 1 v1)) ((Ex .u8 1 v6))))
  (j3 (Ex .u8 1 v1))
def CN (_ : Nat) (p0 : Int) (p1 : Int) : Option Bool :=
 (Dp (0 ≤ p1)).bind fun _ =>
 some (((Hk .u8 ((Gv .u8 p0 p1)) 1) == 1))
def Bu (N : Nat) (p0 : Ab) (p1 : Ae) (v1 : (List Aa) × Int) (v4 : Ao) (v10 : (List Aa) × Int) (j17 : ((List Aa) × Bool) → Option ((List Aa))) : Nat → ((List Aa) × Bool × Int) → Option ((List Aa))
 | 0, _ => none
 | n17 + 1, v17 =>
  (Br p0.fF v4.fP).bind fun v19 =>
  AR ((decide (v17.2.2 < v19)))
   (Bi (fun (v21 : (List Aa) × Bool) =>
    Bu N p0 p1 v1 v4 v10 j17 n17 (v21.1, v21.2, (wI .i64 (v17.2.2 + 1))))
   fun j21 =>
   (Cb N p1 v4.fP).bind fun v22 =>
   (CN N v22 v17.2.2).bind fun v23 =>
   AR ((!v23))
    (j21 (v17.1, v17.2.1))
    (Bi (fun (v25 : Bool) =>
     Bi (fun (v29 : Bool) =>
      AR v29
       ((Dp (v17.1.length + (([(Aa.mk v1.2 v10.2 v17.2.2)] : List Aa)).length ≤ C2)).bind fun _ =>
       j21 (v17.1 ++ (([(Aa.mk v1.2 v10.2 v17.2.2)] : List Aa)), v25))
       (j21 (v17.1, v25)))
     fun j29 =>
     AR ((!v4.fS))
      ((Br v4.fO v10.2).bind fun v31 =>
      (Br v31 v17.2.2).bind fun v32 =>
      j29 (!v32))
      (j29 false))
    fun j25 =>
    AR v17.2.1
     (j25 true)
     ((Br v4.fO v10.2).bind fun v27 =>
     (Br v27 v17.2.2).bind fun v28 =>
     j25 v28)))
   (j17 (v17.1, v17.2.1))
def BN (N : Nat) (p0 : Ab) (p1 : Ae) (v1 : (List Aa) × Int) (v4 : Ao) (v6 : Int) (j10 : ((List Aa)) → Option ((List Aa))) : Nat → ((List Aa) × Int) → Option ((List Aa))
 | 0, _ => none
 | n10 + 1, v10 =>
  (Br p0.fF v4.fK).bind fun v12 =>
  AR ((decide (v10.2 < v12)))
   (Bi (fun (v14 : (List Aa)) =>
    BN N p0 p1 v1 v4 v6 j10 n10 (v14, (wI .i64 (v10.2 + 1))))
   fun j14 =>
   (CN N v6 v10.2).bind fun v15 =>
   AR ((!v15))
    (j14 v10.1)
    (Bu N p0 p1 v1 v4 v10 (fun (v18 : (List Aa) × Bool) =>
     Bi (fun (v35 : Bool) =>
      AR v35
       ((Dp (v18.1.length + (([(Aa.mk v1.2 v10.2 ((-1)))] : List Aa)).length ≤ C2)).bind fun _ =>
       j14 (v18.1 ++ (([(Aa.mk v1.2 v10.2 ((-1)))] : List Aa))))
       (j14 v18.1))
     fun j35 =>
     AR v4.fS
      (j35 (!v18.2))
      (j35 false)) N (v10.1, false, 0)))
   (j10 v10.1)
def CV (N : Nat) (p0 : Ab) (p1 : Ae) (j1 : ((List Aa)) → Option ((List Aa))) : Nat → ((List Aa) × Int) → Option ((List Aa))
 | 0, _ => none
 | n1 + 1, v1 =>
  AR ((decide (v1.2 < (p0.fG.length : Int))))
   ((Br p0.fG v1.2).bind fun v4 =>
   (Cb N p1 v4.fK).bind fun v5 =>
   Bi (fun (v6 : Int) =>
    BN N p0 p1 v1 v4 v6 (fun (v11 : (List Aa)) =>
     CV N p0 p1 j1 n1 (v11, (wI .i64 (v1.2 + 1)))) N (v1.1, 0))
   fun j6 =>
   (A8 N v4).bind fun v7 =>
   AR v7
    ((Br p1.fI v1.2).bind fun v9 =>
    j6 v9)
    (j6 v5))
   (j1 v1.1)
def Fi (N : Nat) (p0 : Ab) (p1 : Ae) : Option ((List Aa)) :=
 CV N p0 p1 (fun (v2 : (List Aa)) =>
  some v2) N (([] : List Aa), 0)
def EV (N : Nat) (p0 : Ab) (p1 : Ae) : Option Bool :=
 (Fi N p0 p1).bind fun v1 =>
 some (((v1.length : Int) == 0))
def Cl (N : Nat) (p0 : Ab) (v1 : (List Ae)) (j2 : Unit → Option Bool) : Nat → Int → Option Bool
 | 0, _ => none
 | n2 + 1, v2 =>
  AR ((decide (v2 < (v1.length : Int))))
   ((Br v1 v2).bind fun v5 =>
   (EV N p0 v5).bind fun v6 =>
   AR ((!v6))
    (some false)
    (Cl N p0 v1 j2 n2 (wI .i64 (v2 + 1))))
   (j2 ())
def C0 (N : Nat) (p0 : Ab) (p1 : Ae) : Option Bool :=
 (E2 N p1).bind fun v1 =>
 Cl N p0 v1 (fun (_ : Unit) =>
  some true) N 0
def Co (N : Nat) (p0 : Ab) (p1 : Ae) (j7 : Unit → Option Int) : Nat → Int → Option Int
 | 0, _ => none
 | n7 + 1, v7 =>
  AR ((decide (v7 < (p0.fF.length : Int))))
   (Bi (fun (v10 : Bool) =>
    AR v10
     (some 7)
     ((Br p1.fH v7).bind fun v21 =>
     (Br p1.fE v7).bind fun v22 =>
     AR ((v21 == v22))
      (some 1)
      (Co N p0 p1 j7 n7 (wI .i64 (v7 + 1)))))
   fun j10 =>
   (Br p1.fH v7).bind fun v11 =>
   AR ((decide (v11 < 0)))
    (j10 true)
    ((Br p1.fH v7).bind fun v13 =>
    (Br p0.fF v7).bind fun v14 =>
    AR ((decide (v14 ≤ v13)))
     (j10 true)
     ((Br p1.fE v7).bind fun v16 =>
     AR ((decide (v16 < (-1))))
      (j10 true)
      ((Br p1.fE v7).bind fun v18 =>
      (Br p0.fF v7).bind fun v19 =>
      j10 (decide (v19 ≤ v18))))))
   (j7 ())
def Cd (N : Nat) (p0 : Ab) (p1 : Ae) (j24 : Unit → Option Int) : Nat → Int → Option Int
 | 0, _ => none
 | n24 + 1, v24 =>
  AR ((decide (v24 < (p0.fG.length : Int))))
   ((Br p0.fG v24).bind fun v27 =>
   (Br p0.fF v27.fK).bind fun v28 =>
   (Dp (0 ≤ v28)).bind fun _ =>
   Bi (fun (v30 : Bool) =>
    AR v30
     (some 1)
     (Cd N p0 p1 j24 n24 (wI .i64 (v24 + 1))))
   fun j30 =>
   (A8 N v27).bind fun v31 =>
   AR ((!v31))
    ((Br p1.fI v24).bind fun v33 =>
    AR ((v33 != 0))
     (j30 true)
     ((A8 N v27).bind fun v35 =>
     AR v35
      ((Br p1.fI v24).bind fun v37 =>
      AR (((DL .u8 v37 ((wI .u8 ((Ex .u8 1 v28) - 1)))) != 0))
       (j30 true)
       ((Cb N p1 v27.fK).bind fun v39 =>
       (Br p1.fI v24).bind fun v40 =>
       j30 ((DL .u8 v39 v40) != 0)))
      (j30 false)))
    ((A8 N v27).bind fun v41 =>
    AR v41
     ((Br p1.fI v24).bind fun v43 =>
     AR (((DL .u8 v43 ((wI .u8 ((Ex .u8 1 v28) - 1)))) != 0))
      (j30 true)
      ((Cb N p1 v27.fK).bind fun v45 =>
      (Br p1.fI v24).bind fun v46 =>
      j30 ((DL .u8 v45 v46) != 0)))
     (j30 false)))
   (j24 ())
def DE (N : Nat) (p0 : Ab) (p1 : Ae) : Option Int :=
 (Ca N p0).bind fun v1 =>
 AR ((v1 != 0))
  (some v1)
  (Bi (fun (v3 : Bool) =>
   AR v3
    (some 6)
    (Co N p0 p1 (fun (_ : Unit) =>
     Cd N p0 p1 (fun (_ : Unit) =>
      some 0) N 0) N 0))
  fun j3 =>
  AR (((p1.fH.length : Int) != (p0.fF.length : Int)))
   (j3 true)
   (AR (((p1.fE.length : Int) != (p0.fF.length : Int)))
    (j3 true)
    (j3 ((p1.fI.length : Int) != (p0.fG.length : Int)))))
def Fc (_ : Nat) (p0 : Af) : Option Bool :=
 Bi (fun (v1 : Bool) =>
  some v1)
 fun j1 =>
 AR ((decide (1 ≤ p0.fJ)))
  (AR ((decide (p0.fJ ≤ 4)))
   (AR ((decide (0 ≤ p0.fN)))
    (AR ((decide (0 ≤ p0.fT)))
     (AR ((p0.fJ == 1))
      (j1 true)
      (j1 (p0.fT == 0)))
     (j1 false))
    (j1 false))
   (j1 false))
  (j1 false)
def Cf (N : Nat) (p0 : Ab) (p2 : Af) (j12 : ((List Int)) → Option (Ae × Bool)) : Nat → ((List Int) × Int) → Option (Ae × Bool)
 | 0, _ => none
 | n12 + 1, v12 =>
  AR ((decide (v12.2 < (p0.fG.length : Int))))
   (Bi (fun (v15 : (List Int)) =>
    Cf N p0 p2 j12 n12 (v15, (wI .i64 (v12.2 + 1))))
   fun j15 =>
   Bi (fun (v16 : Bool) =>
    AR v16
     ((Br v12.1 v12.2).bind fun v22 =>
     (Dp (0 ≤ p2.fT)).bind fun _ =>
     (Br v12.1 v12.2).bind fun _ =>
     j15 (v12.1.set ((v12.2).toNat) ((QD .u8 v22 ((Ex .u8 1 p2.fT))))))
     (j15 v12.1))
   fun j16 =>
   (Br p0.fG v12.2).bind fun v17 =>
   AR ((v17.fK == p2.fN))
    ((Br p0.fG v12.2).bind fun v19 =>
    (A8 N v19).bind fun v20 =>
    j16 v20)
    (j16 false))
   (j12 v12.1)
def BO (N : Nat) (p0 : Ab) (p1 : Ae) (p2 : Af) (v32 : Ao) (v35 : Int) (j38 : Unit → Option (Ae × Bool)) : Nat → Int → Option (Ae × Bool)
 | 0, _ => none
 | n38 + 1, v38 =>
  (Br p0.fF v32.fK).bind fun v40 =>
  AR ((decide (v38 < v40)))
   (Bi (fun (v42 : Bool) =>
    Bi (fun (v47 : Bool) =>
     AR v47
      (some ((Ae.mk (([] : List Int)) (([] : List Int)) (([] : List Int))), false))
      (BO N p0 p1 p2 v32 v35 j38 n38 (wI .i64 (v38 + 1))))
    fun j47 =>
    AR v42
     (AR ((v32.fJ == 4))
      ((Br v32.fR v38).bind fun v50 =>
      (Br p1.fH v32.fK).bind fun v51 =>
      (Br v50 v51).bind fun v52 =>
      j47 (!v52))
      (j47 false))
     (j47 false))
   fun j42 =>
   (Br p1.fI p2.fN).bind fun v43 =>
   (CN N v43 v38).bind fun v44 =>
   AR v44
    ((CN N v35 v38).bind fun v46 =>
    j42 (!v46))
    (j42 false))
   (j38 ())
def C6 (N : Nat) (p0 : Ab) (p1 : Ae) (p2 : Af) : Option (Ae × Bool) :=
 (Dp ((([] : List Int)).length + p1.fH.length ≤ C2)).bind fun _ =>
 (Dp ((([] : List Int)).length + p1.fE.length ≤ C2)).bind fun _ =>
 (Dp ((([] : List Int)).length + p1.fI.length ≤ C2)).bind fun _ =>
 Bi (fun (v4 : (List Int) × (List Int) × (List Int)) =>
  some ((Ae.mk v4.1 v4.2.1 v4.2.2), true))
 fun j4 =>
 AR ((p2.fJ == 1))
  (Bi (fun (v6 : Bool) =>
   AR v6
    (some ((Ae.mk (([] : List Int)) (([] : List Int)) (([] : List Int))), false))
    ((Br ((([] : List Int)) ++ p1.fE) p2.fN).bind fun _ =>
    Cf N p0 p2 (fun (v13 : (List Int)) =>
     j4 ((([] : List Int)) ++ p1.fH, ((([] : List Int)) ++ p1.fE).set ((p2.fN).toNat) p2.fT, v13)) N ((([] : List Int)) ++ p1.fI, 0)))
  fun j6 =>
  (Br p1.fE p2.fN).bind fun v7 =>
  AR ((decide (0 ≤ v7)))
   (j6 true)
   ((Br p1.fH p2.fN).bind fun v9 =>
   j6 (p2.fT == v9)))
  (AR ((p2.fJ == 2))
   ((Br p1.fE p2.fN).bind fun v26 =>
   AR ((decide (v26 < 0)))
    (some ((Ae.mk (([] : List Int)) (([] : List Int)) (([] : List Int))), false))
    ((Br p1.fE p2.fN).bind fun v28 =>
    (Br ((([] : List Int)) ++ p1.fH) p2.fN).bind fun _ =>
    (Br ((([] : List Int)) ++ p1.fE) p2.fN).bind fun _ =>
    j4 (((([] : List Int)) ++ p1.fH).set ((p2.fN).toNat) v28, ((([] : List Int)) ++ p1.fE).set ((p2.fN).toNat) ((-1)), (([] : List Int)) ++ p1.fI)))
   (AR ((p2.fJ == 3))
    ((Br p0.fG p2.fN).bind fun v32 =>
    (A8 N v32).bind fun v33 =>
    AR ((!v33))
     (some ((Ae.mk (([] : List Int)) (([] : List Int)) (([] : List Int))), false))
     ((Cb N p1 v32.fK).bind fun v35 =>
     (Br p1.fI p2.fN).bind fun v36 =>
     AR ((v36 == v35))
      (some ((Ae.mk (([] : List Int)) (([] : List Int)) (([] : List Int))), false))
      (BO N p0 p1 p2 v32 v35 (fun (_ : Unit) =>
       (Br ((([] : List Int)) ++ p1.fI) p2.fN).bind fun _ =>
       j4 ((([] : List Int)) ++ p1.fH, (([] : List Int)) ++ p1.fE, ((([] : List Int)) ++ p1.fI).set ((p2.fN).toNat) v35)) N 0)))
    ((Br p1.fE p2.fN).bind fun v55 =>
    AR ((decide (v55 < 0)))
     (some ((Ae.mk (([] : List Int)) (([] : List Int)) (([] : List Int))), false))
     ((Br ((([] : List Int)) ++ p1.fE) p2.fN).bind fun _ =>
     j4 ((([] : List Int)) ++ p1.fH, ((([] : List Int)) ++ p1.fE).set ((p2.fN).toNat) ((-1)), (([] : List Int)) ++ p1.fI)))))
def Fh (N : Nat) (p0 : Ab) (p1 : Ae) (p2 : Af) : Option (Ae × Int) :=
 (DE N p0 p1).bind fun v1 =>
 AR ((v1 != 0))
  (some ((Ae.mk (([] : List Int)) (([] : List Int)) (([] : List Int))), v1))
  ((Fc N p2).bind fun v3 =>
  AR ((!v3))
   (some ((Ae.mk (([] : List Int)) (([] : List Int)) (([] : List Int))), 1))
   (Bi (fun (v5 : Bool) =>
    AR v5
     (some ((Ae.mk (([] : List Int)) (([] : List Int)) (([] : List Int))), 4))
     (Bi (fun (v11 : Bool) =>
      AR v11
       (some ((Ae.mk (([] : List Int)) (([] : List Int)) (([] : List Int))), 4))
       ((C6 N p0 p1 p2).bind fun v15 =>
       AR ((!v15.2))
        (some ((Ae.mk (([] : List Int)) (([] : List Int)) (([] : List Int))), 11))
        (some (v15.1, 0))))
     fun j11 =>
     AR ((p2.fJ == 1))
      ((Br p0.fF p2.fN).bind fun v13 =>
      j11 (decide (v13 ≤ p2.fT)))
      (j11 false)))
   fun j5 =>
   AR ((p2.fJ == 3))
    (AR ((decide ((p0.fG.length : Int) ≤ p2.fN)))
     (j5 true)
     (AR ((p2.fJ != 3))
      (j5 (decide ((p0.fF.length : Int) ≤ p2.fN)))
      (j5 false)))
    (AR ((p2.fJ != 3))
     (j5 (decide ((p0.fF.length : Int) ≤ p2.fN)))
     (j5 false))))
def Cq (N : Nat) (p0 : Ab) (p1 : Ae) (v1 : (List Af) × Int) (v4 : (List Af) × Int) (j7 : ((List Af)) → Option ((List Af))) : Nat → ((List Af) × Int) → Option ((List Af))
 | 0, _ => none
 | n7 + 1, v7 =>
  AR ((decide (v7.2 < 6)))
   (Bi (fun (v10 : (List Af)) =>
    Cq N p0 p1 v1 v4 j7 n7 (v10, (wI .i64 (v7.2 + 1))))
   fun j10 =>
   (Fh N p0 p1 ((Af.mk v1.2 v4.2 v7.2))).bind fun v11 =>
   AR ((v11.2 == 0))
    ((Dp (v7.1.length + (([(Af.mk v1.2 v4.2 v7.2)] : List Af)).length ≤ C2)).bind fun _ =>
    j10 (v7.1 ++ (([(Af.mk v1.2 v4.2 v7.2)] : List Af))))
    (j10 v7.1))
   (j7 v7.1)
def Cs (N : Nat) (p0 : Ab) (p1 : Ae) (v1 : (List Af) × Int) (j4 : ((List Af)) → Option ((List Af))) : Nat → ((List Af) × Int) → Option ((List Af))
 | 0, _ => none
 | n4 + 1, v4 =>
  AR ((decide (v4.2 < (WQ ((p0.fF.length : Int)) ((p0.fG.length : Int))))))
   (Cq N p0 p1 v1 v4 (fun (v8 : (List Af)) =>
    Cs N p0 p1 v1 j4 n4 (v8, (wI .i64 (v4.2 + 1)))) N (v4.1, 0))
   (j4 v4.1)
def BA (N : Nat) (p0 : Ab) (p1 : Ae) (j1 : ((List Af)) → Option ((List Af))) : Nat → ((List Af) × Int) → Option ((List Af))
 | 0, _ => none
 | n1 + 1, v1 =>
  AR ((decide (v1.2 ≤ 3)))
   (Cs N p0 p1 v1 (fun (v5 : (List Af)) =>
    BA N p0 p1 j1 n1 (v5, (wI .i64 (v1.2 + 1)))) N (v1.1, 0))
   (j1 v1.1)
def Fj (N : Nat) (p0 : Ab) (p1 : Ae) : Option ((List Af)) :=
 BA N p0 p1 (fun (v2 : (List Af)) =>
  some v2) N (([] : List Af), 1)
def DR (N : Nat) (p0 : List Int) (p1 : List Int) (j1 : Unit → Option Int) : Nat → Int → Option Int
 | 0, _ => none
 | n1 + 1, v1 =>
  Bi (fun (v3 : Bool) =>
   AR v3
    ((Br p0 v1).bind fun v6 =>
    (Br p1 v1).bind fun v7 =>
    AR ((decide (v6 < v7)))
     (some ((-1)))
     ((Br p0 v1).bind fun v9 =>
     (Br p1 v1).bind fun v10 =>
     AR ((decide (v10 < v9)))
      (some 1)
      (DR N p0 p1 j1 n1 (wI .i64 (v1 + 1)))))
    (j1 ()))
  fun j3 =>
  AR ((decide (v1 < (p0.length : Int))))
   (j3 (decide (v1 < (p1.length : Int))))
   (j3 false)
def DS (N : Nat) (p0 : List Int) (p1 : List Int) : Option Int :=
 DR N p0 p1 (fun (_ : Unit) =>
  AR ((decide ((p0.length : Int) < (p1.length : Int))))
   (some ((-1)))
   (AR ((decide ((p1.length : Int) < (p0.length : Int))))
    (some 1)
    (some 0))) N 0
def Db (N : Nat) (p0 : List Int) (j1 : ((List Int)) → Option ((List Int))) : Nat → ((List Int) × Int) → Option ((List Int))
 | 0, _ => none
 | n1 + 1, v1 =>
  AR ((decide (v1.2 < (p0.length : Int))))
   ((Br p0 v1.2).bind fun v4 =>
   (Dp (v1.1.length + (([(wI .i64 v4)] : List Int)).length ≤ C2)).bind fun _ =>
   Db N p0 j1 n1 (v1.1 ++ (([(wI .i64 v4)] : List Int)), (wI .i64 (v1.2 + 1))))
   (j1 v1.1)
def DM (N : Nat) (p0 : List Int) : Option ((List Int)) :=
 Db N p0 (fun (v2 : (List Int)) =>
  some v2) N (([] : List Int), 0)
def ED (N : Nat) (p0 : Ae) (p1 : Ae) : Option Int :=
 (DS N p0.fH p1.fH).bind fun v1 =>
 AR ((v1 != 0))
  (some v1)
  ((DS N p0.fE p1.fE).bind fun v3 =>
  AR ((v3 != 0))
   (some v3)
   ((DM N p0.fI).bind fun v5 =>
   (DM N p1.fI).bind fun v6 =>
   (DS N v5 v6).bind fun v7 =>
   some v7))
def Fl (N : Nat) (p0 : Ae) (p1 : Ae) : Option Bool :=
 (ED N p0 p1).bind fun v1 =>
 some ((v1 == 0))
def CI (N : Nat) (p0 : List AE) (p1 : Ae) (j1 : Unit → Option Int) : Nat → Int → Option Int
 | 0, _ => none
 | n1 + 1, v1 =>
  AR ((decide (v1 < (p0.length : Int))))
   ((Br p0 v1).bind fun v4 =>
   (Fl N ((Ae.mk v4.fZ.fH v4.fZ.fE v4.fZ.fI)) p1).bind fun v5 =>
   AR v5
    (some v1)
    (CI N p0 p1 j1 n1 (wI .i64 (v1 + 1))))
   (j1 ())
def EG (N : Nat) (p0 : List AE) (p1 : Ae) : Option Int :=
 CI N p0 p1 (fun (_ : Unit) =>
  some ((-1))) N 0
def BU (N : Nat) (p0 : Ab) (p2 : Int) (v1 : (List AE) × Int) (v5 : (List Af)) (j6 : ((List AE)) → Option ((List AE) × Bool)) : Nat → ((List AE) × Int) → Option ((List AE) × Bool)
 | 0, _ => none
 | n6 + 1, v6 =>
  AR ((decide (v6.2 < (v5.length : Int))))
   ((Br v6.1 v1.2).bind fun v9 =>
   (Br v5 v6.2).bind fun v10 =>
   (C6 N p0 ((Ae.mk v9.fZ.fH v9.fZ.fE v9.fZ.fI)) v10).bind fun v11 =>
   Bi (fun (v12 : (List AE)) =>
    AR ((decide (p2 < (v12.length : Int))))
     (some (([] : List AE), false))
     (BU N p0 p2 v1 v5 j6 n6 (v12, (wI .i64 (v6.2 + 1)))))
   fun j12 =>
   Bi (fun (v13 : Bool) =>
    AR v13
     ((Br v5 v6.2).bind fun v18 =>
     (Dp (v6.1.length + (([(AE.mk v11.1 v1.2 v18)] : List AE)).length ≤ C2)).bind fun _ =>
     j12 (v6.1 ++ (([(AE.mk v11.1 v1.2 v18)] : List AE))))
     (j12 v6.1))
   fun j13 =>
   (C0 N p0 v11.1).bind fun v14 =>
   AR v14
    ((EG N v6.1 v11.1).bind fun v16 =>
    j13 (decide (v16 < 0)))
    (j13 false))
   (j6 v6.1)
def BT (N : Nat) (p0 : Ab) (p2 : Int) (j1 : ((List AE)) → Option ((List AE) × Bool)) : Nat → ((List AE) × Int) → Option ((List AE) × Bool)
 | 0, _ => none
 | n1 + 1, v1 =>
  AR ((decide (v1.2 < (v1.1.length : Int))))
   ((Br v1.1 v1.2).bind fun v4 =>
   (Fj N p0 ((Ae.mk v4.fZ.fH v4.fZ.fE v4.fZ.fI))).bind fun v5 =>
   BU N p0 p2 v1 v5 (fun (v7 : (List AE)) =>
    BT N p0 p2 j1 n1 (v7, (wI .i64 (v1.2 + 1)))) N (v1.1, 0))
   (j1 v1.1)
def C5 (N : Nat) (p0 : Ab) (p1 : Ae) (p2 : Int) : Option ((List AE) × Bool) :=
 BT N p0 p2 (fun (v2 : (List AE)) =>
  some (v2, true)) N (([(AE.mk p1 ((-1)) ((Af.mk 0 0 0)))] : List AE), 0)
def Ff (N : Nat) (p0 : Ab) (p1 : Int) : Option Bool :=
 (Er N p0).bind fun v1 =>
 Bi (fun (v2 : Bool) =>
  AR v2
   (some true)
   ((C5 N p0 v1.1 p1).bind fun v6 =>
   some v6.2))
 fun j2 =>
 AR ((v1.2 != 0))
  (j2 true)
  ((C0 N p0 v1.1).bind fun v4 =>
  j2 (!v4))
def FV (N : Nat) (p0 : Ab) : Option Bool :=
 (CG N p0).bind fun v1 =>
 Bi (fun (v2 : Bool) =>
  some v2)
 fun j2 =>
 AR ((decide ((v1.length : Int) ≤ 7)))
  ((Dj N p0 v1).bind fun v4 =>
  (Ff N v4 60).bind fun v5 =>
  j2 v5)
  (j2 false)
def F1 (N : Nat) (p0 : BJ) : Option (Ab × Bool) :=
 (F2 N p0).bind fun v1 =>
 Bi (fun (v2 : Bool) =>
  some (v1.1, v2))
 fun j2 =>
 AR v1.2
  (AR ((decide ((v1.1.fF.length : Int) ≤ 2)))
   ((FV N v1.1).bind fun v5 =>
   j2 v5)
   (j2 false))
  (j2 false)
def DJ (_ : Nat) : Option Ab :=
 some ((Ab.mk (([2, 2] : List Int)) (([0, 0] : List Int)) (([1, 1] : List Int)) (([(Ao.mk 1 0 1 false (([([true, false] : List Bool), ([false, true] : List Bool)] : List (List Bool))) (([] : List (List Bool))))] : List Ao))))
def EM (_ : Nat) (p0 : Int) (p1 : Int) : Option Bool :=
 Bi (fun (v1 : Bool) =>
  some v1)
 fun j1 =>
 AR ((decide (0 ≤ p0)))
  (j1 (decide (p0 < p1)))
  (j1 false)
def HK (_ : Nat) (p0 : Int) (p1 : Bool) : Option Bool :=
 Bi (fun (v1 : Bool) =>
  some v1)
 fun j1 =>
 AR ((p0 == 1))
  (j1 true)
  (AR ((p0 == 2))
   (j1 true)
   (AR ((p0 == 3))
    (j1 (!p1))
    (AR ((p0 == 4))
     (j1 (!p1))
     (j1 false))))
def EB (_ : Nat) (p0 : List Bool) (p1 : Int) : Option Bool :=
 some (((p0.length : Int) != p1))
def Bv (N : Nat) (p0 : List (List Bool)) (p1 : (List Bool) → Option Bool) (j1 : Unit → Option Int) : Nat → Int → Option Int
 | 0, _ => none
 | n1 + 1, v1 =>
  AR ((decide (v1 < (p0.length : Int))))
   ((Br p0 v1).bind fun v4 =>
   (p1 v4).bind fun v5 =>
   AR v5
    (some v1)
    (Bv N p0 p1 j1 n1 (wI .i64 (v1 + 1))))
   (j1 ())
def DX (N : Nat) (p0 : List (List Bool)) (p1 : (List Bool) → Option Bool) : Option Int :=
 Bv N p0 p1 (fun (_ : Unit) =>
  some ((-1))) N 0
def Dq (N : Nat) (p0 : List (List Bool)) (p1 : (List Bool) → Option Bool) : Option Bool :=
 (DX N p0 p1).bind fun v1 =>
 some ((decide (0 ≤ v1)))
def FT (N : Nat) (p0 : List (List Bool)) (p1 : Int) (p2 : Int) : Option Bool :=
 Bi (fun (v1 : Bool) =>
  some v1)
 fun j1 =>
 AR (((p0.length : Int) == p1))
  ((Dq N p0 ((fun (x : List Bool) => EB N x p2))).bind fun v3 =>
  j1 (!v3))
  (j1 false)
def DB (N : Nat) (p1 : Ao) (j19 : Unit → Option Int) : Nat → Int → Option Int
 | 0, _ => none
 | n19 + 1, v19 =>
  AR ((decide (v19 < (p1.fR.length : Int))))
   ((Br p1.fR v19).bind fun v22 =>
   (Br v22 v19).bind fun v23 =>
   AR ((!v23))
    (some 1)
    (DB N p1 j19 n19 (wI .i64 (v19 + 1))))
   (j19 ())
def Hg (N : Nat) (p0 : Ab) (p1 : Ao) : Option Int :=
 (HK N p1.fJ p1.fS).bind fun v1 =>
 AR ((!v1))
  (some 1)
  (Bi (fun (v3 : Bool) =>
   AR v3
    (some 4)
    ((Br p0.fF p1.fK).bind fun v8 =>
    Bi (fun (v9 : Bool) =>
     AR v9
      (some 6)
      (DB N p1 (fun (_ : Unit) =>
       some 0) N 0))
    fun j9 =>
    (Br p0.fF p1.fP).bind fun v10 =>
    (FT N p1.fO v8 v10).bind fun v11 =>
    AR ((!v11))
     (j9 true)
     (AR ((p1.fJ == 4))
      ((FT N p1.fR v8 v8).bind fun v14 =>
      AR ((!v14))
       (j9 true)
       (AR ((!((p1.fJ == 4))))
        (j9 (decide (0 < (p1.fR.length : Int))))
        (j9 false)))
      (AR ((!((p1.fJ == 4))))
       (j9 (decide (0 < (p1.fR.length : Int))))
       (j9 false)))))
  fun j3 =>
  (EM N p1.fK ((p0.fF.length : Int))).bind fun v4 =>
  AR ((!v4))
   (j3 true)
   ((EM N p1.fP ((p0.fF.length : Int))).bind fun v6 =>
   j3 (!v6)))
def Ch (N : Nat) (p0 : Ab) (j7 : Unit → Option Int) : Nat → Int → Option Int
 | 0, _ => none
 | n7 + 1, v7 =>
  AR ((decide (v7 < (p0.fF.length : Int))))
   ((Br p0.fF v7).bind fun v10 =>
   Bi (fun (v11 : Bool) =>
    AR v11
     (some 7)
     (Ch N p0 j7 n7 (wI .i64 (v7 + 1))))
   fun j11 =>
   AR ((decide (v10 < 1)))
    (j11 true)
    (AR ((decide (6 < v10)))
     (j11 true)
     ((Br p0.fL v7).bind fun v14 =>
     (EM N v14 v10).bind fun v15 =>
     AR ((!v15))
      (j11 true)
      ((Br p0.fQ v7).bind fun v17 =>
      (EM N v17 v10).bind fun v18 =>
      j11 (!v18)))))
   (j7 ())
def BZ (N : Nat) (p0 : Ab) (j20 : Unit → Option Int) : Nat → Int → Option Int
 | 0, _ => none
 | n20 + 1, v20 =>
  AR ((decide (v20 < (p0.fG.length : Int))))
   ((Br p0.fG v20).bind fun v23 =>
   (Hg N p0 v23).bind fun v24 =>
   AR ((v24 != 0))
    (some v24)
    (BZ N p0 j20 n20 (wI .i64 (v20 + 1))))
   (j20 ())
def BD (N : Nat) (p0 : Ab) : Option Int :=
 Bi (fun (v1 : Bool) =>
  AR v1
   (some 3)
   (Bi (fun (v4 : Bool) =>
    AR v4
     (some 6)
     (Ch N p0 (fun (_ : Unit) =>
      BZ N p0 (fun (_ : Unit) =>
       some 0) N 0) N 0))
   fun j4 =>
   AR (((p0.fL.length : Int) != (p0.fF.length : Int)))
    (j4 true)
    (j4 ((p0.fQ.length : Int) != (p0.fF.length : Int)))))
 fun j1 =>
 AR ((decide (6 < (p0.fF.length : Int))))
  (j1 true)
  (j1 (decide (12 < (p0.fG.length : Int))))
def Do (N : Nat) (v1 : (List Aa) × Int) (v5 : (List Aa) × Int) (v8 : List Bool) (j9 : ((List Aa)) → Option ((List Aa))) : Nat → ((List Aa) × Int) → Option ((List Aa))
 | 0, _ => none
 | n9 + 1, v9 =>
  AR ((decide (v9.2 < (v8.length : Int))))
   (Bi (fun (v12 : (List Aa)) =>
    Do N v1 v5 v8 j9 n9 (v12, (wI .i64 (v9.2 + 1))))
   fun j12 =>
   (Br v8 v9.2).bind fun v13 =>
   AR ((!v13))
    ((Dp (v9.1.length + (([(Aa.mk v1.2 v5.2 v9.2)] : List Aa)).length ≤ C2)).bind fun _ =>
    j12 (v9.1 ++ (([(Aa.mk v1.2 v5.2 v9.2)] : List Aa))))
    (j12 v9.1))
   (j9 v9.1)
def CR (N : Nat) (v1 : (List Aa) × Int) (v4 : Ao) (j5 : ((List Aa)) → Option ((List Aa))) : Nat → ((List Aa) × Int) → Option ((List Aa))
 | 0, _ => none
 | n5 + 1, v5 =>
  AR ((decide (v5.2 < (v4.fO.length : Int))))
   ((Br v4.fO v5.2).bind fun v8 =>
   Do N v1 v5 v8 (fun (v10 : (List Aa)) =>
    CR N v1 v4 j5 n5 (v10, (wI .i64 (v5.2 + 1)))) N (v5.1, 0))
   (j5 v5.1)
def Cm (N : Nat) (p0 : Ab) (j1 : ((List Aa)) → Option ((List Aa))) : Nat → ((List Aa) × Int) → Option ((List Aa))
 | 0, _ => none
 | n1 + 1, v1 =>
  AR ((decide (v1.2 < (p0.fG.length : Int))))
   ((Br p0.fG v1.2).bind fun v4 =>
   CR N v1 v4 (fun (v6 : (List Aa)) =>
    Cm N p0 j1 n1 (v6, (wI .i64 (v1.2 + 1)))) N (v1.1, 0))
   (j1 v1.1)
def Eb (N : Nat) (p0 : Ab) : Option ((List Aa)) :=
 Cm N p0 (fun (v2 : (List Aa)) =>
  some v2) N (([] : List Aa), 0)
def E1 (N : Nat) (p0 : Ab) : Option ((List Aa) × Int) :=
 (BD N p0).bind fun v1 =>
 AR ((v1 != 0))
  (some (([] : List Aa), v1))
  ((Eb N p0).bind fun v3 =>
  some (v3, 0))
def D9 (N : Nat) (v5 : Aa) (v7 : (List (List Aa))) (j8 : ((List (List Aa))) → Option ((List (List Aa)))) : Nat → ((List (List Aa)) × Int) → Option ((List (List Aa)))
 | 0, _ => none
 | n8 + 1, v8 =>
  AR ((decide (v8.2 < (v7.length : Int))))
   ((Br v7 v8.2).bind fun v11 =>
   (Dp ((([v5] : List Aa)).length + v11.length ≤ C2)).bind fun _ =>
   (Dp (v8.1.length + (([(([v5] : List Aa)) ++ v11] : List (List Aa))).length ≤ C2)).bind fun _ =>
   D9 N v5 v7 j8 n8 (v8.1 ++ (([(([v5] : List Aa)) ++ v11] : List (List Aa))), (wI .i64 (v8.2 + 1))))
   (j8 v8.1)
def DC (N : Nat) (p0 : List Aa) (p1 : Int) (rc : (List Aa) → Int → Option ((List (List Aa)))) (j2 : ((List (List Aa))) → Option ((List (List Aa)))) : Nat → ((List (List Aa)) × Int) → Option ((List (List Aa)))
 | 0, _ => none
 | n2 + 1, v2 =>
  AR ((decide (v2.2 < (p0.length : Int))))
   ((Br p0 v2.2).bind fun v5 =>
   (Dp ((0 : Int) ≤ (wI .i64 (v2.2 + 1)) ∧ ((wI .i64 (v2.2 + 1))).toNat ≤ p0.length ∧ p0.length ≤ p0.length)).bind fun _ =>
   (rc (((p0.drop ((wI .i64 (v2.2 + 1))).toNat).take (p0.length - ((wI .i64 (v2.2 + 1))).toNat))) ((wI .i64 (p1 - 1)))).bind fun v7 =>
   D9 N v5 v7 (fun (v9 : (List (List Aa))) =>
    DC N p0 p1 rc j2 n2 (v9, (wI .i64 (v2.2 + 1)))) N (v2.1, 0))
   (j2 v2.1)
def GT (N : Nat) (rc : (List Aa) → Int → Option ((List (List Aa)))) (p0 : List Aa) (p1 : Int) : Option ((List (List Aa))) :=
 AR ((p1 == 0))
  (some (([([] : List Aa)] : List (List Aa))))
  (DC N p0 p1 rc (fun (v3 : (List (List Aa))) =>
   some v3) N (([] : List (List Aa)), 0))
def DU (N : Nat) : Nat → (List Aa) → Int → Option ((List (List Aa)))
 | 0, _, _ => none
 | k + 1, p0, p1 => GT N (DU N k) p0 p1
def I5 (N : Nat) (p0 : List Aa) (p1 : Int) : Option ((List (List Aa))) := DU N N p0 p1
def A0 (_ : Nat) (p0 : List Int) : Option ((List Int)) :=
 (Dp ((([] : List Int)).length + p0.length ≤ C2)).bind fun _ =>
 some ((([] : List Int)) ++ p0)
def Da (_ : Nat) (p0 : List (List Bool)) : Option ((List (List Bool))) :=
 (Dp ((([] : List (List Bool))).length + p0.length ≤ C2)).bind fun _ =>
 some ((([] : List (List Bool))) ++ p0)
def CO (_ : Nat) (p0 : List Bool) : Option ((List Bool)) :=
 (Dp ((([] : List Bool)).length + p0.length ≤ C2)).bind fun _ =>
 some ((([] : List Bool)) ++ p0)
def DF (N : Nat) (v1 : (List (List Bool))) (j3 : ((List (List Bool))) → Option Ao) : Nat → ((List (List Bool)) × Int) → Option Ao
 | 0, _ => none
 | n3 + 1, v3 =>
  AR ((decide (v3.2 < (v1.length : Int))))
   ((Br v3.1 v3.2).bind fun v6 =>
   (CO N v6).bind fun v7 =>
   (Br v3.1 v3.2).bind fun _ =>
   (Dp (((v3.2).toNat) + 1 = ((wI .i64 (v3.2 + 1))).toNat)).bind fun _ =>
   DF N v1 j3 n3 (v3.1.set ((v3.2).toNat) v7, (wI .i64 (v3.2 + 1))))
   ((Dp ((v3.2).toNat = v3.1.length)).bind fun _ =>
   j3 v3.1)
def BW (N : Nat) (v2 : (List (List Bool))) (j11 : ((List (List Bool))) → Option Ao) : Nat → ((List (List Bool)) × Int) → Option Ao
 | 0, _ => none
 | n11 + 1, v11 =>
  AR ((decide (v11.2 < (v2.length : Int))))
   ((Br v11.1 v11.2).bind fun v14 =>
   (CO N v14).bind fun v15 =>
   (Br v11.1 v11.2).bind fun _ =>
   (Dp (((v11.2).toNat) + 1 = ((wI .i64 (v11.2 + 1))).toNat)).bind fun _ =>
   BW N v2 j11 n11 (v11.1.set ((v11.2).toNat) v15, (wI .i64 (v11.2 + 1))))
   ((Dp ((v11.2).toNat = v11.1.length)).bind fun _ =>
   j11 v11.1)
def FY (N : Nat) (p0 : Ao) : Option Ao :=
 (Da N p0.fO).bind fun v1 =>
 (Da N p0.fR).bind fun v2 =>
 DF N v1 (fun (v4 : (List (List Bool))) =>
  BW N v2 (fun (v12 : (List (List Bool))) =>
   some ((Ao.mk p0.fJ p0.fK p0.fP p0.fS v4 v12))) N (v2, 0)) N (v1, 0)
def Dn (N : Nat) (p0 : Ab) (j6 : ((List Ao)) → Option (Ab × Int)) : Nat → ((List Ao) × Int) → Option (Ab × Int)
 | 0, _ => none
 | n6 + 1, v6 =>
  AR ((decide (v6.2 < (p0.fG.length : Int))))
   ((Br p0.fG v6.2).bind fun v9 =>
   (FY N v9).bind fun v10 =>
   (Dp (v6.1.length + (([v10] : List Ao)).length ≤ C2)).bind fun _ =>
   Dn N p0 j6 n6 (v6.1 ++ (([v10] : List Ao)), (wI .i64 (v6.2 + 1))))
   (j6 v6.1)
def FL (N : Nat) (p0 : Ab) (p1 : List Int) (p2 : List Int) : Option (Ab × Int) :=
 (BD N p0).bind fun v1 =>
 AR ((v1 != 0))
  (some ((Ab.mk (([] : List Int)) (([] : List Int)) (([] : List Int)) (([] : List Ao))), v1))
  ((A0 N p0.fF).bind fun v3 =>
  (A0 N p1).bind fun v4 =>
  (A0 N p2).bind fun v5 =>
  Dn N p0 (fun (v7 : (List Ao)) =>
   (BD N ((Ab.mk v3 v4 v5 v7))).bind fun v12 =>
   AR ((v12 != 0))
    (some ((Ab.mk (([] : List Int)) (([] : List Int)) (([] : List Int)) (([] : List Ao))), v12))
    (some ((Ab.mk v3 v4 v5 v7), 0))) N (([] : List Ao), 0))
def Ef (N : Nat) (p1 : List Aa) (j2 : ((List Ao)) → Option Ab) : Nat → ((List Ao) × Int) → Option Ab
 | 0, _ => none
 | n2 + 1, v2 =>
  AR ((decide (v2.2 < (p1.length : Int))))
   ((Br p1 v2.2).bind fun v5 =>
   (Br v2.1 v5.fW).bind fun v6 =>
   (Br v6.fO v5.fV).bind fun v7 =>
   (Br v2.1 v5.fW).bind fun _ =>
   (Br v6.fO v5.fV).bind fun _ =>
   (Br v7 v5.fX).bind fun _ =>
   Ef N p1 j2 n2 (v2.1.set ((v5.fW).toNat) ((Ao.mk v6.fJ v6.fK v6.fP v6.fS (v6.fO.set ((v5.fV).toNat) (v7.set ((v5.fX).toNat) true)) v6.fR)), (wI .i64 (v2.2 + 1))))
   (j2 v2.1)
def GK (N : Nat) (p0 : Ab) (p1 : List Aa) : Option Ab :=
 (FL N p0 p0.fL p0.fQ).bind fun v1 =>
 Ef N p1 (fun (v3 : (List Ao)) =>
  some ((Ab.mk v1.1.fF v1.1.fL v1.1.fQ v3))) N (v1.1.fG, 0)
def HP (_ : Nat) (p0 : Int) (p1 : Int) : Option (Int × Int) :=
 some ((wI .u32 ((Gv .u64 ((wI .u64 ((wI .u64 p0) * (wI .u64 p1)))) 32))), (wI .u32 ((wI .u64 ((wI .u64 p0) * (wI .u64 p1))))))
def HT (_ : Nat) (p0 : Int) (p1 : Int) : Option (Int × Int) :=
 some ((wI .u64 ((wI .u64 ((wI .u64 ((Gv .u64 p0 32) * (Gv .u64 p1 32))) + (Gv .u64 ((wI .u64 ((wI .u64 ((Gv .u64 p0 32) * (Hk .u64 p1 4294967295))) + (Gv .u64 ((wI .u64 ((Hk .u64 p0 4294967295) * (Hk .u64 p1 4294967295)))) 32)))) 32))) + (Gv .u64 ((wI .u64 ((Hk .u64 ((wI .u64 ((wI .u64 ((Gv .u64 p0 32) * (Hk .u64 p1 4294967295))) + (Gv .u64 ((wI .u64 ((Hk .u64 p0 4294967295) * (Hk .u64 p1 4294967295)))) 32)))) 4294967295) + (wI .u64 ((Hk .u64 p0 4294967295) * (Gv .u64 p1 32)))))) 32))), (wI .u64 (p0 * p1)))
def Iy (N : Nat) (p0 : Int) (p1 : Int) : Option (Int × Int) :=
 AR false
  ((HP N ((wI .u32 p0)) ((wI .u32 p1))).bind fun v2 =>
  some ((wI .u64 v2.1), (wI .u64 v2.2)))
  ((HT N p0 p1).bind fun v3 =>
  some (v3.1, v3.2))
def Et (N : Nat) (j9 : ((List Int)) → Option ((List Int))) : Nat → ((List Int) × Int) → Option ((List Int))
 | 0, _ => none
 | n9 + 1, v9 =>
  AR ((decide (v9.2 < (v9.1.length : Int))))
   ((Dp ((0 : Int) ≤ v9.2 ∧ (v9.2).toNat ≤ v9.1.length ∧ v9.1.length ≤ v9.1.length)).bind fun _ =>
   (Dp ((0 : Int) ≤ v9.2 ∧ 0 ≤ (v9.2).toNat ∧ (v9.2).toNat ≤ v9.1.length)).bind fun _ =>
   Et N j9 n9 (Gx v9.1 ((v9.2).toNat) ((((v9.1.drop 0).take ((v9.2).toNat))).take (Nat.min (((v9.1.drop 0).take ((v9.2).toNat))).length ((v9.1.length - (v9.2).toNat)))), (wI .i64 (v9.2 + (((Nat.min (((v9.1.drop 0).take ((v9.2).toNat))).length ((v9.1.length - (v9.2).toNat))) : Nat) : Int)))))
   (j9 v9.1)
def E7 (N : Nat) (p0 : List Int) (p1 : Int) : Option ((List Int)) :=
 Bi (fun (_ : Unit) =>
  (Iy N ((wI .u64 ((p0.length : Int)))) ((wI .u64 p1))).bind fun v3 =>
  Bi (fun (_ : Unit) =>
   (Dp ((0 : Int) ≤ (wI .i64 v3.2) ∧ (wI .i64 v3.2) ≤ (wI .i64 v3.2) ∧ (wI .i64 v3.2) ≤ (C2 : Int))).bind fun _ =>
   Et N (fun (v10 : (List Int)) =>
    some v10) N (Gx (List.replicate ((wI .i64 v3.2)).toNat ((0 : Int))) 0 (p0.take (Nat.min p0.length ((List.replicate ((wI .i64 v3.2)).toNat ((0 : Int))).length))), (((Nat.min p0.length ((List.replicate ((wI .i64 v3.2)).toNat ((0 : Int))).length)) : Nat) : Int)))
  fun j4 =>
  Bi (fun (v5 : Bool) =>
   AR v5
    (none)
    (j4 ()))
  fun j5 =>
  AR ((decide (0 < v3.1)))
   (j5 true)
   (j5 (decide (9223372036854775807 < v3.2))))
 fun j1 =>
 AR ((decide (p1 < 0)))
  (none)
  (j1 ())
def F9 (_ : Nat) (p0 : Ao) : Option Bool :=
 Bi (fun (v1 : Bool) =>
  some v1)
 fun j1 =>
 AR ((p0.fJ == 3))
  (j1 true)
  (j1 (p0.fJ == 4))
def EL (N : Nat) (p0 : Ab) (j6 : ((List Int)) → Option (Ae × Int)) : Nat → ((List Int) × Int) → Option (Ae × Int)
 | 0, _ => none
 | n6 + 1, v6 =>
  AR ((decide (v6.2 < (p0.fG.length : Int))))
   (Bi (fun (v9 : (List Int)) =>
    EL N p0 j6 n6 (v9, (wI .i64 (v6.2 + 1))))
   fun j9 =>
   (Br p0.fG v6.2).bind fun v10 =>
   (F9 N v10).bind fun v11 =>
   AR v11
    ((Br p0.fL v10.fK).bind fun v13 =>
    (Dp (0 ≤ v13)).bind fun _ =>
    (Br v6.1 v6.2).bind fun _ =>
    j9 (v6.1.set ((v6.2).toNat) ((Ex .u8 1 v13))))
    (j9 v6.1))
   (j6 v6.1)
def Ir (N : Nat) (p0 : Ab) : Option (Ae × Int) :=
 (BD N p0).bind fun v1 =>
 AR ((v1 != 0))
  (some ((Ae.mk (([] : List Int)) (([] : List Int)) (([] : List Int))), v1))
  ((A0 N p0.fL).bind fun v3 =>
  (E7 N (([(-1)] : List Int)) ((p0.fL.length : Int))).bind fun v4 =>
  (Dp ((0 : Int) ≤ (p0.fG.length : Int) ∧ (p0.fG.length : Int) ≤ (p0.fG.length : Int) ∧ (p0.fG.length : Int) ≤ (C2 : Int))).bind fun _ =>
  EL N p0 (fun (v7 : (List Int)) =>
   some ((Ae.mk v3 v4 v7), 0)) N (List.replicate ((p0.fG.length : Int)).toNat ((0 : Int)), 0))
def FN (_ : Nat) (p0 : Ae) (p1 : Int) : Option Int :=
 (Br p0.fH p1).bind fun v1 =>
 (Dp (0 ≤ v1)).bind fun _ =>
 Bi (fun (v3 : Int) =>
  some v3)
 fun j3 =>
 (Br p0.fE p1).bind fun v4 =>
 AR ((decide (0 ≤ v4)))
  ((Br p0.fE p1).bind fun v6 =>
  (Dp (0 ≤ v6)).bind fun _ =>
  j3 (QD .u8 ((Ex .u8 1 v1)) ((Ex .u8 1 v6))))
  (j3 (Ex .u8 1 v1))
def EJ (N : Nat) (p0 : Ab) (p1 : Ae) (j7 : Unit → Option Int) : Nat → Int → Option Int
 | 0, _ => none
 | n7 + 1, v7 =>
  AR ((decide (v7 < (p0.fF.length : Int))))
   ((Br p0.fF v7).bind fun v10 =>
   Bi (fun (v11 : Bool) =>
    AR v11
     (some 7)
     ((Br p1.fH v7).bind fun v20 =>
     (Br p1.fE v7).bind fun v21 =>
     AR ((v20 == v21))
      (some 1)
      (EJ N p0 p1 j7 n7 (wI .i64 (v7 + 1)))))
   fun j11 =>
   (Br p1.fH v7).bind fun v12 =>
   AR ((decide (v12 < 0)))
    (j11 true)
    ((Br p1.fH v7).bind fun v14 =>
    AR ((decide (v10 ≤ v14)))
     (j11 true)
     ((Br p1.fE v7).bind fun v16 =>
     AR ((decide (v16 < (-1))))
      (j11 true)
      ((Br p1.fE v7).bind fun v18 =>
      j11 (decide (v10 ≤ v18))))))
   (j7 ())
def Ek (N : Nat) (p0 : Ab) (p1 : Ae) (j23 : Unit → Option Int) : Nat → Int → Option Int
 | 0, _ => none
 | n23 + 1, v23 =>
  AR ((decide (v23 < (p0.fG.length : Int))))
   ((Br p0.fG v23).bind fun v26 =>
   Bi (fun (v27 : Int × Int) =>
    Bi (fun (v33 : Bool) =>
     AR v33
      (some 1)
      (Ek N p0 p1 j23 n23 (wI .i64 (v23 + 1))))
    fun j33 =>
    (Br p1.fI v23).bind fun v34 =>
    AR (((DL .u8 v27.1 v34) != 0))
     (j33 true)
     ((Br p1.fI v23).bind fun v36 =>
     j33 ((DL .u8 v36 v27.2) != 0)))
   fun j27 =>
   (F9 N v26).bind fun v28 =>
   AR v28
    ((FN N p1 v26.fK).bind fun v30 =>
    (Br p0.fF v26.fK).bind fun v31 =>
    (Dp (0 ≤ v31)).bind fun _ =>
    j27 (v30, (wI .u8 ((Ex .u8 1 v31) - 1))))
    (j27 (0, 0)))
   (j23 ())
def FX (N : Nat) (p0 : Ab) (p1 : Ae) : Option Int :=
 (BD N p0).bind fun v1 =>
 AR ((v1 != 0))
  (some v1)
  (Bi (fun (v3 : Bool) =>
   AR v3
    (some 6)
    (EJ N p0 p1 (fun (_ : Unit) =>
     Ek N p0 p1 (fun (_ : Unit) =>
      some 0) N 0) N 0))
  fun j3 =>
  AR (((p1.fH.length : Int) != (p0.fF.length : Int)))
   (j3 true)
   (AR (((p1.fE.length : Int) != (p0.fF.length : Int)))
    (j3 true)
    (j3 ((p1.fI.length : Int) != (p0.fG.length : Int)))))
def B5 (_ : Nat) (p0 : List Int) : Option ((List Int)) :=
 (Dp ((([] : List Int)).length + p0.length ≤ C2)).bind fun _ =>
 some ((([] : List Int)) ++ p0)
def Ep (N : Nat) (p1 : Ae) (j3 : ((List Int)) → Option ((List Ae) × Int)) : Nat → ((List Int) × Int) → Option ((List Ae) × Int)
 | 0, _ => none
 | n3 + 1, v3 =>
  AR ((decide (v3.2 < (p1.fE.length : Int))))
   (Bi (fun (v6 : (List Int)) =>
    Ep N p1 j3 n3 (v6, (wI .i64 (v3.2 + 1))))
   fun j6 =>
   (Br p1.fE v3.2).bind fun v7 =>
   AR ((decide (0 ≤ v7)))
    ((Dp (v3.1.length + (([v3.2] : List Int)).length ≤ C2)).bind fun _ =>
    j6 (v3.1 ++ (([v3.2] : List Int))))
    (j6 v3.1))
   (j3 v3.1)
def Dr (N : Nat) (v4 : (List Int)) (v11 : (List Ae) × Int) (j17 : ((List Int)) → Option ((List Ae) × Int)) : Nat → ((List Int) × Int) → Option ((List Ae) × Int)
 | 0, _ => none
 | n17 + 1, v17 =>
  AR ((decide (v17.2 < (v4.length : Int))))
   (Bi (fun (v20 : (List Int)) =>
    Dr N v4 v11 j17 n17 (v20, (wI .i64 (v17.2 + 1))))
   fun j20 =>
   (Br v4 v17.2).bind fun v21 =>
   (Dp (0 ≤ v17.2)).bind fun _ =>
   AR (((Hk .i64 ((Gv .i64 v11.2 v17.2)) 1) == 1))
    ((Br v17.1 v21).bind fun _ =>
    j20 (v17.1.set ((v21).toNat) ((-1))))
    (j20 v17.1))
   (j17 v17.1)
def Dv (N : Nat) (p1 : Ae) (v4 : (List Int)) (j11 : ((List Ae)) → Option ((List Ae) × Int)) : Nat → ((List Ae) × Int) → Option ((List Ae) × Int)
 | 0, _ => none
 | n11 + 1, v11 =>
  AR ((decide (v11.2 < (Ex .i64 1 ((v4.length : Int))))))
   ((A0 N p1.fH).bind fun v14 =>
   (A0 N p1.fE).bind fun v15 =>
   (B5 N p1.fI).bind fun v16 =>
   Dr N v4 v11 (fun (v18 : (List Int)) =>
    (Dp (v11.1.length + (([(Ae.mk v14 v18 v16)] : List Ae)).length ≤ C2)).bind fun _ =>
    Dv N p1 v4 j11 n11 (v11.1 ++ (([(Ae.mk v14 v18 v16)] : List Ae)), (wI .i64 (v11.2 + 1)))) N (v15, 0))
   (j11 v11.1)
def HF (N : Nat) (p0 : Ab) (p1 : Ae) : Option ((List Ae) × Int) :=
 (FX N p0 p1).bind fun v1 =>
 AR ((v1 != 0))
  (some (([] : List Ae), v1))
  (Ep N p1 (fun (v4 : (List Int)) =>
   (Dp (0 ≤ (v4.length : Int))).bind fun _ =>
   Dv N p1 v4 (fun (v12 : (List Ae)) =>
    some (v12, 0)) N (([] : List Ae), 0)) N (([] : List Int), 0))
def Cg (N : Nat) (v1 : (List Aa) × Int) (v4 : Ao) (v6 : Int) (v11 : (List Aa) × Int) (v17 : List Bool) (j18 : ((List Aa) × Bool) → Option ((List Aa))) : Nat → ((List Aa) × Bool × Int) → Option ((List Aa))
 | 0, _ => none
 | n18 + 1, v18 =>
  AR ((decide (v18.2.2 < (v17.length : Int))))
   (Bi (fun (v21 : (List Aa) × Bool) =>
    Cg N v1 v4 v6 v11 v17 j18 n18 (v21.1, v21.2, (wI .i64 (v18.2.2 + 1))))
   fun j21 =>
   (Br v17 v18.2.2).bind fun v22 =>
   (Dp (0 ≤ v18.2.2)).bind fun _ =>
   AR (((Hk .u8 ((Gv .u8 v6 v18.2.2)) 1) == 0))
    (j21 (v18.1, v18.2.1))
    (Bi (fun (v25 : Bool) =>
     Bi (fun (v27 : Bool) =>
      AR v27
       ((Dp (v18.1.length + (([(Aa.mk v1.2 v11.2 v18.2.2)] : List Aa)).length ≤ C2)).bind fun _ =>
       j21 (v18.1 ++ (([(Aa.mk v1.2 v11.2 v18.2.2)] : List Aa)), v25))
       (j21 (v18.1, v25)))
     fun j27 =>
     AR ((!v22))
      (j27 (!v4.fS))
      (j27 false))
    fun j25 =>
    AR v18.2.1
     (j25 true)
     (j25 v22)))
   (j18 (v18.1, v18.2.1))
def CC (N : Nat) (v1 : (List Aa) × Int) (v4 : Ao) (v6 : Int) (v7 : Int) (j11 : ((List Aa)) → Option ((List Aa))) : Nat → ((List Aa) × Int) → Option ((List Aa))
 | 0, _ => none
 | n11 + 1, v11 =>
  AR ((decide (v11.2 < (v4.fO.length : Int))))
   (Bi (fun (v14 : (List Aa)) =>
    CC N v1 v4 v6 v7 j11 n11 (v14, (wI .i64 (v11.2 + 1))))
   fun j14 =>
   (Dp (0 ≤ v11.2)).bind fun _ =>
   AR (((Hk .u8 ((Gv .u8 v7 v11.2)) 1) == 0))
    (j14 v11.1)
    ((Br v4.fO v11.2).bind fun v17 =>
    Cg N v1 v4 v6 v11 v17 (fun (v19 : (List Aa) × Bool) =>
     Bi (fun (v31 : Bool) =>
      AR v31
       ((Dp (v19.1.length + (([(Aa.mk v1.2 v11.2 ((-1)))] : List Aa)).length ≤ C2)).bind fun _ =>
       j14 (v19.1 ++ (([(Aa.mk v1.2 v11.2 ((-1)))] : List Aa))))
       (j14 v19.1))
     fun j31 =>
     AR v4.fS
      (j31 (!v19.2))
      (j31 false)) N (v11.1, false, 0)))
   (j11 v11.1)
def DT (N : Nat) (p0 : Ab) (p1 : Ae) (j1 : ((List Aa)) → Option ((List Aa))) : Nat → ((List Aa) × Int) → Option ((List Aa))
 | 0, _ => none
 | n1 + 1, v1 =>
  AR ((decide (v1.2 < (p0.fG.length : Int))))
   ((Br p0.fG v1.2).bind fun v4 =>
   (FN N p1 v4.fK).bind fun v5 =>
   (FN N p1 v4.fP).bind fun v6 =>
   Bi (fun (v7 : Int) =>
    CC N v1 v4 v6 v7 (fun (v12 : (List Aa)) =>
     DT N p0 p1 j1 n1 (v12, (wI .i64 (v1.2 + 1)))) N (v1.1, 0))
   fun j7 =>
   (F9 N v4).bind fun v8 =>
   AR v8
    ((Br p1.fI v1.2).bind fun v10 =>
    j7 v10)
    (j7 v5))
   (j1 v1.1)
def Gk (N : Nat) (p0 : Ab) (p1 : Ae) : Option ((List Aa)) :=
 DT N p0 p1 (fun (v2 : (List Aa)) =>
  some v2) N (([] : List Aa), 0)
def Fq (N : Nat) (p0 : Ab) (v1 : (List Ae) × Int) (j3 : Unit → Option (Ae × Aa × Int)) : Nat → Int → Option (Ae × Aa × Int)
 | 0, _ => none
 | n3 + 1, v3 =>
  AR ((decide (v3 < (v1.1.length : Int))))
   ((Br v1.1 v3).bind fun v6 =>
   (Gk N p0 v6).bind fun v7 =>
   AR ((decide (0 < (v7.length : Int))))
    ((Br v7 0).bind fun v9 =>
    some (v6, v9, 0))
    (Fq N p0 v1 j3 n3 (wI .i64 (v3 + 1))))
   (j3 ())
def H8 (N : Nat) (p0 : Ab) (p1 : Ae) : Option (Ae × Aa × Int) :=
 (HF N p0 p1).bind fun v1 =>
 AR ((v1.2 != 0))
  (some ((Ae.mk (([] : List Int)) (([] : List Int)) (([] : List Int))), (Aa.mk 0 0 0), v1.2))
  (Fq N p0 v1 (fun (_ : Unit) =>
   some ((Ae.mk (([] : List Int)) (([] : List Int)) (([] : List Int))), (Aa.mk 0 0 0), 15)) N 0)
def GP (N : Nat) (p0 : Ab) (p1 : Ae) : Option (Bool × Int) :=
 (H8 N p0 p1).bind fun v1 =>
 AR ((v1.2.2 == 0))
  (some (false, 0))
  (AR ((v1.2.2 == 15))
   (some (true, 0))
   (some (false, v1.2.2)))
def Fg (N : Nat) (p0 : Ae) (j2 : ((List Int)) → Option ByteArray) : Nat → ((List Int) × Int) → Option ByteArray
 | 0, _ => none
 | n2 + 1, v2 =>
  AR ((decide (v2.2 < (p0.fH.length : Int))))
   ((Br p0.fH v2.2).bind fun v5 =>
   (Br p0.fE v2.2).bind fun v6 =>
   (Dp (v2.1.length + (([(wI .u8 v5), (wI .u8 ((wI .i64 (v6 + 1))))] : List Int)).length ≤ C2)).bind fun _ =>
   Fg N p0 j2 n2 (v2.1 ++ (([(wI .u8 v5), (wI .u8 ((wI .i64 (v6 + 1))))] : List Int)), (wI .i64 (v2.2 + 1))))
   (j2 v2.1)
def D6 (N : Nat) (p0 : Ae) (j8 : ((List Int)) → Option ByteArray) : Nat → ((List Int) × Int) → Option ByteArray
 | 0, _ => none
 | n8 + 1, v8 =>
  AR ((decide (v8.2 < (p0.fI.length : Int))))
   ((Br p0.fI v8.2).bind fun v11 =>
   (Dp (v8.1.length + (([v11] : List Int)).length ≤ C2)).bind fun _ =>
   D6 N p0 j8 n8 (v8.1 ++ (([v11] : List Int)), (wI .i64 (v8.2 + 1))))
   (j8 v8.1)
def HW (N : Nat) (p0 : Ae) : Option ByteArray :=
 (Dp ((0 : Int) ≤ 0 ∧ 0 ≤ (wI .i64 ((wI .i64 (2 * (p0.fH.length : Int))) + (p0.fI.length : Int))) ∧ (wI .i64 ((wI .i64 (2 * (p0.fH.length : Int))) + (p0.fI.length : Int))) ≤ (C2 : Int))).bind fun _ =>
 Fg N p0 (fun (v3 : (List Int)) =>
  D6 N p0 (fun (v9 : (List Int)) =>
   some ((CU v9))) N (v3, 0)) N (List.replicate (0 : Int).toNat ((0 : Int)), 0)
def Fm (N : Nat) (v1 : (List Af) × Int) (v4 : Int) (j5 : ((List Af)) → Option ((List Af))) : Nat → ((List Af) × Int) → Option ((List Af))
 | 0, _ => none
 | n5 + 1, v5 =>
  AR ((decide (v5.2 < v4)))
   ((Dp (v5.1.length + (([(Af.mk 1 v1.2 v5.2)] : List Af)).length ≤ C2)).bind fun _ =>
   Fm N v1 v4 j5 n5 (v5.1 ++ (([(Af.mk 1 v1.2 v5.2)] : List Af)), (wI .i64 (v5.2 + 1))))
   (j5 v5.1)
def Dz (N : Nat) (p0 : Ab) (j1 : ((List Af)) → Option ((List Af))) : Nat → ((List Af) × Int) → Option ((List Af))
 | 0, _ => none
 | n1 + 1, v1 =>
  AR ((decide (v1.2 < (p0.fF.length : Int))))
   ((Br p0.fF v1.2).bind fun v4 =>
   Fm N v1 v4 (fun (v6 : (List Af)) =>
    Dz N p0 j1 n1 (v6, (wI .i64 (v1.2 + 1)))) N (v1.1, 0))
   (j1 v1.1)
def Cz (N : Nat) (p0 : Ab) (j9 : ((List Af)) → Option ((List Af))) : Nat → ((List Af) × Int) → Option ((List Af))
 | 0, _ => none
 | n9 + 1, v9 =>
  AR ((decide (v9.2 < (p0.fF.length : Int))))
   ((Dp (v9.1.length + (([(Af.mk 2 v9.2 0)] : List Af)).length ≤ C2)).bind fun _ =>
   Cz N p0 j9 n9 (v9.1 ++ (([(Af.mk 2 v9.2 0)] : List Af)), (wI .i64 (v9.2 + 1))))
   (j9 v9.1)
def By (N : Nat) (p0 : Ab) (j13 : ((List Af)) → Option ((List Af))) : Nat → ((List Af) × Int) → Option ((List Af))
 | 0, _ => none
 | n13 + 1, v13 =>
  AR ((decide (v13.2 < (p0.fG.length : Int))))
   ((Dp (v13.1.length + (([(Af.mk 3 v13.2 0)] : List Af)).length ≤ C2)).bind fun _ =>
   By N p0 j13 n13 (v13.1 ++ (([(Af.mk 3 v13.2 0)] : List Af)), (wI .i64 (v13.2 + 1))))
   (j13 v13.1)
def IT (N : Nat) (p0 : Ab) : Option ((List Af)) :=
 Dz N p0 (fun (v2 : (List Af)) =>
  Cz N p0 (fun (v10 : (List Af)) =>
   By N p0 (fun (v14 : (List Af)) =>
    some v14) N (v10, 0)) N (v2, 0)) N (([] : List Af), 0)
def Hc (N : Nat) (p0 : Ae) : Option Ae :=
 (A0 N p0.fH).bind fun v1 =>
 (A0 N p0.fE).bind fun v2 =>
 (B5 N p0.fI).bind fun v3 =>
 some ((Ae.mk v1 v2 v3))
def Gi (_ : Nat) (p0 : Ao) : Option Bool :=
 Bi (fun (v1 : Bool) =>
  some v1)
 fun j1 =>
 AR ((p0.fJ == 3))
  (j1 true)
  (j1 (p0.fJ == 4))
def Ei (N : Nat) (p0 : Ab) (p2 : Af) (j7 : ((List Int)) → Option (Bool × (List Int) × (List Int))) : Nat → ((List Int) × Int) → Option (Bool × (List Int) × (List Int))
 | 0, _ => none
 | n7 + 1, v7 =>
  AR ((decide (v7.2 < (p0.fG.length : Int))))
   (Bi (fun (v10 : (List Int)) =>
    Ei N p0 p2 j7 n7 (v10, (wI .i64 (v7.2 + 1))))
   fun j10 =>
   (Br p0.fG v7.2).bind fun v11 =>
   Bi (fun (v12 : Bool) =>
    AR v12
     ((Br v7.1 v7.2).bind fun v16 =>
     (Dp (0 ≤ p2.fT)).bind fun _ =>
     (Br v7.1 v7.2).bind fun _ =>
     j10 (v7.1.set ((v7.2).toNat) ((QD .u8 v16 ((Ex .u8 1 p2.fT))))))
     (j10 v7.1))
   fun j12 =>
   AR ((v11.fK == p2.fN))
    ((Gi N v11).bind fun v14 =>
    j12 v14)
    (j12 false))
   (j7 v7.1)
def IG (N : Nat) (p0 : Ab) (p1 : Ae) (p2 : Af) : Option (Bool × (List Int) × (List Int)) :=
 Bi (fun (v1 : Bool) =>
  AR v1
   (some (false, p1.fE, p1.fI))
   ((Br p1.fE p2.fN).bind fun _ =>
   Ei N p0 p2 (fun (v8 : (List Int)) =>
    some (true, p1.fE.set ((p2.fN).toNat) p2.fT, v8)) N (p1.fI, 0)))
 fun j1 =>
 (Br p1.fE p2.fN).bind fun v2 =>
 AR ((decide (0 ≤ v2)))
  (j1 true)
  ((Br p1.fH p2.fN).bind fun v4 =>
  j1 (v4 == p2.fT))
def GM (_ : Nat) (p0 : Ae) (p1 : Int) : Option Int :=
 (Br p0.fH p1).bind fun v1 =>
 (Dp (0 ≤ v1)).bind fun _ =>
 Bi (fun (v3 : Int) =>
  some v3)
 fun j3 =>
 (Br p0.fE p1).bind fun v4 =>
 AR ((decide (0 ≤ v4)))
  ((Br p0.fE p1).bind fun v6 =>
  (Dp (0 ≤ v6)).bind fun _ =>
  j3 (QD .u8 ((Ex .u8 1 v1)) ((Ex .u8 1 v6))))
  (j3 (Ex .u8 1 v1))
def Du (_ : Nat) (p0 : Int) : Option Int :=
 (ZJ ((⟨⟨(List.append (List.append [8, 0, 1, 0, 2, 0, 1, 0, 3, 0, 1, 0, 2, 0, 1, 0, 4, 0, 1, 0, 2, 0, 1, 0, 3, 0, 1, 0, 2, 0, 1, 0, 5, 0, 1, 0, 2, 0, 1, 0, 3, 0, 1, 0, 2, 0, 1, 0, 4, 0, 1, 0, 2, 0, 1, 0, 3, 0, 1, 0, 2, 0, 1, 0] [6, 0, 1, 0, 2, 0, 1, 0, 3, 0, 1, 0, 2, 0, 1, 0, 4, 0, 1, 0, 2, 0, 1, 0, 3, 0, 1, 0, 2, 0, 1, 0, 5, 0, 1, 0, 2, 0, 1, 0, 3, 0, 1, 0, 2, 0, 1, 0, 4, 0, 1, 0, 2, 0, 1, 0, 3, 0, 1, 0, 2, 0, 1, 0]) (List.append [7, 0, 1, 0, 2, 0, 1, 0, 3, 0, 1, 0, 2, 0, 1, 0, 4, 0, 1, 0, 2, 0, 1, 0, 3, 0, 1, 0, 2, 0, 1, 0, 5, 0, 1, 0, 2, 0, 1, 0, 3, 0, 1, 0, 2, 0, 1, 0, 4, 0, 1, 0, 2, 0, 1, 0, 3, 0, 1, 0, 2, 0, 1, 0] [6, 0, 1, 0, 2, 0, 1, 0, 3, 0, 1, 0, 2, 0, 1, 0, 4, 0, 1, 0, 2, 0, 1, 0, 3, 0, 1, 0, 2, 0, 1, 0, 5, 0, 1, 0, 2, 0, 1, 0, 3, 0, 1, 0, 2, 0, 1, 0, 4, 0, 1, 0, 2, 0, 1, 0, 3, 0, 1, 0, 2, 0, 1, 0]))⟩⟩ : ByteArray)) p0).bind fun v1 =>
 some ((wI .i64 v1))
def D0 (N : Nat) (p0 : Ao) (p2 : Int) (j1 : Unit → Option Bool) : Nat → Int → Option Bool
 | 0, _ => none
 | n1 + 1, v1 =>
  AR ((v1 != 0))
   ((Du N v1).bind fun v4 =>
   (Br p0.fR v4).bind fun v5 =>
   (Br v5 p2).bind fun v6 =>
   AR ((!v6))
    (some false)
    (D0 N p0 p2 j1 n1 (Hk .u8 v1 ((wI .u8 (v1 - 1))))))
   (j1 ())
def GD (N : Nat) (p0 : Ao) (p1 : Int) (p2 : Int) : Option Bool :=
 D0 N p0 p2 (fun (_ : Unit) =>
  some true) N p1
def HA (N : Nat) (p0 : Ab) (p1 : Ae) (p2 : Int) : Option (Bool × (List Int)) :=
 (Br p0.fG p2).bind fun v1 =>
 (Gi N v1).bind fun v2 =>
 AR ((!v2))
  (some (false, p1.fI))
  ((GM N p1 v1.fK).bind fun v4 =>
  (Br p1.fI p2).bind fun v5 =>
  Bi (fun (v6 : Bool) =>
   AR v6
    (some (false, p1.fI))
    ((Br p1.fI p2).bind fun _ =>
    some (true, p1.fI.set ((p2).toNat) v4)))
  fun j6 =>
  (Br p1.fI p2).bind fun v7 =>
  AR ((v7 == v4))
   (j6 true)
   (AR ((v1.fJ == 4))
    ((Br p1.fH v1.fK).bind fun v10 =>
    (GD N v1 ((DL .u8 v5 v4)) v10).bind fun v11 =>
    j6 (!v11))
    (j6 false)))
def F8 (N : Nat) (p0 : Ab) (p1 : Ae) (p2 : Af) : Option (Ae × Bool) :=
 (Hc N p1).bind fun v1 =>
 AR ((p2.fJ == 1))
  ((IG N p0 v1 p2).bind fun v3 =>
  some ((Ae.mk v1.fH v3.2.1 v3.2.2), v3.1))
  (AR ((p2.fJ == 3))
   ((HA N p0 v1 p2.fN).bind fun v5 =>
   some ((Ae.mk v1.fH v1.fE v5.2), v5.1))
   ((Br v1.fE p2.fN).bind fun v6 =>
   AR ((decide (v6 < 0)))
    (some (v1, false))
    ((Br v1.fE p2.fN).bind fun _ =>
    Bi (fun (v9 : (List Int)) =>
     some ((Ae.mk v9 (v1.fE.set ((p2.fN).toNat) ((-1))) v1.fI), true))
    fun j9 =>
    AR ((p2.fJ == 2))
     ((Br v1.fH p2.fN).bind fun _ =>
     j9 (v1.fH.set ((p2.fN).toNat) v6))
     (j9 v1.fH))))
def DW (N : Nat) (p0 : Af) (p1 : List Int) (p2 : List Int) (p3 : List Int) (p4 : List Ao) (p5 : List Int) (p6 : List Int) (p7 : List Int) : Option Bool :=
 (F8 N ((Ab.mk p1 p2 p3 p4)) ((Ae.mk p5 p6 p7)) p0).bind fun v1 =>
 some ((!v1.2))
def A4 (N : Nat) (p0 : List Af) (p1 : Af → Option Bool) (j1 : Unit → Option Int) : Nat → Int → Option Int
 | 0, _ => none
 | n1 + 1, v1 =>
  AR ((decide (v1 < (p0.length : Int))))
   ((Br p0 v1).bind fun v4 =>
   (p1 v4).bind fun v5 =>
   AR v5
    (some v1)
    (A4 N p0 p1 j1 n1 (wI .i64 (v1 + 1))))
   (j1 ())
def BV (N : Nat) (p0 : List Af) (p1 : Af → Option Bool) : Option Int :=
 A4 N p0 p1 (fun (_ : Unit) =>
  some ((-1))) N 0
def AW (N : Nat) (p1 : Af → Option Bool) (j3 : ((List Af) × Int) → Option (Nat × (List Af))) : Nat → ((List Af) × Int × Int) → Option (Nat × (List Af))
 | 0, _ => none
 | n3 + 1, v3 =>
  AR ((decide (v3.2.2 < (v3.1.length : Int))))
   (Bi (fun (v6 : (List Af) × Int) =>
    AW N p1 j3 n3 (v6.1, v6.2, (wI .i64 (v3.2.2 + 1))))
   fun j6 =>
   (Br v3.1 v3.2.2).bind fun v7 =>
   (p1 v7).bind fun v8 =>
   AR ((!v8))
    ((Br v3.1 v3.2.1).bind fun _ =>
    j6 (v3.1.set ((v3.2.1).toNat) v7, (wI .i64 (v3.2.1 + 1))))
    (j6 (v3.1, v3.2.1)))
   (j3 (v3.1, v3.2.1))
def BQ (N : Nat) (p0 : List Af) (p1 : Af → Option Bool) : Option (Nat × (List Af)) :=
 (BV N p0 p1).bind fun v1 =>
 AR ((v1 == (-1)))
  (some (p0.length, p0))
  (AW N p1 (fun (v4 : (List Af) × Int) =>
   (Dp ((0 : Int) ≤ v4.2 ∧ (v4.2).toNat ≤ v4.1.length ∧ v4.1.length ≤ v4.1.length)).bind fun _ =>
   (Dp ((0 : Int) ≤ v4.2 ∧ 0 ≤ (v4.2).toNat ∧ (v4.2).toNat ≤ (Gx v4.1 ((v4.2).toNat) (List.replicate ((v4.1.length - (v4.2).toNat)) ((Af.mk 0 0 0)))).length)).bind fun _ =>
   some ((v4.2).toNat, Gx v4.1 ((v4.2).toNat) (List.replicate ((v4.1.length - (v4.2).toNat)) ((Af.mk 0 0 0))))) N (p0, v1, (wI .i64 (v1 + 1))))
def GJ (N : Nat) (p0 : Ab) (p1 : Ae) : Option ((List Af) × Int) :=
 (FX N p0 p1).bind fun v1 =>
 AR ((v1 != 0))
  (some (([] : List Af), v1))
  ((IT N p0).bind fun v3 =>
  (BQ N v3 ((fun (x : Af) => DW N x p0.fF p0.fL p0.fQ p0.fG p1.fH p1.fE p1.fI))).bind fun v4 =>
  (Dp (v4.1 ≤ v4.2.length)).bind fun _ =>
  some (v4.2.take v4.1, 0))
def HL (_ : Nat) (p0 : Af) : Option Bool :=
 Bi (fun (v1 : Bool) =>
  AR v1
   (some false)
   (Bi (fun (v5 : Bool) =>
    some v5)
   fun j5 =>
   AR ((p0.fJ == 1))
    (j5 true)
    (j5 (p0.fT == 0))))
 fun j1 =>
 AR ((decide ((Xq p0.fN p0.fT) < 0)))
  (j1 true)
  (AR ((decide (p0.fJ < 1)))
   (j1 true)
   (j1 (decide (4 < p0.fJ))))
def G9 (_ : Nat) (p0 : Ab) (p1 : Af) : Option Bool :=
 AR ((p1.fJ == 3))
  (some ((decide (p1.fN < (p0.fG.length : Int)))))
  (Bi (fun (v2 : Bool) =>
   some v2)
  fun j2 =>
  AR ((decide (p1.fN < (p0.fF.length : Int))))
   (AR ((p1.fJ != 1))
    (j2 true)
    ((Br p0.fF p1.fN).bind fun v5 =>
    j2 (decide (p1.fT < v5))))
   (j2 false))
def HE (N : Nat) (p0 : Ab) (p1 : Ae) (p2 : Af) : Option (Ae × Int) :=
 (HL N p2).bind fun v1 =>
 AR ((!v1))
  (some ((Ae.mk (([] : List Int)) (([] : List Int)) (([] : List Int))), 1))
  ((G9 N p0 p2).bind fun v3 =>
  AR ((!v3))
   (some ((Ae.mk (([] : List Int)) (([] : List Int)) (([] : List Int))), 4))
   ((F8 N p0 p1 p2).bind fun v5 =>
   AR ((!v5.2))
    (some ((Ae.mk (([] : List Int)) (([] : List Int)) (([] : List Int))), 11))
    (some (v5.1, 0))))
def Hv (N : Nat) (p0 : Ab) (p1 : Ae) (p2 : Af) : Option (Ae × Int) :=
 (FX N p0 p1).bind fun v1 =>
 AR ((v1 != 0))
  (some ((Ae.mk (([] : List Int)) (([] : List Int)) (([] : List Int))), v1))
  ((HE N p0 p1 p2).bind fun v3 =>
  some (v3.1, v3.2))
def CJ (N : Nat) (p0 : Ab) (v2 : (List AF) × (List (ByteArray × Int)) × Int) (v6 : (List Af) × Int) (j8 : ((List AF) × (List (ByteArray × Int))) → Option ((List AF) × Int)) : Nat → ((List AF) × (List (ByteArray × Int)) × Int) → Option ((List AF) × Int)
 | 0, _ => none
 | n8 + 1, v8 =>
  AR ((decide (v8.2.2 < (v6.1.length : Int))))
   ((Br v6.1 v8.2.2).bind fun v11 =>
   (Br v8.1 v2.2.2).bind fun v12 =>
   (Hv N p0 ((Ae.mk v12.fU.fH v12.fU.fE v12.fU.fI)) v11).bind fun v13 =>
   AR ((v13.2 != 0))
    (some (([] : List AF), v13.2))
    ((HW N v13.1).bind fun v15 =>
    Bi (fun (v16 : (List AF) × (List (ByteArray × Int)) × Int) =>
     Bi (fun (v24 : (List AF)) =>
      AR ((decide (20000 < (v24.length : Int))))
       (some (([] : List AF), 3))
       (CJ N p0 v2 v6 j8 n8 (v24, v16.2.1, (wI .i64 (v8.2.2 + 1)))))
     fun j24 =>
     AR ((decide (0 ≤ v16.2.2)))
      ((Br v16.1 v2.2.2).bind fun v26 =>
      (Dp (v26.fE.length + (([v16.2.2] : List Int)).length ≤ C2)).bind fun _ =>
      (Br v16.1 v2.2.2).bind fun v28 =>
      j24 (v16.1.set ((v2.2.2).toNat) ((AF.mk ((Ae.mk v28.fU.fH v28.fU.fE v28.fU.fI)) v28.fK ((Af.mk v28.fY.fJ v28.fY.fN v28.fY.fT)) (v26.fE ++ (([v16.2.2] : List Int)))))))
      (j24 v16.1))
    fun j16 =>
    AR ((!((LJ v15 v8.2.1).isSome)))
     (Bi (fun (v18 : (List AF) × Int) =>
      j16 (v18.1, NT v15 v18.2 v8.2.1, v18.2))
     fun j18 =>
     (GP N p0 v13.1).bind fun v19 =>
     Bi (fun (v20 : Bool) =>
      AR v20
       (j18 (v8.1, (-1)))
       ((Dp (v8.1.length + (([(AF.mk v13.1 v2.2.2 v11 (([] : List Int)))] : List AF)).length ≤ C2)).bind fun _ =>
       j18 (v8.1 ++ (([(AF.mk v13.1 v2.2.2 v11 (([] : List Int)))] : List AF)), (v8.1.length : Int))))
     fun j20 =>
     AR ((v19.2 != 0))
      (j20 true)
      (j20 (!v19.1)))
     (j16 (v8.1, v8.2.1, ((LJ v15 v8.2.1).getD 0)))))
   (j8 (v8.1, v8.2.1))
def DZ (N : Nat) (p0 : Ab) (j2 : ((List AF)) → Option ((List AF) × Int)) : Nat → ((List AF) × (List (ByteArray × Int)) × Int) → Option ((List AF) × Int)
 | 0, _ => none
 | n2 + 1, v2 =>
  AR ((decide (v2.2.2 < (v2.1.length : Int))))
   ((Br v2.1 v2.2.2).bind fun v5 =>
   (GJ N p0 ((Ae.mk v5.fU.fH v5.fU.fE v5.fU.fI))).bind fun v6 =>
   AR ((v6.2 != 0))
    (some (([] : List AF), v6.2))
    (CJ N p0 v2 v6 (fun (v9 : (List AF) × (List (ByteArray × Int))) =>
     DZ N p0 j2 n2 (v9.1, v9.2, (wI .i64 (v2.2.2 + 1)))) N (v2.1, v2.2.1, 0)))
   (j2 v2.1)
def He (N : Nat) (p0 : Ab) (p1 : Ae) : Option ((List AF) × Int) :=
 (HW N p1).bind fun v1 =>
 DZ N p0 (fun (v3 : (List AF)) =>
  some (v3, 0)) N (([(AF.mk p1 ((-1)) ((Af.mk 0 0 0)) (([] : List Int)))] : List AF), NT v1 0 (([] : List (ByteArray × Int))), 0)
def Cj (N : Nat) (p0 : List Int) (p1 : List Int) (j2 : Unit → Option Bool) : Nat → Int → Option Bool
 | 0, _ => none
 | n2 + 1, v2 =>
  AR ((decide (v2 < (p0.length : Int))))
   ((Br p0 v2).bind fun v5 =>
   (Br p1 v2).bind fun v6 =>
   AR ((v5 != v6))
    (some false)
    (Cj N p0 p1 j2 n2 (wI .i64 (v2 + 1))))
   (j2 ())
def Eo (N : Nat) (p0 : List Int) (p1 : List Int) : Option Bool :=
 AR (((p0.length : Int) != (p1.length : Int)))
  (some false)
  (Cj N p0 p1 (fun (_ : Unit) =>
   some true) N 0)
def Bo (N : Nat) (p0 : List Int) (p1 : Int → Option Bool) (j1 : Unit → Option Int) : Nat → Int → Option Int
 | 0, _ => none
 | n1 + 1, v1 =>
  AR ((decide (v1 < (p0.length : Int))))
   ((Br p0 v1).bind fun v4 =>
   (p1 v4).bind fun v5 =>
   AR v5
    (some v1)
    (Bo N p0 p1 j1 n1 (wI .i64 (v1 + 1))))
   (j1 ())
def Eu (N : Nat) (p0 : List Int) (p1 : Int → Option Bool) : Option Int :=
 Bo N p0 p1 (fun (_ : Unit) =>
  some ((-1))) N 0
def CW (N : Nat) (p0 : List Int) (p1 : Int → Option Bool) : Option Bool :=
 (Eu N p0 p1).bind fun v1 =>
 some ((decide (0 ≤ v1)))
def Hy (_ : Nat) (p0 : Int) : Option Bool :=
 some ((decide (0 ≤ p0)))
def IX (N : Nat) (p0 : Ab) (p1 : Ae) : Option Bool :=
 Bi (fun (v1 : Bool) =>
  some v1)
 fun j1 =>
 (FX N p0 p1).bind fun v2 =>
 AR ((v2 == 0))
  ((Eo N p1.fH p0.fQ).bind fun v4 =>
  AR v4
   ((CW N p1.fE ((fun (x : Int) => Hy N x))).bind fun v6 =>
   j1 (!v6))
   (j1 false))
  (j1 false)
def Fn (N : Nat) (p0 : AF) (p1 : List Int) (p2 : List Int) (p3 : List Int) (p4 : List Ao) : Option Bool :=
 (IX N ((Ab.mk p1 p2 p3 p4)) ((Ae.mk p0.fU.fH p0.fU.fE p0.fU.fI))).bind fun v1 =>
 some v1
def AU (N : Nat) (p0 : List AF) (p1 : AF → Option Bool) (j1 : Unit → Option Int) : Nat → Int → Option Int
 | 0, _ => none
 | n1 + 1, v1 =>
  AR ((decide (v1 < (p0.length : Int))))
   ((Br p0 v1).bind fun v4 =>
   (p1 ((AF.mk ((Ae.mk v4.fU.fH v4.fU.fE v4.fU.fI)) v4.fK ((Af.mk v4.fY.fJ v4.fY.fN v4.fY.fT)) v4.fE))).bind fun v5 =>
   AR v5
    (some v1)
    (AU N p0 p1 j1 n1 (wI .i64 (v1 + 1))))
   (j1 ())
def Cw (N : Nat) (p0 : List AF) (p1 : AF → Option Bool) : Option Int :=
 AU N p0 p1 (fun (_ : Unit) =>
  some ((-1))) N 0
def Bj (N : Nat) (j1 : ((List Af)) → Option ((List Af))) : Nat → ((List Af) × Int × Int) → Option ((List Af))
 | 0, _ => none
 | n1 + 1, v1 =>
  AR ((decide (v1.2.1 < v1.2.2)))
   ((Br v1.1 v1.2.2).bind fun v4 =>
   (Br v1.1 v1.2.1).bind fun v5 =>
   (Br v1.1 v1.2.1).bind fun _ =>
   (Br (v1.1.set ((v1.2.1).toNat) v4) v1.2.2).bind fun _ =>
   Bj N j1 n1 ((v1.1.set ((v1.2.1).toNat) v4).set ((v1.2.2).toNat) v5, (wI .i64 (v1.2.1 + 1)), (wI .i64 (v1.2.2 - 1))))
   (j1 v1.1)
def Bz (N : Nat) (p0 : List Af) : Option ((List Af)) :=
 Bj N (fun (v2 : (List Af)) =>
  some v2) N (p0, 0, (wI .i64 ((p0.length : Int) - 1)))
def Gp (N : Nat) (p0 : List AF) (j1 : ((List Af)) → Option ((List Af))) : Nat → (Int × (List Af)) → Option ((List Af))
 | 0, _ => none
 | n1 + 1, v1 =>
  (Br p0 v1.1).bind fun v3 =>
  AR ((decide (0 ≤ v3.fK)))
   ((Br p0 v1.1).bind fun v5 =>
   (Dp (v1.2.length + (([(Af.mk v5.fY.fJ v5.fY.fN v5.fY.fT)] : List Af)).length ≤ C2)).bind fun _ =>
   (Br p0 v1.1).bind fun v7 =>
   Gp N p0 j1 n1 (v7.fK, v1.2 ++ (([(Af.mk v5.fY.fJ v5.fY.fN v5.fY.fT)] : List Af))))
   (j1 v1.2)
def J5 (N : Nat) (p0 : List AF) (p1 : Int) : Option ((List Af)) :=
 Gp N p0 (fun (v2 : (List Af)) =>
  (Bz N v2).bind fun v8 =>
  some v8) N (p1, ([] : List Af))
def F5 (N : Nat) (p0 : Ab) (p1 : Ae) : Option ((List Af) × Int) :=
 (GP N p0 p1).bind fun v1 =>
 AR ((v1.2 != 0))
  (some (([] : List Af), v1.2))
  (AR ((!v1.1))
   (some (([] : List Af), 13))
   ((He N p0 p1).bind fun v4 =>
   AR ((v4.2 != 0))
    (some (([] : List Af), v4.2))
    ((Cw N v4.1 ((fun (x : AF) => Fn N x p0.fF p0.fL p0.fQ p0.fG))).bind fun v6 =>
    AR ((decide (v6 < 0)))
     (some (([] : List Af), 14))
     ((J5 N v4.1 v6).bind fun v8 =>
     some (v8, 0)))))
def GF (N : Nat) (p0 : Ab) : Option ((List Af) × Int) :=
 (Ir N p0).bind fun v1 =>
 AR ((v1.2 != 0))
  (some (([] : List Af), v1.2))
  ((F5 N p0 v1.1).bind fun v3 =>
  some (v3.1, v3.2))
def Ed (N : Nat) (p0 : Ab) (p1 : List Aa) : Option (Bool × Int) :=
 (GK N p0 p1).bind fun v1 =>
 (GF N v1).bind fun v2 =>
 AR ((v2.2 == 3))
  (some (false, v2.2))
  (some ((v2.2 == 0), 0))
def DV (N : Nat) (p0 : Ab) (v7 : (List (List Aa))) (j8 : ((List (List Aa))) → Option ((List (List Aa)) × Int)) : Nat → ((List (List Aa)) × Int) → Option ((List (List Aa)) × Int)
 | 0, _ => none
 | n8 + 1, v8 =>
  AR ((decide (v8.2 < (v7.length : Int))))
   (Bi (fun (v11 : (List (List Aa))) =>
    DV N p0 v7 j8 n8 (v11, (wI .i64 (v8.2 + 1))))
   fun j11 =>
   (Br v7 v8.2).bind fun v12 =>
   (Ed N p0 v12).bind fun v13 =>
   AR ((v13.2 != 0))
    (some (([] : List (List Aa)), v13.2))
    (AR v13.1
     ((Dp (v8.1.length + (([v12] : List (List Aa))).length ≤ C2)).bind fun _ =>
     j11 (v8.1 ++ (([v12] : List (List Aa)))))
     (j11 v8.1)))
   (j8 v8.1)
def EC (N : Nat) (p0 : Ab) (j4 : Unit → Option ((List (List Aa)) × Int)) : Nat → ((List Aa) × Int) → Option ((List (List Aa)) × Int)
 | 0, _ => none
 | n4 + 1, v4 =>
  AR ((decide (v4.2 ≤ 3)))
   ((I5 N v4.1 v4.2).bind fun v7 =>
   DV N p0 v7 (fun (v9 : (List (List Aa))) =>
    AR ((decide (0 < (v9.length : Int))))
     (some (v9, 0))
     (EC N p0 j4 n4 (v4.1, (wI .i64 (v4.2 + 1))))) N (([] : List (List Aa)), 0))
   (j4 ())
def Gq (N : Nat) (p0 : Ab) : Option ((List (List Aa)) × Int) :=
 (E1 N p0).bind fun v1 =>
 AR ((v1.2 != 0))
  (some (([] : List (List Aa)), v1.2))
  (AR ((decide (24 < (v1.1.length : Int))))
   (some (([] : List (List Aa)), 3))
   (EC N p0 (fun (_ : Unit) =>
    some (([] : List (List Aa)), 14)) N (v1.1, 0)))
def AX (N : Nat) (p0 : List Aa) (p1 : Aa) (j1 : Unit → Option Int) : Nat → Int → Option Int
 | 0, _ => none
 | n1 + 1, v1 =>
  AR ((decide (v1 < (p0.length : Int))))
   ((Br p0 v1).bind fun v4 =>
   AR (((p1.fW == v4.fW) && ((p1.fV == v4.fV) && ((p1.fX == v4.fX) && true))))
    (some v1)
    (AX N p0 p1 j1 n1 (wI .i64 (v1 + 1))))
   (j1 ())
def Ci (N : Nat) (p0 : List Aa) (p1 : Aa) : Option Int :=
 AX N p0 p1 (fun (_ : Unit) =>
  some ((-1))) N 0
def Bm (N : Nat) (p0 : List Aa) (p1 : Aa) : Option Bool :=
 (Ci N p0 p1).bind fun v1 =>
 some ((decide (0 ≤ v1)))
def EF (N : Nat) (p1 : List Aa) (v3 : (List Aa)) (j4 : Unit → Option Int) : Nat → Int → Option Int
 | 0, _ => none
 | n4 + 1, v4 =>
  AR ((decide (v4 < (p1.length : Int))))
   ((Br p1 v4).bind fun v7 =>
   (Bm N v3 v7).bind fun v8 =>
   AR ((!v8))
    (some 4)
    (EF N p1 v3 j4 n4 (wI .i64 (v4 + 1))))
   (j4 ())
def Gj (N : Nat) (p0 : Ab) (p1 : List Aa) : Option Int :=
 (BD N p0).bind fun v1 =>
 AR ((v1 != 0))
  (some v1)
  ((Eb N p0).bind fun v3 =>
  EF N p1 v3 (fun (_ : Unit) =>
   some 0) N 0)
def A2 (_ : Nat) (p0 : List Aa) : Option ((List Aa)) :=
 (Dp ((([] : List Aa)).length + p0.length ≤ C2)).bind fun _ =>
 some ((([] : List Aa)) ++ p0)
def CX (_ : Nat) (p0 : List Aa) (p1 : (Aa × Aa) → Option Int) : Option (List Aa) := Ra p1 HN p0
def Gu (_ : Nat) (p0 : Int) : Option Bool :=
 some ((p0 != p0))
def Ea (N : Nat) (p0 : Int) (p1 : Int) : Option Int :=
 (Gu N p0).bind fun v1 =>
 (Gu N p1).bind fun v2 =>
 AR v1
  (AR v2
   (some 0)
   (some ((-1))))
  (AR v2
   (some 1)
   (AR ((decide (p0 < p1)))
    (some ((-1)))
    (AR ((decide (p1 < p0)))
     (some 1)
     (some 0))))
def FI (N : Nat) (p0 : List Int) (j1 : Unit → Option Int) : Nat → Int → Option Int
 | 0, _ => none
 | n1 + 1, v1 =>
  AR ((decide (v1 < (p0.length : Int))))
   ((Br p0 v1).bind fun v4 =>
   AR ((v4 != 0))
    (some v4)
    (FI N p0 j1 n1 (wI .i64 (v1 + 1))))
   (j1 ())
def Hx (N : Nat) (p0 : List Int) : Option Int :=
 FI N p0 (fun (_ : Unit) =>
  some 0) N 0
def DD (N : Nat) (p0 : Aa) (p1 : Aa) : Option Int :=
 (Ea N p0.fW p1.fW).bind fun v1 =>
 (Ea N p0.fV p1.fV).bind fun v2 =>
 (Ea N p0.fX p1.fX).bind fun v3 =>
 (Hx N (([v1, v2, v3] : List Int))).bind fun v4 =>
 some v4
def BH (N : Nat) (p0 : List Aa) (v2 : Int) (j10 : ((List Aa) × Int) → Option (Nat × (List Aa))) : Nat → ((List Aa) × Int × Int) → Option (Nat × (List Aa))
 | 0, _ => none
 | n10 + 1, v10 =>
  AR ((decide (v10.2.2 < ((((p0.length - (v2).toNat)) : Nat) : Int))))
   (Bi (fun (v13 : (List Aa) × Int) =>
    BH N p0 v2 j10 n10 (v13.1, v13.2, (wI .i64 (v10.2.2 + 1))))
   fun j13 =>
   (Dp (((v2).toNat) + ((p0.length - (v2).toNat)) ≤ v10.1.length)).bind fun _ =>
   (Br (((v10.1.drop ((v2).toNat)).take ((p0.length - (v2).toNat)))) v10.2.2).bind fun v14 =>
   (Br (((v10.1.drop ((v2).toNat)).take ((p0.length - (v2).toNat)))) ((wI .i64 (v10.2.2 - 1)))).bind fun v16 =>
   AR ((!((v14.fW == v16.fW) && ((v14.fV == v16.fV) && ((v14.fX == v16.fX) && true)))))
    ((Br (((v10.1.drop ((v2).toNat)).take ((p0.length - (v2).toNat)))) v10.2.2).bind fun v18 =>
    (Br v10.1 v10.2.1).bind fun _ =>
    j13 (v10.1.set ((v10.2.1).toNat) v18, (wI .i64 (v10.2.1 + 1))))
    (j13 (v10.1, v10.2.1)))
   (j10 (v10.1, v10.2.1))
def BM (N : Nat) (p0 : List Aa) (j2 : Unit → Option (Nat × (List Aa))) : Nat → Int → Option (Nat × (List Aa))
 | 0, _ => none
 | n2 + 1, v2 =>
  AR ((decide (v2 < (p0.length : Int))))
   ((Br p0 v2).bind fun v5 =>
   (Br p0 ((wI .i64 (v2 - 1)))).bind fun v6 =>
   AR (((v5.fW == v6.fW) && ((v5.fV == v6.fV) && ((v5.fX == v6.fX) && true))))
    ((Dp ((0 : Int) ≤ v2 ∧ (v2).toNat ≤ p0.length ∧ p0.length ≤ p0.length)).bind fun _ =>
    BH N p0 v2 (fun (v11 : (List Aa) × Int) =>
     (Dp ((0 : Int) ≤ v11.2 ∧ (v11.2).toNat ≤ v11.1.length ∧ v11.1.length ≤ v11.1.length)).bind fun _ =>
     (Dp ((0 : Int) ≤ v11.2 ∧ 0 ≤ (v11.2).toNat ∧ (v11.2).toNat ≤ (Gx v11.1 ((v11.2).toNat) (List.replicate ((v11.1.length - (v11.2).toNat)) ((Aa.mk 0 0 0)))).length)).bind fun _ =>
     some ((v11.2).toNat, Gx v11.1 ((v11.2).toNat) (List.replicate ((v11.1.length - (v11.2).toNat)) ((Aa.mk 0 0 0))))) N (p0, v2, 1))
    (BM N p0 j2 n2 (wI .i64 (v2 + 1))))
   (j2 ())
def B3 (N : Nat) (p0 : List Aa) : Option (Nat × (List Aa)) :=
 AR ((decide ((p0.length : Int) < 2)))
  (some (p0.length, p0))
  (BM N p0 (fun (_ : Unit) =>
   some (p0.length, p0)) N 1)
def Bx (_ : Nat) (p0 : List Aa) (p1 : Int) (p2 : Int) : Option (Nat × (List Aa)) :=
 (Dp ((0 : Int) ≤ p1 ∧ (p1).toNat ≤ (p2).toNat ∧ 0 ≤ p2 ∧ (p2).toNat ≤ ((p0.length : Int)).toNat ∧ 0 ≤ (p0.length : Int) ∧ ((p0.length : Int)).toNat ≤ p0.length)).bind fun _ =>
 AR ((p1 == p2))
  (some (p0.length, p0))
  ((Dp ((0 : Int) ≤ p1 ∧ 0 ≤ (p1).toNat ∧ (p1).toNat ≤ p0.length)).bind fun _ =>
  (Dp ((0 : Int) ≤ p2 ∧ (p2).toNat ≤ p0.length ∧ p0.length ≤ p0.length)).bind fun _ =>
  (Dp ((p1).toNat + (((p0.drop ((p2).toNat)).take ((p0.length - (p2).toNat)))).length ≤ p0.length)).bind fun _ =>
  (Dp ((0 : Int) ≤ (((((p1).toNat + (((p0.drop ((p2).toNat)).take ((p0.length - (p2).toNat)))).length)) : Nat) : Int) ∧ (0 : Int) ≤ (p0.length : Int) ∧ ((((((p1).toNat + (((p0.drop ((p2).toNat)).take ((p0.length - (p2).toNat)))).length)) : Nat) : Int)).toNat ≤ ((p0.length : Int)).toNat ∧ ((p0.length : Int)).toNat ≤ (Gx p0 (0 + ((p1).toNat)) (((p0.drop ((p2).toNat)).take ((p0.length - (p2).toNat))))).length)).bind fun _ =>
  some (((p1).toNat + (((p0.drop ((p2).toNat)).take ((p0.length - (p2).toNat)))).length), Gx (Gx p0 (0 + ((p1).toNat)) (((p0.drop ((p2).toNat)).take ((p0.length - (p2).toNat))))) (((((((p1).toNat + (((p0.drop ((p2).toNat)).take ((p0.length - (p2).toNat)))).length)) : Nat) : Int)).toNat) (List.replicate ((((p0.length : Int)).toNat - ((((((p1).toNat + (((p0.drop ((p2).toNat)).take ((p0.length - (p2).toNat)))).length)) : Nat) : Int)).toNat)) ((Aa.mk 0 0 0)))))
def DP (N : Nat) (p0 : Ab) (v5 : Nat × (List Aa)) (j14 : Bool → Option (Bool × Int)) : Nat → (Bool × Int) → Option (Bool × Int)
 | 0, _ => none
 | n14 + 1, v14 =>
  AR ((decide (v14.2 < ((v5.2.take v5.1).length : Int))))
   (Bi (fun (v17 : Bool) =>
    DP N p0 v5 j14 n14 (v17, (wI .i64 (v14.2 + 1))))
   fun j17 =>
   (A2 N (v5.2.take v5.1)).bind fun v18 =>
   (Bx N v18 v14.2 ((wI .i64 (v14.2 + 1)))).bind fun v19 =>
   (Dp (v19.1 ≤ v19.2.length)).bind fun _ =>
   (Ed N p0 (((v19.2.drop 0).take v19.1))).bind fun v22 =>
   AR ((v22.2 != 0))
    (some (false, v22.2))
    (AR v14.1
     (j17 (!v22.1))
     (j17 false)))
   (j14 v14.1)
def Ee (N : Nat) (p0 : Ab) (p1 : List Aa) : Option (Bool × Int) :=
 (Gj N p0 p1).bind fun v1 =>
 AR ((v1 != 0))
  (some (false, v1))
  ((A2 N p1).bind fun v3 =>
  (CX N v3 ((fun (x : Aa × Aa) => DD N x.1 x.2))).bind fun v4 =>
  (B3 N v4).bind fun v5 =>
  (Dp (v5.1 ≤ v5.2.length)).bind fun _ =>
  Bi (fun (v8 : Bool) =>
   AR v8
    (some (false, 3))
    ((Ed N p0 (v5.2.take v5.1)).bind fun v12 =>
    AR ((v12.2 != 0))
     (some (false, v12.2))
     (DP N p0 v5 (fun (v15 : Bool) =>
      some (v15, 0)) N (v12.1, 0))))
  fun j8 =>
  (Eb N p0).bind fun v9 =>
  AR ((decide (24 < (v9.length : Int))))
   (j8 true)
   (j8 (decide (3 < ((v5.2.take v5.1).length : Int)))))
def FF (N : Nat) (p0 : Ab) : Option ((List Aa) × Int) :=
 (Gq N p0).bind fun v1 =>
 AR ((v1.2 != 0))
  (some (([] : List Aa), v1.2))
  ((Br v1.1 0).bind fun v3 =>
  some (v3, 0))
def Fd (N : Nat) : Option Bool :=
 (DJ N).bind fun v1 =>
 (Gq N v1).bind fun v2 =>
 (DJ N).bind fun v3 =>
 (E1 N v3).bind fun v4 =>
 (DJ N).bind fun v5 =>
 (Ee N v5 v4.1).bind fun v6 =>
 (DJ N).bind fun v7 =>
 (FF N v7).bind fun v8 =>
 Bi (fun (v9 : Bool) =>
  some v9)
 fun j9 =>
 AR ((v2.2 == 0))
  (AR ((v4.2 == 0))
   (AR ((v6.2 == 0))
    (AR ((v8.2 == 0))
     (AR (((v2.1.length : Int) == 2))
      (AR (((v4.1.length : Int) == 2))
       ((Br v4.1 0).bind fun v16 =>
       AR (((v16.fW == 0) && ((v16.fV == 0) && ((v16.fX == 1) && true))))
        (AR ((!v6.1))
         (AR (((v8.1.length : Int) == 1))
          ((Br v8.1 0).bind fun v20 =>
          j9 ((v20.fW == 0) && ((v20.fV == 0) && ((v20.fX == 1) && true))))
          (j9 false))
         (j9 false))
        (j9 false))
       (j9 false))
      (j9 false))
     (j9 false))
    (j9 false))
   (j9 false))
  (j9 false)
def DQ (N : Nat) (p1 : List Aa) (v3 : (List Aa)) (j4 : Unit → Option (Ab × Int)) : Nat → Int → Option (Ab × Int)
 | 0, _ => none
 | n4 + 1, v4 =>
  AR ((decide (v4 < (p1.length : Int))))
   ((Br p1 v4).bind fun v7 =>
   (Ez N v3 v7).bind fun v8 =>
   AR ((!v8))
    (some ((Ab.mk (([] : List Int)) (([] : List Int)) (([] : List Int)) (([] : List Ao))), 4))
    (DQ N p1 v3 j4 n4 (wI .i64 (v4 + 1))))
   (j4 ())
def Fv (N : Nat) (p0 : Ab) (p1 : List Aa) : Option (Ab × Int) :=
 (Ca N p0).bind fun v1 =>
 AR ((v1 != 0))
  (some ((Ab.mk (([] : List Int)) (([] : List Int)) (([] : List Int)) (([] : List Ao))), v1))
  ((CG N p0).bind fun v3 =>
  DQ N p1 v3 (fun (_ : Unit) =>
   (Dj N p0 p1).bind fun v10 =>
   some (v10, 0)) N 0)
def Dg (N : Nat) (p0 : Ab) (p1 : Ae) (j3 : Unit → Option Bool) : Nat → Int → Option Bool
 | 0, _ => none
 | n3 + 1, v3 =>
  AR ((decide (v3 < (p1.fH.length : Int))))
   (Bi (fun (v6 : Bool) =>
    AR v6
     (some false)
     (Dg N p0 p1 j3 n3 (wI .i64 (v3 + 1))))
   fun j6 =>
   (Br p1.fE v3).bind fun v7 =>
   AR ((decide (0 ≤ v7)))
    (j6 true)
    ((Br p1.fH v3).bind fun v9 =>
    (Br p0.fQ v3).bind fun v10 =>
    j6 (v9 != v10)))
   (j3 ())
def Fu (N : Nat) (p0 : Ab) (p1 : Ae) : Option Bool :=
 (DE N p0 p1).bind fun v1 =>
 AR ((v1 != 0))
  (some false)
  (Dg N p0 p1 (fun (_ : Unit) =>
   some true) N 0)
def D3 (N : Nat) (p0 : List AE) (j1 : ((List Af)) → Option ((List Af))) : Nat → (Int × (List Af)) → Option ((List Af))
 | 0, _ => none
 | n1 + 1, v1 =>
  (Br p0 v1.1).bind fun v3 =>
  AR ((decide (0 ≤ v3.f9)))
   ((Br p0 v1.1).bind fun v5 =>
   (Dp ((([(Af.mk v5.fY.fJ v5.fY.fN v5.fY.fT)] : List Af)).length + v1.2.length ≤ C2)).bind fun _ =>
   (Br p0 v1.1).bind fun v7 =>
   D3 N p0 j1 n1 (v7.f9, (([(Af.mk v5.fY.fJ v5.fY.fN v5.fY.fT)] : List Af)) ++ v1.2))
   (j1 v1.2)
def Gz (N : Nat) (p0 : List AE) (p1 : Int) : Option ((List Af)) :=
 D3 N p0 (fun (v2 : (List Af)) =>
  some v2) N (p1, ([] : List Af))
def CF (N : Nat) (p0 : Ab) (v5 : (List AE) × Bool) (j7 : Unit → Option ((List Af) × Int)) : Nat → Int → Option ((List Af) × Int)
 | 0, _ => none
 | n7 + 1, v7 =>
  AR ((decide (v7 < (v5.1.length : Int))))
   ((Br v5.1 v7).bind fun v10 =>
   (Fu N p0 ((Ae.mk v10.fZ.fH v10.fZ.fE v10.fZ.fI))).bind fun v11 =>
   AR v11
    ((Gz N v5.1 v7).bind fun v13 =>
    some (v13, 0))
    (CF N p0 v5 j7 n7 (wI .i64 (v7 + 1))))
   (j7 ())
def EI (N : Nat) (p0 : Ab) (p1 : Ae) : Option ((List Af) × Int) :=
 (DE N p0 p1).bind fun v1 =>
 AR ((v1 != 0))
  (some (([] : List Af), v1))
  ((C0 N p0 p1).bind fun v3 =>
  AR ((!v3))
   (some (([] : List Af), 13))
   ((C5 N p0 p1 20000).bind fun v5 =>
   AR ((!v5.2))
    (some (([] : List Af), 3))
    (CF N p0 v5 (fun (_ : Unit) =>
     some (([] : List Af), 14)) N 0)))
def Fw (N : Nat) (p0 : Ab) : Option ((List Af) × Int) :=
 (Er N p0).bind fun v1 =>
 AR ((v1.2 != 0))
  (some (([] : List Af), v1.2))
  ((EI N p0 v1.1).bind fun v3 =>
  some (v3.1, v3.2))
def Dd (N : Nat) (p0 : Ab) (p1 : List Aa) : Option (Bool × Int) :=
 (Dj N p0 p1).bind fun v1 =>
 (Fw N v1).bind fun v2 =>
 AR ((v2.2 == 3))
  (some (false, v2.2))
  (some ((v2.2 == 0), 0))
def B2 (N : Nat) (p1 : List Aa) (j3 : ((List Aa)) → Option (Bool × Int)) : Nat → ((List Aa) × Int) → Option (Bool × Int)
 | 0, _ => none
 | n3 + 1, v3 =>
  AR ((decide (v3.2 < (p1.length : Int))))
   (Bi (fun (v6 : (List Aa)) =>
    B2 N p1 j3 n3 (v6, (wI .i64 (v3.2 + 1))))
   fun j6 =>
   (Br p1 v3.2).bind fun v7 =>
   (Ez N v3.1 v7).bind fun v8 =>
   AR ((!v8))
    ((Br p1 v3.2).bind fun v10 =>
    (Dp (v3.1.length + (([v10] : List Aa)).length ≤ C2)).bind fun _ =>
    j6 (v3.1 ++ (([v10] : List Aa))))
    (j6 v3.1))
   (j3 v3.1)
def Ck (N : Nat) (p0 : Ab) (j18 : Bool → Option (Bool × Int)) : Nat → ((List Aa) × Bool × Int) → Option (Bool × Int)
 | 0, _ => none
 | n18 + 1, v18 =>
  AR ((decide (v18.2.2 < (v18.1.length : Int))))
   (Bi (fun (v21 : Bool) =>
    Ck N p0 j18 n18 (v18.1, v21, (wI .i64 (v18.2.2 + 1))))
   fun j21 =>
   (Dp ((0 : Int) ≤ v18.2.2 ∧ 0 ≤ (v18.2.2).toNat ∧ (v18.2.2).toNat ≤ v18.1.length)).bind fun _ =>
   (Dp ((([] : List Aa)).length + (((v18.1.drop 0).take ((v18.2.2).toNat - 0))).length ≤ C2)).bind fun _ =>
   (Dp ((0 : Int) ≤ (wI .i64 (v18.2.2 + 1)) ∧ ((wI .i64 (v18.2.2 + 1))).toNat ≤ v18.1.length ∧ v18.1.length ≤ v18.1.length)).bind fun _ =>
   (Dp (((([] : List Aa)) ++ (((v18.1.drop 0).take ((v18.2.2).toNat - 0)))).length + (((v18.1.drop ((wI .i64 (v18.2.2 + 1))).toNat).take (v18.1.length - ((wI .i64 (v18.2.2 + 1))).toNat))).length ≤ C2)).bind fun _ =>
   (Dd N p0 (((([] : List Aa)) ++ (((v18.1.drop 0).take ((v18.2.2).toNat - 0)))) ++ (((v18.1.drop ((wI .i64 (v18.2.2 + 1))).toNat).take (v18.1.length - ((wI .i64 (v18.2.2 + 1))).toNat))))).bind fun v26 =>
   AR ((v26.2 != 0))
    (some (false, v26.2))
    (AR v18.2.1
     (j21 (!v26.1))
     (j21 false)))
   (j18 v18.2.1)
def EA (N : Nat) (p0 : Ab) (p1 : List Aa) : Option (Bool × Int) :=
 (Fv N p0 p1).bind fun v1 =>
 AR ((v1.2 != 0))
  (some (false, v1.2))
  (B2 N p1 (fun (v4 : (List Aa)) =>
   Bi (fun (v12 : Bool) =>
    AR v12
     (some (false, 3))
     ((Dd N p0 v4).bind fun v16 =>
     AR ((v16.2 != 0))
      (some (false, v16.2))
      (Ck N p0 (fun (v19 : Bool) =>
       some (v19, 0)) N (v4, v16.1, 0))))
   fun j12 =>
   (CG N p0).bind fun v13 =>
   AR ((decide (24 < (v13.length : Int))))
    (j12 true)
    (j12 (decide (3 < (v4.length : Int))))) N (([] : List Aa), 0))
def C9 (N : Nat) (p0 : BJ) (p1 : List Aa) : Option Bool :=
 (F1 N p0).bind fun v1 =>
 Bi (fun (v2 : Bool) =>
  AR v2
   ((Fd N).bind fun v7 =>
   some v7)
   ((A2 N p1).bind fun v8 =>
   (Ee N v1.1 v8).bind fun v9 =>
   (EA N v1.1 p1).bind fun v10 =>
   Bi (fun (v11 : Bool) =>
    AR v11
     (some false)
     ((FF N v1.1).bind fun v14 =>
     AR ((v14.2 != 0))
      (some ((v14.2 == 14)))
      ((Ee N v1.1 v14.1).bind fun v16 =>
      Bi (fun (v17 : Bool) =>
       some v17)
      fun j17 =>
      AR v16.1
       (j17 (v16.2 == 0))
       (j17 false))))
   fun j11 =>
   AR ((!(v9.1 == v10.1)))
    (j11 true)
    (j11 (v9.2 != v10.2))))
 fun j2 =>
 (Fd N).bind fun v3 =>
 AR ((!v3))
  (j2 true)
  (AR ((!v1.2))
   (j2 true)
   (j2 (decide (6 < (p1.length : Int)))))
def N9 {α : Type} (w : α → Prop) (xs : List α) : Prop := ∀ x, x ∈ xs → w x
def ZR (n : Int) : Prop := (Lit.int .i64 n).wf = true
def Mn (n : Int) : Prop := (Lit.int .u8 n).wf = true
def bf (n : Int) : Prop := (Lit.int .u16 n).wf = true
def IF (x : HO) : Prop := Mn x.fJ ∧ Mn x.fK ∧ Mn x.fP ∧ (fun _ => True) x.fS ∧ bf x.f7 ∧ bf x.f8 ∧ True
def F4 (x : BJ) : Prop := (N9 Mn) x.fF ∧ (N9 Mn) x.fL ∧ (N9 Mn) x.fQ ∧ (N9 IF) x.f5 ∧ True
def Jr (x : Aa) : Prop := ZR x.fW ∧ ZR x.fV ∧ ZR x.fX ∧ True
open Go.RowKit
open Go.Proofs
abbrev Om (x : HO) : List C := [.pure (.val (.int .u8 x.fJ)), .pure (.val (.int .u8 x.fK)), .pure (.val (.int .u8 x.fP)), .pure (.val (.bool x.fS)), .pure (.val (.int .u16 x.f7)), .pure (.val (.int .u16 x.f8))]
abbrev C3 (x : BJ) : List C := [sC (x.fF.map Eh), sC (x.fL.map Eh), sC (x.fQ.map Eh), sC (x.f5.map Hm)]
abbrev E8 (x : Aa) : List C := [iC x.fW, iC x.fV, iC x.fX]
abbrev Bg (x : Ao) : List C := [iC x.fJ, iC x.fK, iC x.fP, .pure (.val (.bool x.fS)), sC (x.fO.map (Fa eB)), sC (x.fR.map (Fa eB))]
abbrev Ag (x : Ab) : List C := [sC (x.fF.map Aq), sC (x.fL.map Aq), sC (x.fQ.map Aq), sC (x.fG.map AG)]
abbrev AK (x : Ae) : List C := [sC (x.fH.map Aq), sC (x.fE.map Aq), sC (x.fI.map Eh)]
abbrev DA (x : Af) : List C := [iC x.fJ, iC x.fN, iC x.fT]
abbrev WK (x : AF) : List C := [sC (x.fU.fH.map Aq), sC (x.fU.fE.map Aq), sC (x.fU.fI.map Eh), iC x.fK, iC x.fY.fJ, iC x.fY.fN, iC x.fY.fT, sC (x.fE.map Aq)]
theorem Ay : Tryz.prog.follows .mixedOrders = true := by kernel_rfl
theorem wq {X : Jm} {y : Code} {id : Nat} {ops : Array Oper} {dr : Bool} {Q : Exit → St → Prop} {st : St} {n : Nat} (hn : ops.size = n) (h : A6 Tryz.prog X ops dr (fun st' => W Tryz.prog X y Q st') n 0 st []) : W Tryz.prog X (.seq (.region id ops dr) y) Q st := fA Ay hn h
theorem wp {X : Jm} {y z : Code} {id : Nat} {ops : Array Oper} {dr : Bool} {Q : Exit → St → Prop} {st : St} {n : Nat} (hn : ops.size = n) (h : A6 Tryz.prog X ops dr (fun st' => W Tryz.prog X y (RP (W Tryz.prog X z Q) Q) st') n 0 st []) : W Tryz.prog X (.seq (.seq (.region id ops dr) y) z) Q st := AQ (fA Ay hn h)
theorem G4 : FA Tryz.prog 101 true = true := by kernel_rfl
theorem cK : FA Tryz.prog 103 true = true := by kernel_rfl
theorem Xv : FA Tryz.prog 22 false = true := by kernel_rfl
theorem bW : FA Tryz.prog 23 false = true := by kernel_rfl
theorem cO : FA Tryz.prog 25 true = true := by kernel_rfl
theorem A7 : FA Tryz.prog 26 false = true := by kernel_rfl
theorem F0 : FA Tryz.prog 27 false = true := by kernel_rfl
theorem Cu : FA Tryz.prog 29 true = true := by kernel_rfl
theorem Cn : FA Tryz.prog 3 false = true := by kernel_rfl
theorem aY : FA Tryz.prog 33 false = true := by kernel_rfl
theorem TG : FA Tryz.prog 4 false = true := by kernel_rfl
theorem ID : FA Tryz.prog 45 true = true := by kernel_rfl
theorem de : FA Tryz.prog 5 false = true := by kernel_rfl
theorem H7 : FA Tryz.prog 62 false = true := by kernel_rfl
theorem B4 : FA Tryz.prog 64 true = true := by kernel_rfl
theorem GZ : FA Tryz.prog 74 false = true := by kernel_rfl
theorem G6 : FA Tryz.prog 76 true = true := by kernel_rfl
theorem Lq : FA Tryz.prog 77 false = true := by kernel_rfl
theorem cY : FA Tryz.prog 86 false = true := by kernel_rfl
theorem eN : FA Tryz.prog 88 true = true := by kernel_rfl
theorem LL : FA Tryz.prog 94 false = true := by kernel_rfl
theorem fC : Q2 Tryz.prog 4 = true := by kernel_rfl
theorem dQ : Sd Tryz.prog 22 = true := by kernel_rfl
theorem Ol : zFS Tryz.prog 101 24 = true := by kernel_rfl
theorem aV : zFS Tryz.prog 103 128 = true := by kernel_rfl
theorem bc : zFS Tryz.prog 154 104 = true := by kernel_rfl
theorem LS : zFS Tryz.prog 3 8 = true := by kernel_rfl
theorem aQ : zFS Tryz.prog 33 24 = true := by kernel_rfl
theorem W8 : zFS Tryz.prog 4 1 = true := by kernel_rfl
theorem Lp : zFS Tryz.prog 45 24 = true := by kernel_rfl
theorem ct : zFS Tryz.prog 5 1 = true := by kernel_rfl
theorem ag : zFS Tryz.prog 64 72 = true := by kernel_rfl
theorem Yg : zFS Tryz.prog 76 80 = true := by kernel_rfl
theorem VX : zFS Tryz.prog 77 24 = true := by kernel_rfl
theorem Tc : zFS Tryz.prog 94 1 = true := by kernel_rfl
theorem FP : CD Tryz.prog 101 0 0 = true := by kernel_rfl
theorem EX : CD Tryz.prog 101 1 1 = true := by kernel_rfl
theorem GO : CD Tryz.prog 101 2 2 = true := by kernel_rfl
theorem Qb : CD Tryz.prog 103 0 0 = true := by kernel_rfl
theorem T3 : CD Tryz.prog 103 1 3 = true := by kernel_rfl
theorem YJ : CD Tryz.prog 103 2 4 = true := by kernel_rfl
theorem TB : CD Tryz.prog 103 3 7 = true := by kernel_rfl
theorem N1 : CD Tryz.prog 154 0 0 = true := by kernel_rfl
theorem S8 : CD Tryz.prog 154 1 3 = true := by kernel_rfl
theorem YC : CD Tryz.prog 154 2 4 = true := by kernel_rfl
theorem SW : CD Tryz.prog 25 0 0 = true := by kernel_rfl
theorem Zb : CD Tryz.prog 25 1 1 = true := by kernel_rfl
theorem aa : CD Tryz.prog 25 2 2 = true := by kernel_rfl
theorem SC : CD Tryz.prog 25 3 3 = true := by kernel_rfl
theorem Bs : CD Tryz.prog 29 0 0 = true := by kernel_rfl
theorem GV : CD Tryz.prog 29 1 1 = true := by kernel_rfl
theorem If : CD Tryz.prog 29 2 2 = true := by kernel_rfl
theorem Bw : CD Tryz.prog 29 3 3 = true := by kernel_rfl
theorem RZ : CD Tryz.prog 45 0 0 = true := by kernel_rfl
theorem S4 : CD Tryz.prog 45 1 1 = true := by kernel_rfl
theorem Sc : CD Tryz.prog 45 2 2 = true := by kernel_rfl
theorem De : CD Tryz.prog 64 0 0 = true := by kernel_rfl
theorem BL : CD Tryz.prog 64 1 1 = true := by kernel_rfl
theorem Df : CD Tryz.prog 64 2 2 = true := by kernel_rfl
theorem GX : CD Tryz.prog 76 0 0 = true := by kernel_rfl
theorem DN : CD Tryz.prog 76 1 1 = true := by kernel_rfl
theorem Jh : CD Tryz.prog 76 2 2 = true := by kernel_rfl
theorem Kd : CD Tryz.prog 76 3 3 = true := by kernel_rfl
theorem EP : CD Tryz.prog 76 4 4 = true := by kernel_rfl
theorem EQ : CD Tryz.prog 76 5 5 = true := by kernel_rfl
theorem Zj : CD Tryz.prog 88 0 0 = true := by kernel_rfl
theorem Z3 : CD Tryz.prog 88 1 1 = true := by kernel_rfl
theorem Z7 : CD Tryz.prog 88 2 2 = true := by kernel_rfl
theorem Zu : CD Tryz.prog 88 3 3 = true := by kernel_rfl
theorem Zy : CD Tryz.prog 88 4 4 = true := by kernel_rfl
theorem ZE : CD Tryz.prog 88 5 5 = true := by kernel_rfl
theorem fw : AI Tryz.prog 10 = true := by kernel_rfl
theorem aI : AI Tryz.prog 107 = true := by kernel_rfl
theorem cS : AI Tryz.prog 108 = true := by kernel_rfl
theorem cR : AI Tryz.prog 109 = true := by kernel_rfl
theorem dH : AI Tryz.prog 11 = true := by kernel_rfl
theorem cV : AI Tryz.prog 110 = true := by kernel_rfl
theorem aj : AI Tryz.prog 111 = true := by kernel_rfl
theorem X3 : AI Tryz.prog 112 = true := by kernel_rfl
theorem db : AI Tryz.prog 113 = true := by kernel_rfl
theorem ae : AI Tryz.prog 114 = true := by kernel_rfl
theorem dm : AI Tryz.prog 116 = true := by kernel_rfl
theorem dy : AI Tryz.prog 117 = true := by kernel_rfl
theorem dR : AI Tryz.prog 118 = true := by kernel_rfl
theorem d7 : AI Tryz.prog 119 = true := by kernel_rfl
theorem dX : AI Tryz.prog 12 = true := by kernel_rfl
theorem dS : AI Tryz.prog 120 = true := by kernel_rfl
theorem cP : AI Tryz.prog 121 = true := by kernel_rfl
theorem dq : AI Tryz.prog 122 = true := by kernel_rfl
theorem dW : AI Tryz.prog 123 = true := by kernel_rfl
theorem d4 : AI Tryz.prog 124 = true := by kernel_rfl
theorem d5 : AI Tryz.prog 125 = true := by kernel_rfl
theorem ek : AI Tryz.prog 126 = true := by kernel_rfl
theorem eb : AI Tryz.prog 127 = true := by kernel_rfl
theorem aT : AI Tryz.prog 128 = true := by kernel_rfl
theorem dC : AI Tryz.prog 129 = true := by kernel_rfl
theorem eH : AI Tryz.prog 13 = true := by kernel_rfl
theorem YN : AI Tryz.prog 130 = true := by kernel_rfl
theorem cN : AI Tryz.prog 131 = true := by kernel_rfl
theorem cI : AI Tryz.prog 137 = true := by kernel_rfl
theorem aP : AI Tryz.prog 138 = true := by kernel_rfl
theorem aO : AI Tryz.prog 139 = true := by kernel_rfl
theorem cj : AI Tryz.prog 14 = true := by kernel_rfl
theorem dp : AI Tryz.prog 140 = true := by kernel_rfl
theorem dL : AI Tryz.prog 141 = true := by kernel_rfl
theorem Ut : AI Tryz.prog 142 = true := by kernel_rfl
theorem V5 : AI Tryz.prog 143 = true := by kernel_rfl
theorem dN : AI Tryz.prog 144 = true := by kernel_rfl
theorem cJ : AI Tryz.prog 145 = true := by kernel_rfl
theorem aR : AI Tryz.prog 146 = true := by kernel_rfl
theorem dF : AI Tryz.prog 147 = true := by kernel_rfl
theorem d9 : AI Tryz.prog 148 = true := by kernel_rfl
theorem dJ : AI Tryz.prog 149 = true := by kernel_rfl
theorem bC : AI Tryz.prog 15 = true := by kernel_rfl
theorem dw : AI Tryz.prog 150 = true := by kernel_rfl
theorem df : AI Tryz.prog 151 = true := by kernel_rfl
theorem dE : AI Tryz.prog 152 = true := by kernel_rfl
theorem dB : AI Tryz.prog 154 = true := by kernel_rfl
theorem cT : AI Tryz.prog 155 = true := by kernel_rfl
theorem au : AI Tryz.prog 156 = true := by kernel_rfl
theorem dZ : AI Tryz.prog 157 = true := by kernel_rfl
theorem ee : AI Tryz.prog 158 = true := by kernel_rfl
theorem X4 : AI Tryz.prog 159 = true := by kernel_rfl
theorem eR : AI Tryz.prog 16 = true := by kernel_rfl
theorem am : AI Tryz.prog 160 = true := by kernel_rfl
theorem cQ : AI Tryz.prog 161 = true := by kernel_rfl
theorem eZ : AI Tryz.prog 18 = true := by kernel_rfl
theorem dO : AI Tryz.prog 21 = true := by kernel_rfl
theorem dn : AI Tryz.prog 24 = true := by kernel_rfl
theorem ew : AI Tryz.prog 25 = true := by kernel_rfl
theorem ce : AI Tryz.prog 31 = true := by kernel_rfl
theorem fu : AI Tryz.prog 32 = true := by kernel_rfl
theorem eF : AI Tryz.prog 33 = true := by kernel_rfl
theorem Y1 : AI Tryz.prog 34 = true := by kernel_rfl
theorem fo : AI Tryz.prog 35 = true := by kernel_rfl
theorem fh : AI Tryz.prog 36 = true := by kernel_rfl
theorem eI : AI Tryz.prog 37 = true := by kernel_rfl
theorem eD : AI Tryz.prog 38 = true := by kernel_rfl
theorem fi : AI Tryz.prog 39 = true := by kernel_rfl
theorem eT : AI Tryz.prog 40 = true := by kernel_rfl
theorem aW : AI Tryz.prog 41 = true := by kernel_rfl
theorem bm : AI Tryz.prog 42 = true := by kernel_rfl
theorem ci : AI Tryz.prog 43 = true := by kernel_rfl
theorem bo : AI Tryz.prog 44 = true := by kernel_rfl
theorem dt : AI Tryz.prog 45 = true := by kernel_rfl
theorem bh : AI Tryz.prog 46 = true := by kernel_rfl
theorem eU : AI Tryz.prog 47 = true := by kernel_rfl
theorem W2 : AI Tryz.prog 48 = true := by kernel_rfl
theorem ec : AI Tryz.prog 51 = true := by kernel_rfl
theorem eG : AI Tryz.prog 55 = true := by kernel_rfl
theorem dg : AI Tryz.prog 56 = true := by kernel_rfl
theorem Sy : AI Tryz.prog 57 = true := by kernel_rfl
theorem cU : AI Tryz.prog 58 = true := by kernel_rfl
theorem fv : AI Tryz.prog 59 = true := by kernel_rfl
theorem T7 : AI Tryz.prog 60 = true := by kernel_rfl
theorem fj : AI Tryz.prog 61 = true := by kernel_rfl
theorem bN : AI Tryz.prog 62 = true := by kernel_rfl
theorem dh : AI Tryz.prog 63 = true := by kernel_rfl
theorem fe : AI Tryz.prog 64 = true := by kernel_rfl
theorem eM : AI Tryz.prog 65 = true := by kernel_rfl
theorem fq : AI Tryz.prog 66 = true := by kernel_rfl
theorem eS : AI Tryz.prog 67 = true := by kernel_rfl
theorem eE : AI Tryz.prog 68 = true := by kernel_rfl
theorem ex : AI Tryz.prog 69 = true := by kernel_rfl
theorem eY : AI Tryz.prog 72 = true := by kernel_rfl
theorem bu : AI Tryz.prog 73 = true := by kernel_rfl
theorem eQ : AI Tryz.prog 74 = true := by kernel_rfl
theorem ev : AI Tryz.prog 75 = true := by kernel_rfl
theorem ZW : AI Tryz.prog 76 = true := by kernel_rfl
theorem e8 : AI Tryz.prog 77 = true := by kernel_rfl
theorem dI : AI Tryz.prog 78 = true := by kernel_rfl
theorem fx : AI Tryz.prog 79 = true := by kernel_rfl
theorem fc : AI Tryz.prog 81 = true := by kernel_rfl
theorem cX : AI Tryz.prog 83 = true := by kernel_rfl
theorem bK : AI Tryz.prog 84 = true := by kernel_rfl
theorem cE : AI Tryz.prog 85 = true := by kernel_rfl
theorem fd : AI Tryz.prog 86 = true := by kernel_rfl
theorem fm : AI Tryz.prog 87 = true := by kernel_rfl
theorem dA : AI Tryz.prog 88 = true := by kernel_rfl
theorem eX : AI Tryz.prog 89 = true := by kernel_rfl
theorem ff : AI Tryz.prog 90 = true := by kernel_rfl
theorem ZY : AI Tryz.prog 91 = true := by kernel_rfl
theorem eC : AI Tryz.prog 92 = true := by kernel_rfl
theorem fa : AI Tryz.prog 93 = true := by kernel_rfl
theorem eL : AI Tryz.prog 94 = true := by kernel_rfl
theorem eO : AI Tryz.prog 95 = true := by kernel_rfl
theorem eJ : AI Tryz.prog 96 = true := by kernel_rfl
theorem VZ : QV Tryz.prog 109 .u64 = true := by kernel_rfl
theorem V9 : QV Tryz.prog 140 .u32 = true := by kernel_rfl
theorem ak : QV Tryz.prog 142 .u64 = true := by kernel_rfl
theorem ao : QV Tryz.prog 3 .i64 = true := by kernel_rfl
theorem fy : QV Tryz.prog 5 .u8 = true := by kernel_rfl
theorem cn : Tryz.prog.underlying 9 = some .string := by kernel_rfl
theorem Sx : Tryz.prog.underlying 125 = some (.map 9 3) := by kernel_rfl
theorem Ww : II Tryz.prog 101 = some [(0, 1), (1, 1), (2, 1)] := by kernel_rfl
theorem af : II Tryz.prog 103 = some [(0, 3), (3, 1), (4, 3), (7, 1)] := by kernel_rfl
theorem ai : II Tryz.prog 154 = some [(0, 3), (3, 1), (4, 3)] := by kernel_rfl
theorem Uw : II Tryz.prog 29 = some [(0, 1), (1, 1), (2, 1), (3, 1)] := by kernel_rfl
theorem QX : II Tryz.prog 45 = some [(0, 1), (1, 1), (2, 1)] := by kernel_rfl
theorem Jo : II Tryz.prog 64 = some [(0, 1), (1, 1), (2, 1)] := by kernel_rfl
theorem cB : II Tryz.prog 76 = some [(0, 1), (1, 1), (2, 1), (3, 1), (4, 1), (5, 1)] := by kernel_rfl
theorem Re : X6 Tryz.prog 45 = some [0, 0, 0] := by kernel_rfl
theorem HR : sliceB Tryz.prog 119 154 = true := by kernel_rfl
theorem Kx : sliceB Tryz.prog 148 64 = true := by kernel_rfl
theorem Lj : sliceB Tryz.prog 22 5 = true := by kernel_rfl
theorem Yj : sliceB Tryz.prog 23 88 = true := by kernel_rfl
theorem AC : sliceB Tryz.prog 26 3 = true := by kernel_rfl
theorem CK : sliceB Tryz.prog 27 76 = true := by kernel_rfl
theorem Bb : sliceB Tryz.prog 33 45 = true := by kernel_rfl
theorem E6 : sliceB Tryz.prog 37 101 = true := by kernel_rfl
theorem Ka : sliceB Tryz.prog 54 33 = true := by kernel_rfl
theorem Ej : sliceB Tryz.prog 62 94 = true := by kernel_rfl
theorem Dx : sliceB Tryz.prog 74 77 = true := by kernel_rfl
theorem Ew : sliceB Tryz.prog 77 4 = true := by kernel_rfl
theorem I7 : sliceB Tryz.prog 96 103 = true := by kernel_rfl
theorem XV : (Tryz.prog.underlying 109).isSome = true := by kernel_rfl
theorem Wd : (Tryz.prog.underlying 140).isSome = true := by kernel_rfl
theorem aF : (Tryz.prog.underlying 142).isSome = true := by kernel_rfl
theorem ep : (Tryz.prog.underlying 3).isSome = true := by kernel_rfl
theorem cu : (Tryz.prog.underlying 5).isSome = true := by kernel_rfl
theorem eP : (Tryz.prog.underlying 94).isSome = true := by kernel_rfl
theorem dz : Ri Tryz.prog 9 = true := by kernel_rfl
theorem C4 : Hp Tryz.prog 101 3 = true := by kernel_rfl
theorem Lk : Hp Tryz.prog 103 8 = true := by kernel_rfl
theorem ME : Hp Tryz.prog 154 7 = true := by kernel_rfl
theorem dK : Hp Tryz.prog 25 4 = true := by kernel_rfl
theorem WL : Hp Tryz.prog 26 1 = true := by kernel_rfl
theorem bO : Hp Tryz.prog 27 1 = true := by kernel_rfl
theorem BF : Hp Tryz.prog 29 4 = true := by kernel_rfl
theorem DH : Hp Tryz.prog 3 1 = true := by kernel_rfl
theorem Tf : Hp Tryz.prog 33 1 = true := by kernel_rfl
theorem Ms : Hp Tryz.prog 4 1 = true := by kernel_rfl
theorem CQ : Hp Tryz.prog 45 3 = true := by kernel_rfl
theorem aX : Hp Tryz.prog 5 1 = true := by kernel_rfl
theorem fr : Hp Tryz.prog 62 1 = true := by kernel_rfl
theorem A1 : Hp Tryz.prog 64 3 = true := by kernel_rfl
theorem TI : Hp Tryz.prog 74 1 = true := by kernel_rfl
theorem C1 : Hp Tryz.prog 76 6 = true := by kernel_rfl
theorem H5 : Hp Tryz.prog 77 1 = true := by kernel_rfl
theorem ba : Hp Tryz.prog 88 6 = true := by kernel_rfl
theorem G1 : Hp Tryz.prog 94 1 = true := by kernel_rfl
theorem H0 : ES Tryz.prog 101 = some (.agg #[.int .i64 0, .int .i64 0, .int .i64 0]) := by kernel_rfl
theorem Uf : ES Tryz.prog 103 = some (.agg #[.slice none 0 0, .slice none 0 0, .slice none 0 0, .int .i64 0, .int .i64 0, .int .i64 0, .int .i64 0, .slice none 0 0]) := by kernel_rfl
theorem TC : ES Tryz.prog 154 = some (.agg #[.slice none 0 0, .slice none 0 0, .slice none 0 0, .int .i64 0, .int .i64 0, .int .i64 0, .int .i64 0]) := by kernel_rfl
theorem J0 : ES Tryz.prog 29 = some (.agg #[.slice none 0 0, .slice none 0 0, .slice none 0 0, .slice none 0 0]) := by kernel_rfl
theorem KV : ES Tryz.prog 3 = some (.int .i64 0) := by kernel_rfl
theorem XA : ES Tryz.prog 33 = some (.slice none 0 0) := by kernel_rfl
theorem WA : ES Tryz.prog 4 = some (.bool false) := by kernel_rfl
theorem GH : ES Tryz.prog 45 = some (.agg #[.int .i64 0, .int .i64 0, .int .i64 0]) := by kernel_rfl
theorem d8 : ES Tryz.prog 5 = some (.int .u8 0) := by kernel_rfl
theorem E0 : ES Tryz.prog 64 = some (.agg #[.slice none 0 0, .slice none 0 0, .slice none 0 0]) := by kernel_rfl
theorem Jf : ES Tryz.prog 76 = some (.agg #[.int .i64 0, .int .i64 0, .int .i64 0, .bool false, .slice none 0 0, .slice none 0 0]) := by kernel_rfl
theorem SP : ES Tryz.prog 77 = some (.slice none 0 0) := by kernel_rfl
theorem fp : ES Tryz.prog 88 = some (.agg #[.int .u8 0, .int .u8 0, .int .u8 0, .bool false, .int .u16 0, .int .u16 0]) := by kernel_rfl
theorem R0 : ES Tryz.prog 94 = some (.int .u8 0) := by kernel_rfl
set_option maxRecDepth 10000
theorem JM (N : Nat) (p0 : List Int) (p1 : Int) (r : Int) (h : EE N p0 p1 = some r) : Au Tryz.prog 56 [pD (.sl (p0.map Eh)), iD p1] [] (iD r) := by
 unfold EE at h
 refine cw (n := 14) (rs := [.tmp 4]) Tryz.func56 fun w0 S0 => ?_
 refine wq rfl (qa rfl (Ac (wp rfl (qw 2 rfl (AO Lj rfl (AV rfl (Ac ?_)))))))
 refine Bc h (fun h => ?_) fun h => ?_
 ·refine wq rfl (qw 2 rfl ?_)
  refine BK h fun v2 a2 b2 h => qi Lj aX a2 (Ai b2) rfl (qk de rfl (KO cu ao rfl (qe rfl ?_)))
  obtain rfl := sj h
  refine Ah (sm [] [(4, iD ((wI .i64 v2)))] [] rfl rfl) (Ar ?_)
  exact ⟨⟨[_], tm, rfl⟩, tv⟩
 ·refine Am (wq rfl (qe rfl ?_))
  obtain rfl := sj h
  refine Ah (sm [] [(4, iD 0)] [] rfl rfl) (Ar ?_)
  exact ⟨⟨[_], tm, rfl⟩, tv⟩
theorem CE (N : Nat) (p0 : Ao) (r : Bool) (h : A8 N p0 = some r) : Au Tryz.prog 57 [.e (.agg (Bg p0))] [] (bD r) := by
 unfold A8 at h
 refine cw (n := 11) (rs := [.tmp 2]) Tryz.func57 fun w0 S0 => ?_
 refine wq rfl (qb rfl (qe rfl ?_))
 refine AS h (fun v1 => mk [(2, bD v1)] []) (fun j1 h => ?_) (fun v1 h => ?_)
 ·refine Aj Ay rfl (qf GX rfl (ql Cn rfl (B6 rfl (qm rfl ?_))))
  refine EO 6 h rfl (fun h => ?_) fun h => ?_
  ·refine qw 3 rfl (qp rfl (qe rfl ?_))
   exact sn [] h
  ·refine qf GX rfl (ql Cn rfl (B6 rfl (qp rfl (qe rfl ?_))))
   exact sn [] h
 ·obtain rfl := sj h
  refine Ah (sm [] [(2, bD v1)] [] rfl rfl) (Ar ?_)
  exact ⟨⟨[_], tm, rfl⟩, tv⟩
theorem JK (N : Nat) (p0 : Int) (p1 : Int) (p2 : Int) (p3 : Bool) (r : (List (List Bool))) (h : EH N p0 p1 p2 p3 = some r) : Au Tryz.prog 58 [iD p0, iD p1, pD (.val (.int .u16 p2)), bD p3] [(1, r.map (Fa eB))] (oD (.own 0)) := by
 unfold EH at h
 refine cw (n := 47) (rs := [.tmp 8]) Tryz.func58 fun w0 S0 => ?_
 refine wq rfl (qa rfl (Ac (wq rfl (qa rfl (Ac (wp rfl (qe rfl ?_)))))))
 refine AH (L := CH N p0 p1 p2 p3) h (fun v1 => mk [(0, iD p0), (1, iD p1), (2, pD (.val (.int .u16 p2))), (3, bD p3), (9, oD (.own 2001)), (10, iD v1.2)] [(2001, .vec 1 (v1.1.map (Fa eB)))]) (fun v2 => mk [(9, oD (.own 2002))] [(2002, .vec 1 (v2.map (Fa eB)))]) (fun _ _ => rfl) ((AY 9 2010 1 rfl rfl rfl).trans (sm [(2001, 2010)] _ _ rfl rfl)) (fun j1 n1 v1 h => ?_) (fun v2 s h hs => ?_)
 ·unfold CH at h
  refine wp rfl (qw 2 rfl (AV rfl (Ac ?_)))
  refine Bc h (fun h => ?_) fun h => ?_
  ·refine Am (AQ (AM (wq rfl (qa rfl (Ac (wp rfl (qe rfl ?_)))))))
   refine AH (L := CB N p1 p2 p3 v1) h (fun v4 => mk [(0, iD p0), (1, iD p1), (2, pD (.val (.int .u16 p2))), (3, bD p3), (9, oD (.own 2003)), (10, iD v1.2), (11, oD (.own 2004)), (12, iD v4.2)] [(2003, .vec 1 (v1.1.map (Fa eB))), (2004, .vec 1 (v4.1.map eB))]) (fun v5 => mk [(0, iD p0), (1, iD p1), (2, pD (.val (.int .u16 p2))), (3, bD p3), (9, oD (.own 2005)), (10, iD v1.2), (11, oD (.own 2006))] [(2005, .vec 1 (v1.1.map (Fa eB))), (2006, .vec 1 (v5.map eB))]) (fun _ _ => rfl) ((AY 11 2009 1 rfl rfl rfl).trans (sm [(2003, 2001), (2004, 2009)] _ _ rfl rfl)) (fun j4 n4 v4 h => ?_) (fun v5 s h hs => ?_)
   ·unfold CB at h
    refine wp rfl (qw 2 rfl (AV rfl (Ac ?_)))
    refine Bc h (fun h => ?_) fun h => ?_
    ·refine Am ?_
     refine AS h (fun v7 => mk [(0, iD p0), (1, iD p1), (2, pD (.val (.int .u16 p2))), (3, bD p3), (9, oD (.own 2007)), (10, iD v1.2), (11, oD (.own 2008)), (12, iD v4.2)] [(2007, .vec 1 (v1.1.map (Fa eB))), (2008, .vec 1 (v7.map eB))]) (fun j7 h => ?_) (fun v7 h => ?_)
     ·refine AM (Aj Ay rfl (qw 3 rfl ?_))
      refine EO 25 h rfl (fun h => ?_) fun h => ?_
      ·refine qw 2 rfl (B6 rfl (qp rfl (qm rfl ?_)))
       refine EO 30 h rfl (fun h => ?_) fun h => ?_
       ·refine qw 8 rfl (qp rfl (Eg Ew Ms WA rfl ?_))
        refine FO h fun c10 h => DI (f := eB) Ew Ew Ms W8 WA c10 rfl (qe rfl ?_)
        exact sn [(2007, 2003), (2008, 41)] h
       ·refine qw 2 rfl (NE rfl (qm rfl (AZ rfl ?_)))
        refine FO h fun c11 h => KH rfl c11 (NG rfl (by decide) (B6 rfl (qp rfl (Eg Ew Ms WA rfl ?_))))
        refine FO h fun c12 h => DI (f := eB) Ew Ew Ms W8 WA c12 rfl (qe rfl ?_)
        exact sn [(2007, 2003), (2008, 41)] h
      ·refine qw 3 rfl (qp rfl (qw 3 rfl (NE rfl (qm rfl (AZ rfl ?_)))))
       refine FO h fun c13 h => KH rfl c13 (NG rfl (by decide) (B6 rfl (qp rfl (Eg Ew Ms WA rfl ?_))))
       refine FO h fun c14 h => DI (f := eB) Ew Ew Ms W8 WA c14 rfl (qe rfl ?_)
       exact sn [(2007, 2003), (2008, 41)] h
     ·refine Aj Ay rfl (qm rfl (AZ rfl (qe rfl ?_)))
      exact sn [(2003, 2007), (2004, 2008)] h
    ·refine AT ?_
     exact sn [(2005, 2003), (2006, 2004)] h
   ·refine Ah hs (Aj Ay rfl (qw 2 rfl (Ev (BC 2006 _ _ rfl rfl) (Eg Dx H5 SP rfl ?_))))
    refine FO h fun c15 h => DI (f := (Fa eB)) Dx Dx H5 VX SP c15 rfl (qa rfl (Ac (Aj Ay rfl (qm rfl (AZ rfl (qe rfl ?_))))))
    exact sn [(2001, 45)] h
  ·refine AT ?_
   exact sn [(2002, 2001)] h
 ·refine Ah hs (wq rfl (qm rfl (qe rfl ?_)))
  obtain rfl := sj h
  refine Ah (sm [(1000, 2002)] [(8, oD (.own 1000))] [(1000, .vec 1 (v2.map (Fa eB)))] rfl rfl) (Ar ?_)
  exact ⟨⟨[_], tm, rfl⟩, ⟨rfl, tv⟩⟩
theorem Ok (N : Nat) (p0 : BJ) (r : Ab × Bool) (h : F2 N p0 = some r) : Au Tryz.prog 32 [.e (.agg (C3 p0))] [(1, r.1.fF.map Aq), (1, r.1.fL.map Aq), (1, r.1.fQ.map Aq), (6, r.1.fG.map AG)] (.tup [.agg [.own 0, .own 1, .own 2, .own 3], .one (.pure (.val (.bool r.2)))]) := by
 unfold F2 at h
 refine cw (n := 152) (rs := [.cell 2 29, .tmp 3]) Tryz.func32 fun w0 S0 => ?_
 refine wq rfl (qb rfl (qz J0 rfl (qa rfl (Ac (AQ ?_)))))
 refine AS h (fun v1 => mk [(1, oD (.ptr 1 0)), (2, oD (.ptr 2 0)), (19, bD v1)] [(1, .box (C3 p0)), (2, .box [.pure (.nil0), .pure (.nil0), .pure (.nil0), .pure (.nil0)])]) (fun j1 h => ?_) (fun v1 h => ?_)
 ·refine Aj Ay rfl (qf SW rfl (ql Xv rfl (AO Lj rfl (Gf rfl (qm rfl ?_)))))
  refine EO 14 h rfl (fun h => ?_) fun h => ?_
  ·refine qw 4 rfl (qp rfl (Ac ?_))
   exact sn [] h
  ·refine qf SC rfl (ql bW rfl (AO Yj rfl (Gf rfl (qp rfl (Ac ?_)))))
   exact sn [] h
 ·refine Bc h (fun h => ?_) fun h => ?_
  ·refine wq rfl (Bd J0 Uw rfl (qs BF rfl (qe rfl ?_)))
   obtain rfl := sj h
   refine Ah ((Av 2 0 2001 1 _ rfl rfl rfl rfl).trans ((Av 2 1 2002 1 _ rfl rfl rfl rfl).trans ((Av 2 2 2003 1 _ rfl rfl rfl rfl).trans ((Av 2 3 2004 6 _ rfl rfl rfl rfl).trans (sm [(1000, 2001), (1001, 2002), (1002, 2003), (1003, 2004)] [(2, oD (.ptr 2 0)), (3, bD false)] [(2, .box [.own 1000, .own 1001, .own 1002, .own 1003]), (1000, .vec 1 ((([] : List Int)).map Aq)), (1001, .vec 1 ((([] : List Int)).map Aq)), (1002, .vec 1 ((([] : List Int)).map Aq)), (1003, .vec 6 ((([] : List Ao)).map AG))] rfl rfl))))) (Ar ?_)
   exact ⟨⟨[_, _], ⟨.cellN _ _ _ _ _ _ _ rfl rfl Cu BF rfl rfl (Jw rfl), tm⟩, rfl⟩, ⟨rfl, rfl, rfl, rfl, tv⟩⟩
  ·refine Am (wq rfl (qz J0 rfl (Ac (wp rfl (qe rfl ?_)))))
   refine AH (L := C7 N p0) h (fun v4 => mk [(1, oD (.ptr 1 0)), (2, oD (.ptr 2 0)), (4, oD (.ptr 4 0)), (5, iD v4.2.2.2)] [(1, .box (C3 p0)), (2, .box [.pure (.nil0), .pure (.nil0), .pure (.nil0), .pure (.nil0)]), (4, .box [.own 2005, .own 2006, .own 2007, .pure (.nil0)]), (2005, .vec 1 (v4.1.map Aq)), (2006, .vec 1 (v4.2.1.map Aq)), (2007, .vec 1 (v4.2.2.1.map Aq))]) (fun v5 => mk [(1, oD (.ptr 1 0)), (2, oD (.ptr 2 0)), (4, oD (.ptr 4 0))] [(1, .box (C3 p0)), (2, .box [.pure (.nil0), .pure (.nil0), .pure (.nil0), .pure (.nil0)]), (4, .box [.own 2008, .own 2009, .own 2010, .pure (.nil0)]), (2008, .vec 1 (v5.1.map Aq)), (2009, .vec 1 (v5.2.1.map Aq)), (2010, .vec 1 (v5.2.2.map Aq))]) (fun _ _ => rfl) ((Av 4 0 2011 1 _ rfl rfl rfl rfl).trans ((Av 4 1 2012 1 _ rfl rfl rfl rfl).trans ((Av 4 2 2013 1 _ rfl rfl rfl rfl).trans (sm [(2005, 2011), (2006, 2012), (2007, 2013)] _ _ rfl rfl)))) (fun j4 n4 v4 h => ?_) (fun v5 s h hs => ?_)
   ·unfold C7 at h
    refine wp rfl (qm rfl (qf SW rfl (ql Xv rfl (AO Lj rfl (AV rfl (Ac ?_))))))
    refine Bc h (fun h => ?_) fun h => ?_
    ·refine Am (AQ (AM (wq rfl (qf SW rfl (ql Xv rfl (qm rfl ?_))))))
     refine BK h fun v7 a7 b7 h => qi Lj aX a7 (Ai b7) rfl (qk de rfl (NG rfl (by decide) (KO cu ao rfl (AZ rfl (qa rfl (Ac (wq rfl (qf Bs rfl (ql A7 rfl (qm rfl (Eg AC DH KV rfl ?_)))))))))))
     refine FO h fun c8 h => DI (f := Aq) AC AC DH LS KV c8 rfl (qf Bs rfl (qs WL rfl (Ac (wq rfl (qf GV rfl (ql A7 rfl (qf Zb rfl (ql Xv rfl (qm rfl ?_)))))))))
     refine B7 h fun v9 a9 h => AA [] (JM N p0.fL v4.2.2.2 v9 a9) dg rfl (qm rfl ?_)
     refine FO h fun c10 h => NG rfl c10 (Eg AC DH KV rfl ?_)
     refine FO h fun c11 h => DI (f := Aq) AC AC DH LS KV c11 rfl (qf GV rfl (qs WL rfl (AP (by kernel_rfl) (Aj Ay rfl (qf If rfl (ql A7 rfl (qf aa rfl (ql Xv rfl (qm rfl ?_)))))))))
     refine B7 h fun v12 a12 h => AA [] (JM N p0.fQ v4.2.2.2 v12 a12) dg rfl (qm rfl ?_)
     refine FO h fun c13 h => NG rfl c13 (Eg AC DH KV rfl ?_)
     refine FO h fun c14 h => DI (f := Aq) AC AC DH LS KV c14 rfl (qf If rfl (qs WL rfl (AP (by kernel_rfl) (Aj Ay rfl (qm rfl (AZ rfl (qe rfl ?_)))))))
     exact sn [(2005, 40), (2006, 51), (2007, 62)] h
    ·refine AT ?_
     exact sn [(2008, 2005), (2009, 2006), (2010, 2007)] h
   ·refine Ah hs (wp rfl (qe rfl ?_))
    refine AH (L := BG N p0 v5) h (fun v15 => mk [(1, oD (.ptr 1 0)), (2, oD (.ptr 2 0)), (4, oD (.ptr 4 0)), (7, iD v15.2)] [(1, .box (C3 p0)), (2, .box [.pure (.nil0), .pure (.nil0), .pure (.nil0), .pure (.nil0)]), (4, .box [.own 2014, .own 2015, .own 2016, .own 2017]), (2014, .vec 1 (v5.1.map Aq)), (2015, .vec 1 (v5.2.1.map Aq)), (2016, .vec 1 (v5.2.2.map Aq)), (2017, .vec 6 (v15.1.map AG))]) (fun v16 => mk [(2, oD (.ptr 2 0)), (4, oD (.ptr 4 0))] [(2, .box [.pure (.nil0), .pure (.nil0), .pure (.nil0), .pure (.nil0)]), (4, .box [.own 2018, .own 2019, .own 2020, .own 2021]), (2018, .vec 1 (v5.1.map Aq)), (2019, .vec 1 (v5.2.1.map Aq)), (2020, .vec 1 (v5.2.2.map Aq)), (2021, .vec 6 (v16.map AG))]) (fun _ _ => rfl) ((Av 4 3 2039 6 _ rfl rfl rfl rfl).trans (sm [(2014, 2008), (2015, 2009), (2016, 2010), (2017, 2039)] _ _ rfl rfl)) (fun j15 n15 v15 h => ?_) (fun v16 s h hs => ?_)
    ·unfold BG at h
     refine AQ ?_
     refine AS h (fun v17 => mk [(1, oD (.ptr 1 0)), (2, oD (.ptr 2 0)), (4, oD (.ptr 4 0)), (7, iD v15.2), (74, bD v17)] [(1, .box (C3 p0)), (2, .box [.pure (.nil0), .pure (.nil0), .pure (.nil0), .pure (.nil0)]), (4, .box [.own 2022, .own 2023, .own 2024, .own 2025]), (2022, .vec 1 (v5.1.map Aq)), (2023, .vec 1 (v5.2.1.map Aq)), (2024, .vec 1 (v5.2.2.map Aq)), (2025, .vec 6 (v15.1.map AG))]) (fun j17 h => ?_) (fun v17 h => ?_)
     ·refine Aj Ay rfl (qm rfl (qf SC rfl (ql bW rfl (AO Yj rfl (AV rfl (qm rfl ?_))))))
      refine EO 69 h rfl (fun h => ?_) fun h => ?_
      ·refine qf Bs rfl (ql A7 rfl (Dm AC rfl (Gf rfl (qp rfl (Ac ?_)))))
       exact sn [(2022, 2014), (2023, 2015), (2024, 2016), (2025, 2017)] h
      ·refine qw 4 rfl (qp rfl (Ac ?_))
       exact sn [(2022, 2014), (2023, 2015), (2024, 2016), (2025, 2017)] h
     ·refine Bc h (fun h => ?_) fun h => ?_
      ·refine Am (AQ (AM (wq rfl (qf SC rfl (ql bW rfl (qm rfl ?_))))))
       refine BK h fun v20 a20 b20 h => qi Yj ba a20 (Ai b20) rfl (qK eN ba rfl (qz fp rfl (qs ba rfl (Ac (wq rfl (qf Zj rfl (ql de rfl (NG rfl (by decide) (KO cu ao rfl (AZ rfl (qf Z3 rfl (ql de rfl (KO cu ao rfl (qf Bs rfl (ql A7 rfl (Dm AC rfl ?_))))))))))))))))
       refine FO h fun c21 h => NG rfl c21 (qf Z7 rfl (ql de rfl (KO cu ao rfl (qf Bs rfl (ql A7 rfl (Dm AC rfl ?_))))))
       refine FO h fun c22 h => NG rfl c22 (Bd Jf cB rfl (qz Jf rfl (qs C1 rfl (AP (by kernel_rfl) ?_))))
       refine AS h (fun v23 => mk [(1, oD (.ptr 1 0)), (2, oD (.ptr 2 0)), (4, oD (.ptr 4 0)), (7, iD v15.2), (8, oD (.ptr 8 0)), (9, oD (.ptr 9 0))] [(1, .box (C3 p0)), (2, .box [.pure (.nil0), .pure (.nil0), .pure (.nil0), .pure (.nil0)]), (4, .box [.own 2026, .own 2027, .own 2028, .own 2029]), (8, .box (Om v20)), (9, .box [iC ((wI .i64 (1 + (wI .i64 ((Int.tmod v20.fJ 4)))))), iC ((Int.tmod ((wI .i64 v20.fK)) ((v5.1.length : Int)))), iC ((Int.tmod ((wI .i64 v20.fP)) ((v5.1.length : Int)))), .pure (.val (.bool v23)), .pure (.nil0), .pure (.nil0)]), (2026, .vec 1 (v5.1.map Aq)), (2027, .vec 1 (v5.2.1.map Aq)), (2028, .vec 1 (v5.2.2.map Aq)), (2029, .vec 6 (v15.1.map AG))]) (fun j23 h => ?_) (fun v23 h => ?_)
       ·refine Aj Ay rfl (qf Zu rfl (ql TG rfl (qm rfl ?_)))
        refine EO 104 h rfl (fun h => ?_) fun h => ?_
        ·refine qL G6 C1 rfl ?_
         refine B7 h fun v25 a25 h => AA [] (CE N ((Ao.mk ((wI .i64 (1 + (wI .i64 ((Int.tmod v20.fJ 4)))))) ((Int.tmod ((wI .i64 v20.fK)) ((v5.1.length : Int)))) ((Int.tmod ((wI .i64 v20.fP)) ((v5.1.length : Int)))) false (([] : List (List Bool))) (([] : List (List Bool))))) v25 a25) Sy rfl (CP rfl (qp rfl (qf Kd rfl (qs Ms rfl (Ac ?_)))))
         exact sn [(2026, 2022), (2027, 2023), (2028, 2024), (2029, 2025)] h
        ·refine qw 3 rfl (qp rfl (qf Kd rfl (qs Ms rfl (Ac ?_))))
         exact sn [(2026, 2022), (2027, 2023), (2028, 2024), (2029, 2025)] h
       ·refine wq rfl (qf Bs rfl (ql A7 rfl (qf DN rfl (ql Cn rfl ?_))))
        refine BK h fun v26 a26 b26 h => qI AC DH a26 (Ai b26) rfl (qj Cn (Ai b26) rfl (qf Bs rfl (ql A7 rfl (qf Jh rfl (ql Cn rfl ?_)))))
        refine BK h fun v27 a27 b27 h => qI AC DH a27 (Ai b27) rfl (qj Cn (Ai b27) rfl (qf Zy rfl (ql cY rfl ?_)))
        refine B7 h fun v28 a28 h => AA [2030] (JK N v26 v27 v20.f7 false v28 a28) cU rfl (qf EP rfl (qs TI rfl (AP (by kernel_rfl) ?_)))
        refine AS h (fun v29 => mk [(1, oD (.ptr 1 0)), (2, oD (.ptr 2 0)), (4, oD (.ptr 4 0)), (7, iD v15.2), (9, oD (.ptr 9 0))] [(1, .box (C3 p0)), (2, .box [.pure (.nil0), .pure (.nil0), .pure (.nil0), .pure (.nil0)]), (4, .box [.own 2031, .own 2032, .own 2033, .own 2034]), (9, .box [iC ((wI .i64 (1 + (wI .i64 ((Int.tmod v20.fJ 4)))))), iC ((Int.tmod ((wI .i64 v20.fK)) ((v5.1.length : Int)))), iC ((Int.tmod ((wI .i64 v20.fP)) ((v5.1.length : Int)))), .pure (.val (.bool v23)), .own 2035, .own 2036]), (2031, .vec 1 (v5.1.map Aq)), (2032, .vec 1 (v5.2.1.map Aq)), (2033, .vec 1 (v5.2.2.map Aq)), (2034, .vec 6 (v15.1.map AG)), (2035, .vec 1 (v28.map (Fa eB))), (2036, .vec 1 (v29.map (Fa eB)))]) (fun j29 h => ?_) (fun v29 h => ?_)
        ·refine wq rfl (qf GX rfl (ql Cn rfl (B6 rfl (Ac ?_))))
         refine Bc h (fun h => ?_) fun h => ?_
         ·refine Aj Ay rfl (qf Bs rfl (ql A7 rfl (qf DN rfl (ql Cn rfl ?_))))
          refine BK h fun v31 a31 b31 h => qI AC DH a31 (Ai b31) rfl (qj Cn (Ai b31) rfl (qf Bs rfl (ql A7 rfl (qf DN rfl (ql Cn rfl ?_)))))
          refine BK h fun v32 a32 b32 h => qI AC DH a32 (Ai b32) rfl (qj Cn (Ai b32) rfl (qf ZE rfl (ql cY rfl ?_)))
          refine B7 h fun v33 a33 h => AA [2037] (JK N v31 v32 v20.f8 true v33 a33) cU rfl (qf EQ rfl (qs TI rfl (AP (by kernel_rfl) ?_)))
          exact sn [(2031, 2026), (2032, 2027), (2033, 2028), (2034, 2029), (2035, 2030), (2036, 2037)] h
         ·refine Am ?_
          exact WI _ h ((Av 9 5 2038 1 _ rfl rfl rfl rfl).trans (sm [(2031, 2026), (2032, 2027), (2033, 2028), (2034, 2029), (2035, 2030), (2036, 2038)] _ _ rfl rfl))
        ·refine Aj Ay rfl (qf Bw rfl (ql F0 rfl (qL G6 C1 rfl (Ev (BC 2035 _ _ rfl rfl) (Ev (BC 2036 _ _ rfl rfl) (Eg CK C1 Jf rfl ?_))))))
         refine FO h fun c34 h => DI (f := AG) CK CK C1 Yg Jf c34 rfl (qf Bw rfl (qs bO rfl (Ac (Aj Ay rfl (qm rfl (AZ rfl (qe rfl ?_)))))))
         exact sn [(2014, 2031), (2015, 2032), (2016, 2033), (2017, 149)] h
      ·refine AT ?_
       exact sn [(2018, 2022), (2019, 2023), (2020, 2024), (2021, 2025)] h
    ·refine Ah hs (wq rfl (qL Cu BF rfl (qs BF rfl (qe rfl ?_))))
     obtain rfl := sj h
     refine Ah (sm [(1000, 2018), (1001, 2019), (1002, 2020), (1003, 2021)] [(2, oD (.ptr 2 0)), (3, bD true)] [(2, .box [.own 1000, .own 1001, .own 1002, .own 1003]), (1000, .vec 1 (v5.1.map Aq)), (1001, .vec 1 (v5.2.1.map Aq)), (1002, .vec 1 (v5.2.2.map Aq)), (1003, .vec 6 (v16.map AG))] rfl rfl) (Ar ?_)
     exact ⟨⟨[_, _], ⟨.cellN _ _ _ _ _ _ _ rfl rfl Cu BF rfl rfl (Jw rfl), tm⟩, rfl⟩, ⟨rfl, rfl, rfl, rfl, tv⟩⟩
theorem GR (N : Nat) (p0 : Ab) (r : (List Aa)) (h : CG N p0 = some r) : Au Tryz.prog 44 [.e (.agg (Ag p0))] [(3, r.map Ad)] (oD (.own 0)) := by
 unfold CG at h
 refine cw (n := 60) (rs := [.tmp 2]) Tryz.func44 fun w0 S0 => ?_
 refine wq rfl (qb rfl (qa rfl (Ac (wq rfl (qa rfl (Ac (wp rfl (qe rfl ?_))))))))
 refine AH (L := BB N p0) h (fun v1 => mk [(1, oD (.ptr 1 0)), (3, oD (.own 2001)), (4, iD v1.2)] [(1, .box (Ag p0)), (2001, .vec 3 (v1.1.map Ad))]) (fun v2 => mk [(3, oD (.own 2002))] [(2002, .vec 3 (v2.map Ad))]) (fun _ _ => rfl) ((AY 3 2008 3 rfl rfl rfl).trans (sm [(2001, 2008)] _ _ rfl rfl)) (fun j1 n1 v1 h => ?_) (fun v2 s h hs => ?_)
 ·unfold BB at h
  refine wp rfl (qm rfl (qf Bw rfl (ql F0 rfl (AO CK rfl (AV rfl (Ac ?_))))))
  refine Bc h (fun h => ?_) fun h => ?_
  ·refine Am (AQ (AM (wq rfl (qe rfl ?_))))
   refine AH (L := BY N p0 v1) h (fun v4 => mk [(1, oD (.ptr 1 0)), (3, oD (.own 2003)), (4, iD v1.2), (5, iD v4.2)] [(1, .box (Ag p0)), (2003, .vec 3 (v4.1.map Ad))]) (fun v5 => mk [(1, oD (.ptr 1 0)), (3, oD (.own 2004)), (4, iD v1.2)] [(1, .box (Ag p0)), (2004, .vec 3 (v5.map Ad))]) (fun _ _ => rfl) (sm [(2003, 2001)] _ _ rfl rfl) (fun j4 n4 v4 h => ?_) (fun v5 s h hs => ?_)
   ·unfold BY at h
    refine wp rfl (qm rfl (qf Bw rfl (ql F0 rfl (qm rfl ?_))))
    refine BK h fun v6 a6 b6 h => qi CK C1 a6 (Ai b6) rfl (qg EP rfl (qk GZ rfl (AO Dx rfl (AV rfl (Ac ?_)))))
    refine Bc h (fun h => ?_) fun h => ?_
    ·refine Am (AQ (AM (wq rfl (qe rfl ?_))))
     refine AH (L := Cy N p0 v1 v4) h (fun v8 => mk [(1, oD (.ptr 1 0)), (3, oD (.own 2005)), (4, iD v1.2), (5, iD v4.2), (6, iD v8.2)] [(1, .box (Ag p0)), (2005, .vec 3 (v8.1.map Ad))]) (fun v9 => mk [(1, oD (.ptr 1 0)), (3, oD (.own 2006)), (4, iD v1.2), (5, iD v4.2)] [(1, .box (Ag p0)), (2006, .vec 3 (v9.map Ad))]) (fun _ _ => rfl) (sm [(2005, 2003)] _ _ rfl rfl) (fun j8 n8 v8 h => ?_) (fun v9 s h hs => ?_)
     ·unfold Cy at h
      refine wp rfl (qm rfl (qf Bw rfl (ql F0 rfl (qm rfl ?_))))
      refine BK h fun v10 a10 b10 h => qi CK C1 a10 (Ai b10) rfl (qg EP rfl (qk GZ rfl (qm rfl ?_)))
      refine BK h fun v11 a11 b11 h => qi Dx H5 a11 (Ai b11) rfl (qk Lq rfl (AO Ew rfl (AV rfl (Ac ?_))))
      refine Bc h (fun h => ?_) fun h => ?_
      ·refine Am ?_
       refine AS h (fun v13 => mk [(1, oD (.ptr 1 0)), (3, oD (.own 2007)), (4, iD v1.2), (5, iD v4.2), (6, iD v8.2)] [(1, .box (Ag p0)), (2007, .vec 3 (v13.map Ad))]) (fun j13 h => ?_) (fun v13 h => ?_)
       ·refine AM (wq rfl (qf Bw rfl (ql F0 rfl (qm rfl ?_))))
        refine BK h fun v14 a14 b14 h => qi CK C1 a14 (Ai b14) rfl (qg EP rfl (qk GZ rfl (qm rfl ?_)))
        refine BK h fun v15 a15 b15 h => qi Dx H5 a15 (Ai b15) rfl (qk Lq rfl (qm rfl ?_))
        refine BK h fun v16 a16 b16 h => qi Ew Ms a16 (Ai b16) rfl (qk TG rfl (CP rfl (Ac ?_)))
        refine Bc h (fun h => ?_) fun h => ?_
        ·refine Aj Ay rfl (qw 4 rfl (Bd GH QX rfl (Eg Bb CQ GH rfl ?_)))
         refine FO h fun c18 h => DI (f := Ad) Bb Bb CQ Lp GH c18 rfl (qe rfl ?_)
         exact sn [(2007, 58)] h
        ·refine Am ?_
         exact sn [(2007, 2005)] h
       ·refine Aj Ay rfl (qm rfl (AZ rfl (qe rfl ?_)))
        exact sn [(2005, 2007)] h
      ·refine AT ?_
       exact sn [(2006, 2005)] h
     ·refine Ah hs (Aj Ay rfl (qm rfl (AZ rfl (qe rfl ?_))))
      exact sn [(2003, 2006)] h
    ·refine AT ?_
     exact sn [(2004, 2003)] h
   ·refine Ah hs (Aj Ay rfl (qm rfl (AZ rfl (qe rfl ?_))))
    exact sn [(2001, 2004)] h
  ·refine AT ?_
   exact sn [(2002, 2001)] h
 ·refine Ah hs (wq rfl (qm rfl (qe rfl ?_)))
  obtain rfl := sj h
  refine Ah (sm [(1000, 2002)] [(2, oD (.own 1000))] [(1000, .vec 3 (v2.map Ad))] rfl rfl) (Ar ?_)
  exact ⟨⟨[_], tm, rfl⟩, ⟨rfl, tv⟩⟩
theorem IE (N : Nat) (p0 : List Aa) (p1 : Aa) (r : Bool) (h : Ez N p0 p1 = some r) : Au Tryz.prog 43 [pD (.sl (p0.map Ad)), .e (.agg (E8 p1))] [] (bD r) := by
 unfold Ez at h
 refine cw (n := 18) (rs := [.tmp 4]) Tryz.func43 fun w0 S0 => ?_
 refine wq rfl (qb rfl (qa rfl (Ac (wp rfl (qe rfl ?_)))))
 refine AH (L := El N p0 p1) h (fun v1 => mk [(0, pD (.sl (p0.map Ad))), (3, oD (.ptr 3 0)), (5, iD v1)] [(3, .box (E8 p1))]) (fun v2 => mk [] []) (fun _ _ => rfl) (sm [] _ _ rfl rfl) (fun j1 n1 v1 h => ?_) (fun v2 s h hs => ?_)
 ·unfold El at h
  refine wp rfl (qw 2 rfl (AO Bb rfl (AV rfl (Ac ?_))))
  refine Bc h (fun h => ?_) fun h => ?_
  ·refine Am (AQ (AM (wq rfl (qw 2 rfl ?_))))
   refine BK h fun v4 a4 b4 h => qi Bb CQ a4 (Ai b4) rfl (qK ID CQ rfl (qL ID CQ rfl ?_))
   refine Um [.int .i64 v4.fW, .int .i64 v4.fV, .int .i64 v4.fX] [.int .i64 p1.fW, .int .i64 p1.fV, .int .i64 p1.fX] (.p rfl) rfl rfl Re rfl ?_
   refine AP (by kernel_rfl) ?_
   refine Bc h (fun h => ?_) fun h => ?_
   ·refine wq rfl (qe rfl ?_)
    obtain rfl := sj h
    refine Ah (sm [] [(4, bD true)] [] rfl rfl) (Ar ?_)
    exact ⟨⟨[_], tm, rfl⟩, tv⟩
   ·refine Am (Aj Ay rfl (qm rfl (AZ rfl (qe rfl ?_))))
    exact sn [] h
  ·refine AT ?_
   exact sn [] h
 ·refine Ah hs (wq rfl (qe rfl ?_))
  obtain rfl := sj h
  refine Ah (sm [] [(4, bD false)] [] rfl rfl) (Ar ?_)
  exact ⟨⟨[_], tm, rfl⟩, tv⟩
theorem HU (N : Nat) (p0 : Ab) (p1 : List Aa) (r : Ab) (h : Dj N p0 p1 = some r) : Au Tryz.prog 46 [.e (.agg (Ag p0)), pD (.sl (p1.map Ad))] [(1, r.fF.map Aq), (1, r.fL.map Aq), (1, r.fQ.map Aq)] (.e (.agg [.own 0, .own 1, .own 2, sC (r.fG.map AG)])) := by
 unfold Dj at h
 refine cw (n := 122) (rs := [.cell 4 29]) Tryz.func46 fun w0 S0 => ?_
 refine wq rfl (qb rfl (qz J0 rfl (Ac (wq rfl (Eg AC DH KV rfl (qf Bs rfl (ql A7 rfl ?_)))))))
 refine FO h fun c1 h => GE (f := Aq) AC AC DH LS KV (fun _ => rfl) c1 rfl (Eg AC DH KV rfl (qf GV rfl (ql A7 rfl ?_)))
 refine FO h fun c2 h => GE (f := Aq) AC AC DH LS KV (fun _ => rfl) c2 rfl (Eg AC DH KV rfl (qf If rfl (ql A7 rfl ?_)))
 refine FO h fun c3 h => GE (f := Aq) AC AC DH LS KV (fun _ => rfl) c3 rfl (Bd J0 Uw rfl (qz J0 rfl (qs BF rfl (AP (by kernel_rfl) (wp rfl (qe rfl ?_))))))
 refine AH (L := Cc N p0 p1) h (fun v4 => mk [(1, pD (.sl (p1.map Ad))), (2, oD (.ptr 2 0)), (4, oD (.ptr 4 0)), (5, oD (.ptr 5 0)), (6, iD v4.2)] [(2, .box (Ag p0)), (4, .box [.pure (.nil0), .pure (.nil0), .pure (.nil0), .pure (.nil0)]), (5, .box [.own 2001, .own 2002, .own 2003, .own 2004]), (2001, .vec 1 (((([] : List Int)) ++ p0.fF).map Aq)), (2002, .vec 1 (((([] : List Int)) ++ p0.fL).map Aq)), (2003, .vec 1 (((([] : List Int)) ++ p0.fQ).map Aq)), (2004, .dvec 6 [.s, .s, .s, .s, .x 1 [.x 1 []], .x 1 [.x 1 []]] (v4.1.map AG))]) (fun v5 => mk [(4, oD (.ptr 4 0)), (5, oD (.ptr 5 0))] [(4, .box [.pure (.nil0), .pure (.nil0), .pure (.nil0), .pure (.nil0)]), (5, .box [.own 2005, .own 2006, .own 2007, .own 2008]), (2005, .vec 1 (((([] : List Int)) ++ p0.fF).map Aq)), (2006, .vec 1 (((([] : List Int)) ++ p0.fL).map Aq)), (2007, .vec 1 (((([] : List Int)) ++ p0.fQ).map Aq)), (2008, .dvec 6 [.s, .s, .s, .s, .x 1 [.x 1 []], .x 1 [.x 1 []]] (v5.map AG))]) (fun _ _ => rfl) ((Av 5 3 2051 6 _ rfl rfl rfl rfl).trans ((H4 2051 6 [.s, .s, .s, .s, .x 1 [.x 1 []], .x 1 [.x 1 []]] [] [] rfl rfl).trans (sm [(2001, 15), (2002, 19), (2003, 23), (2004, 2051)] _ _ rfl rfl))) (fun j4 n4 v4 h => ?_) (fun v5 s h hs => ?_)
 ·unfold Cc at h
  refine wp rfl (qm rfl (qf Bw rfl (ql F0 rfl (AO CK rfl (AV rfl (Ac ?_))))))
  refine Bc h (fun h => ?_) fun h => ?_
  ·refine Am (AQ (AM (wq rfl (qf Bw rfl (ql F0 rfl (qm rfl ?_))))))
   refine BK h fun v7 a7 b7 h => qi CK C1 a7 (Ai b7) rfl (qK G6 C1 rfl (qz Jf rfl (qs C1 rfl (Ac (wq rfl (qf EP rfl (qs TI rfl (qf EQ rfl (qs TI rfl (Ac (wp rfl (qe rfl ?_))))))))))))
   refine AH (L := Dh N p0 p1 v4) h (fun v8 => mk [(1, pD (.sl (p1.map Ad))), (2, oD (.ptr 2 0)), (4, oD (.ptr 4 0)), (5, oD (.ptr 5 0)), (6, iD v4.2), (7, oD (.ptr 7 0)), (8, iD v8.2)] [(2, .box (Ag p0)), (4, .box [.pure (.nil0), .pure (.nil0), .pure (.nil0), .pure (.nil0)]), (5, .box [.own 2009, .own 2010, .own 2011, .own 2012]), (7, .box [iC v7.fJ, iC v7.fK, iC v7.fP, .pure (.val (.bool v7.fS)), .own 2013, .pure (.nil0)]), (2009, .vec 1 (((([] : List Int)) ++ p0.fF).map Aq)), (2010, .vec 1 (((([] : List Int)) ++ p0.fL).map Aq)), (2011, .vec 1 (((([] : List Int)) ++ p0.fQ).map Aq)), (2012, .dvec 6 [.s, .s, .s, .s, .x 1 [.x 1 []], .x 1 [.x 1 []]] (v4.1.map AG)), (2013, .dvec 1 [.x 1 []] (v8.1.map (Fa eB)))]) (fun v9 => mk [(1, pD (.sl (p1.map Ad))), (2, oD (.ptr 2 0)), (4, oD (.ptr 4 0)), (5, oD (.ptr 5 0)), (6, iD v4.2), (7, oD (.ptr 7 0))] [(2, .box (Ag p0)), (4, .box [.pure (.nil0), .pure (.nil0), .pure (.nil0), .pure (.nil0)]), (5, .box [.own 2014, .own 2015, .own 2016, .own 2017]), (7, .box [iC v7.fJ, iC v7.fK, iC v7.fP, .pure (.val (.bool v7.fS)), .own 2018, .pure (.nil0)]), (2014, .vec 1 (((([] : List Int)) ++ p0.fF).map Aq)), (2015, .vec 1 (((([] : List Int)) ++ p0.fL).map Aq)), (2016, .vec 1 (((([] : List Int)) ++ p0.fQ).map Aq)), (2017, .dvec 6 [.s, .s, .s, .s, .x 1 [.x 1 []], .x 1 [.x 1 []]] (v4.1.map AG)), (2018, .dvec 1 [.x 1 []] (v9.map (Fa eB)))]) (fun _ _ => rfl) ((Av 7 4 2037 1 _ rfl rfl rfl rfl).trans ((H4 2037 1 [.x 1 []] [] [] rfl rfl).trans (sm [(2009, 2001), (2010, 2002), (2011, 2003), (2012, 2004), (2013, 2037)] _ _ rfl rfl))) (fun j8 n8 v8 h => ?_) (fun v9 s h hs => ?_)
   ·unfold Dh at h
    refine wp rfl (qm rfl (qf Bw rfl (ql F0 rfl (qm rfl ?_))))
    refine BK h fun v10 a10 b10 h => qi CK C1 a10 (Ai b10) rfl (qg EP rfl (qk GZ rfl (AO Dx rfl (AV rfl (Ac ?_)))))
    refine Bc h (fun h => ?_) fun h => ?_
    ·refine Am (AQ (AM (wq rfl (Eg Ew Ms WA rfl (qf Bw rfl (ql F0 rfl (qm rfl ?_)))))))
     refine BK h fun v12 a12 b12 h => qi CK C1 a12 (Ai b12) rfl (qg EP rfl (qk GZ rfl (qm rfl ?_)))
     refine BK h fun v13 a13 b13 h => qi Dx H5 a13 (Ai b13) rfl (qk Lq rfl ?_)
     refine FO h fun c14 h => GE (f := eB) Ew Ew Ms W8 WA (fun _ => rfl) c14 rfl (qa rfl (Ac (wp rfl (qe rfl ?_))))
     refine AH (L := Ct N p1 v4 v8) h (fun v15 => mk [(1, pD (.sl (p1.map Ad))), (2, oD (.ptr 2 0)), (4, oD (.ptr 4 0)), (5, oD (.ptr 5 0)), (6, iD v4.2), (7, oD (.ptr 7 0)), (8, iD v8.2), (9, oD (.own 2024)), (10, iD v15.2)] [(2, .box (Ag p0)), (4, .box [.pure (.nil0), .pure (.nil0), .pure (.nil0), .pure (.nil0)]), (5, .box [.own 2019, .own 2020, .own 2021, .own 2022]), (7, .box [iC v7.fJ, iC v7.fK, iC v7.fP, .pure (.val (.bool v7.fS)), .own 2023, .pure (.nil0)]), (2019, .vec 1 (((([] : List Int)) ++ p0.fF).map Aq)), (2020, .vec 1 (((([] : List Int)) ++ p0.fL).map Aq)), (2021, .vec 1 (((([] : List Int)) ++ p0.fQ).map Aq)), (2022, .dvec 6 [.s, .s, .s, .s, .x 1 [.x 1 []], .x 1 [.x 1 []]] (v4.1.map AG)), (2023, .dvec 1 [.x 1 []] (v8.1.map (Fa eB))), (2024, .vec 1 (v15.1.map eB))]) (fun v16 => mk [(1, pD (.sl (p1.map Ad))), (2, oD (.ptr 2 0)), (4, oD (.ptr 4 0)), (5, oD (.ptr 5 0)), (6, iD v4.2), (7, oD (.ptr 7 0)), (8, iD v8.2), (9, oD (.own 2030))] [(2, .box (Ag p0)), (4, .box [.pure (.nil0), .pure (.nil0), .pure (.nil0), .pure (.nil0)]), (5, .box [.own 2025, .own 2026, .own 2027, .own 2028]), (7, .box [iC v7.fJ, iC v7.fK, iC v7.fP, .pure (.val (.bool v7.fS)), .own 2029, .pure (.nil0)]), (2025, .vec 1 (((([] : List Int)) ++ p0.fF).map Aq)), (2026, .vec 1 (((([] : List Int)) ++ p0.fL).map Aq)), (2027, .vec 1 (((([] : List Int)) ++ p0.fQ).map Aq)), (2028, .dvec 6 [.s, .s, .s, .s, .x 1 [.x 1 []], .x 1 [.x 1 []]] (v4.1.map AG)), (2029, .dvec 1 [.x 1 []] (v8.1.map (Fa eB))), (2030, .vec 1 (v16.map eB))]) (fun _ _ => rfl) (sm [(2019, 2009), (2020, 2010), (2021, 2011), (2022, 2012), (2023, 2013), (2024, 60)] _ _ rfl rfl) (fun j15 n15 v15 h => ?_) (fun v16 s h hs => ?_)
     ·unfold Ct at h
      refine wp rfl (qw 2 rfl (Dm Ew rfl (AV rfl (Ac ?_))))
      refine Bc h (fun h => ?_) fun h => ?_
      ·refine Am ?_
       refine AS h (fun v18 => mk [(1, pD (.sl (p1.map Ad))), (2, oD (.ptr 2 0)), (4, oD (.ptr 4 0)), (5, oD (.ptr 5 0)), (6, iD v4.2), (7, oD (.ptr 7 0)), (8, iD v8.2), (9, oD (.own 2036)), (10, iD v15.2)] [(2, .box (Ag p0)), (4, .box [.pure (.nil0), .pure (.nil0), .pure (.nil0), .pure (.nil0)]), (5, .box [.own 2031, .own 2032, .own 2033, .own 2034]), (7, .box [iC v7.fJ, iC v7.fK, iC v7.fP, .pure (.val (.bool v7.fS)), .own 2035, .pure (.nil0)]), (2031, .vec 1 (((([] : List Int)) ++ p0.fF).map Aq)), (2032, .vec 1 (((([] : List Int)) ++ p0.fL).map Aq)), (2033, .vec 1 (((([] : List Int)) ++ p0.fQ).map Aq)), (2034, .dvec 6 [.s, .s, .s, .s, .x 1 [.x 1 []], .x 1 [.x 1 []]] (v4.1.map AG)), (2035, .dvec 1 [.x 1 []] (v8.1.map (Fa eB))), (2036, .vec 1 (v18.map eB))]) (fun j18 h => ?_) (fun v18 h => ?_)
       ·refine AM (Aj Ay rfl (qw 4 rfl ?_))
        refine BK h fun v19 a19 b19 h => qI Ew Ms a19 (Ai b19) rfl (qj TG (Ai b19) rfl (qm rfl ?_))
        refine EO 73 h rfl (fun h => ?_) fun h => ?_
        ·refine qw 6 rfl (qp rfl ?_)
         refine BK h fun v21 a21 b21 h => qI Ew Ms a21 (Ai b21) rfl ?_
         refine D4 rfl rfl rfl rfl (Ai b21) rfl Ms rfl (Hn rfl) (C8 eB v15.1 _ true) ?_
         refine Ac ?_
         exact sn [(2031, 2019), (2032, 2020), (2033, 2021), (2034, 2022), (2035, 2023), (2036, 2024)] h
        ·refine qw 4 rfl (Bd GH QX rfl ?_)
         refine B7 h fun v22 a22 h => AA [] (IE N p1 ((Aa.mk v4.2 v8.2 v15.2)) v22 a22) ci rfl (qp rfl ?_)
         refine BK h fun v23 a23 b23 h => qI Ew Ms a23 (Ai b23) rfl ?_
         refine D4 rfl rfl rfl rfl (Ai b23) rfl Ms rfl (Hn rfl) (C8 eB v15.1 _ v22) ?_
         refine Ac ?_
         exact sn [(2031, 2019), (2032, 2020), (2033, 2021), (2034, 2022), (2035, 2023), (2036, 2024)] h
       ·refine Aj Ay rfl (qm rfl (AZ rfl (qe rfl ?_)))
        exact sn [(2019, 2031), (2020, 2032), (2021, 2033), (2022, 2034), (2023, 2035), (2024, 2036)] h
      ·refine AT ?_
       exact sn [(2025, 2019), (2026, 2020), (2027, 2021), (2028, 2022), (2029, 2023), (2030, 2024)] h
     ·refine Ah hs (Aj Ay rfl (qf EP rfl (ql GZ rfl (qm rfl ?_))))
      refine IL (x := .one (.own 2030)) (cs := [.own 2030]) (ts := [.sl (v16.map eB)]) [.x 1 []] [(2030, .vec 1 (v16.map eB))] (.p rfl) rfl rfl rfl rfl rfl ⟨rfl, tv⟩ ⟨rfl, tv⟩ rfl rfl rfl Dx H5 SP (Hn rfl) ?_
      refine FO h fun c24 h => KC (.p rfl) rfl rfl rfl rfl rfl (by decide) Dx Dx H5 VX (Hn rfl) SP rfl (Ny (f := (Fa eB)) (g := (Fa eB)) (xs := v8.1) (ys := (([v16] : List (List Bool)))) c24) (Nb (Fa eB) v8.1 (([v16] : List (List Bool)))) rfl rfl ?_
      refine qf EP rfl (qs TI rfl (Ac (Aj Ay rfl (qm rfl (AZ rfl (qe rfl ?_))))))
      exact sn [(2009, 2025), (2010, 2026), (2011, 2027), (2012, 2028), (2013, 86)] h
    ·refine AT ?_
     exact sn [(2014, 2009), (2015, 2010), (2016, 2011), (2017, 2012), (2018, 2013)] h
   ·refine Ah hs (wp rfl (qe rfl ?_))
    refine AH (L := Cr N p0 v4) h (fun v25 => mk [(1, pD (.sl (p1.map Ad))), (2, oD (.ptr 2 0)), (4, oD (.ptr 4 0)), (5, oD (.ptr 5 0)), (6, iD v4.2), (7, oD (.ptr 7 0)), (11, iD v25.2)] [(2, .box (Ag p0)), (4, .box [.pure (.nil0), .pure (.nil0), .pure (.nil0), .pure (.nil0)]), (5, .box [.own 2038, .own 2039, .own 2040, .own 2041]), (7, .box [iC v7.fJ, iC v7.fK, iC v7.fP, .pure (.val (.bool v7.fS)), .own 2042, .own 2043]), (2038, .vec 1 (((([] : List Int)) ++ p0.fF).map Aq)), (2039, .vec 1 (((([] : List Int)) ++ p0.fL).map Aq)), (2040, .vec 1 (((([] : List Int)) ++ p0.fQ).map Aq)), (2041, .dvec 6 [.s, .s, .s, .s, .x 1 [.x 1 []], .x 1 [.x 1 []]] (v4.1.map AG)), (2042, .dvec 1 [.x 1 []] (v9.map (Fa eB))), (2043, .dvec 1 [.x 1 []] (v25.1.map (Fa eB)))]) (fun v26 => mk [(1, pD (.sl (p1.map Ad))), (2, oD (.ptr 2 0)), (4, oD (.ptr 4 0)), (5, oD (.ptr 5 0)), (6, iD v4.2), (7, oD (.ptr 7 0))] [(2, .box (Ag p0)), (4, .box [.pure (.nil0), .pure (.nil0), .pure (.nil0), .pure (.nil0)]), (5, .box [.own 2044, .own 2045, .own 2046, .own 2047]), (7, .box [iC v7.fJ, iC v7.fK, iC v7.fP, .pure (.val (.bool v7.fS)), .own 2048, .own 2049]), (2044, .vec 1 (((([] : List Int)) ++ p0.fF).map Aq)), (2045, .vec 1 (((([] : List Int)) ++ p0.fL).map Aq)), (2046, .vec 1 (((([] : List Int)) ++ p0.fQ).map Aq)), (2047, .dvec 6 [.s, .s, .s, .s, .x 1 [.x 1 []], .x 1 [.x 1 []]] (v4.1.map AG)), (2048, .dvec 1 [.x 1 []] (v9.map (Fa eB))), (2049, .dvec 1 [.x 1 []] (v26.map (Fa eB)))]) (fun _ _ => rfl) ((Av 7 5 2050 1 _ rfl rfl rfl rfl).trans ((H4 2050 1 [.x 1 []] [] [] rfl rfl).trans (sm [(2038, 2014), (2039, 2015), (2040, 2016), (2041, 2017), (2042, 2018), (2043, 2050)] _ _ rfl rfl))) (fun j25 n25 v25 h => ?_) (fun v26 s h hs => ?_)
    ·unfold Cr at h
     refine wp rfl (qm rfl (qf Bw rfl (ql F0 rfl (qm rfl ?_))))
     refine BK h fun v27 a27 b27 h => qi CK C1 a27 (Ai b27) rfl (qg EQ rfl (qk GZ rfl (AO Dx rfl (AV rfl (Ac ?_)))))
     refine Bc h (fun h => ?_) fun h => ?_
     ·refine Am (AQ (AM (Aj Ay rfl (qf EQ rfl (ql GZ rfl (Eg Ew Ms WA rfl (qf Bw rfl (ql F0 rfl (qm rfl ?_)))))))))
      refine BK h fun v29 a29 b29 h => qi CK C1 a29 (Ai b29) rfl (qg EQ rfl (qk GZ rfl (qm rfl ?_)))
      refine BK h fun v30 a30 b30 h => qi Dx H5 a30 (Ai b30) rfl (qk Lq rfl ?_)
      refine FO h fun c31 h => GE (f := eB) Ew Ew Ms W8 WA (fun _ => rfl) c31 rfl ?_
      refine IL (x := .one (.own 111)) (cs := [.own 111]) (ts := [.sl (((([] : List Bool)) ++ v30).map eB)]) [.x 1 []] [(111, .vec 1 (((([] : List Bool)) ++ v30).map eB))] (.p rfl) rfl rfl rfl rfl rfl ⟨rfl, tv⟩ ⟨rfl, tv⟩ rfl rfl rfl Dx H5 SP (Hn rfl) ?_
      refine FO h fun c32 h => KC (.p rfl) rfl rfl rfl rfl rfl (by decide) Dx Dx H5 VX (Hn rfl) SP rfl (Ny (f := (Fa eB)) (g := (Fa eB)) (xs := v25.1) (ys := (([(([] : List Bool)) ++ v30] : List (List Bool)))) c32) (Nb (Fa eB) v25.1 (([(([] : List Bool)) ++ v30] : List (List Bool)))) rfl rfl ?_
      refine qf EQ rfl (qs TI rfl (AP (by kernel_rfl) (Aj Ay rfl (qm rfl (AZ rfl (qe rfl ?_))))))
      exact sn [(2043, 113)] h
     ·refine AT ?_
      exact sn [(2044, 2038), (2045, 2039), (2046, 2040), (2047, 2041), (2048, 2042), (2049, 2043)] h
    ·refine Ah hs (Aj Ay rfl (qf Bw rfl (ql F0 rfl (qL G6 C1 rfl ?_))))
     refine IL (x := .agg [iC v7.fJ, iC v7.fK, iC v7.fP, .pure (.val (.bool v7.fS)), .own 2048, .own 2049]) (cs := [iC v7.fJ, iC v7.fK, iC v7.fP, .pure (.val (.bool v7.fS)), .own 2048, .own 2049]) (ts := [.val (.int .i64 v7.fJ), .val (.int .i64 v7.fK), .val (.int .i64 v7.fP), .val (.bool v7.fS), .sl (v9.map (Fa eB)), .sl (v26.map (Fa eB))]) [.s, .s, .s, .s, .x 1 [.x 1 []], .x 1 [.x 1 []]] [(2048, .dvec 1 [.x 1 []] (v9.map (Fa eB))), (2049, .dvec 1 [.x 1 []] (v26.map (Fa eB)))] (.p rfl) rfl rfl rfl rfl rfl ⟨rfl, rfl, tv⟩ ⟨rfl, rfl, rfl, rfl, rfl, rfl, tv⟩ rfl rfl rfl CK C1 Jf (Hn rfl) ?_
     refine FO h fun c33 h => KC (.p rfl) rfl rfl rfl rfl rfl (by decide) CK CK C1 Yg (Hn rfl) Jf rfl (Ny (f := AG) (g := AG) (xs := v4.1) (ys := (([(Ao.mk v7.fJ v7.fK v7.fP v7.fS v9 v26)] : List Ao))) c33) (Nb AG v4.1 (([(Ao.mk v7.fJ v7.fK v7.fP v7.fS v9 v26)] : List Ao))) rfl rfl ?_
     refine qf Bw rfl (qs bO rfl (Ac (Aj Ay rfl (qm rfl (AZ rfl (qe rfl ?_))))))
     exact sn [(2001, 2044), (2002, 2045), (2003, 2046), (2004, 119)] h
  ·refine AT ?_
   exact sn [(2005, 2001), (2006, 2002), (2007, 2003), (2008, 2004)] h
 ·refine Ah hs (wq rfl (qL Cu BF rfl (qs BF rfl (Ac ?_))))
  obtain rfl := sj h
  refine Ah ((OF 2008 _ _ _ rfl rfl).trans (sm [(1000, 2005), (1001, 2006), (1002, 2007)] [(4, oD (.ptr 4 0))] [(4, .box [.own 1000, .own 1001, .own 1002, sC (v5.map AG)]), (1000, .vec 1 (((([] : List Int)) ++ p0.fF).map Aq)), (1001, .vec 1 (((([] : List Int)) ++ p0.fL).map Aq)), (1002, .vec 1 (((([] : List Int)) ++ p0.fQ).map Aq))] rfl rfl)) (Ar ?_)
  exact ⟨⟨[_], ⟨.cellN _ _ _ _ _ _ _ rfl rfl Cu BF rfl rfl (Jw rfl), tv⟩, rfl⟩, ⟨rfl, rfl, rfl, tv⟩⟩
theorem IY (N : Nat) (p0 : List (List Bool)) (p1 : Int) (p2 : Int) (r : Bool) (h : D2 N p0 p1 p2 = some r) : Au Tryz.prog 83 [pD (.sl (p0.map (Fa eB))), iD p1, iD p2] [] (bD r) := by
 unfold D2 at h
 refine cw (n := 24) (rs := [.tmp 6]) Tryz.func83 fun w0 S0 => ?_
 refine wq rfl (qa rfl (Ac (wp rfl (qm rfl (AO Dx rfl (qm rfl (BS rfl (Ac ?_))))))))
 refine Bc h (fun h => ?_) fun h => ?_
 ·refine wq rfl (qe rfl ?_)
  obtain rfl := sj h
  refine Ah (sm [] [(6, bD false)] [] rfl rfl) (Ar ?_)
  exact ⟨⟨[_], tm, rfl⟩, tv⟩
 ·refine Am (wp rfl (qe rfl ?_))
  refine AH (L := CM N p0 p1 p2) h (fun v2 => mk [(0, pD (.sl (p0.map (Fa eB)))), (1, iD p1), (2, iD p2), (7, iD v2)] []) (fun v3 => mk [] []) (fun _ _ => rfl) (sm [] _ _ rfl rfl) (fun j2 n2 v2 h => ?_) (fun v3 s h hs => ?_)
  ·unfold CM at h
   refine wp rfl (qw 2 rfl (AV rfl (Ac ?_)))
   refine Bc h (fun h => ?_) fun h => ?_
   ·refine Am (AQ (AM (wq rfl (qw 2 rfl ?_))))
    refine BK h fun v5 a5 b5 h => qi Dx H5 a5 (Ai b5) rfl (qk Lq rfl (AO Ew rfl (qm rfl (BS rfl (Ac ?_)))))
    refine Bc h (fun h => ?_) fun h => ?_
    ·refine wq rfl (qe rfl ?_)
     obtain rfl := sj h
     refine Ah (sm [] [(6, bD false)] [] rfl rfl) (Ar ?_)
     exact ⟨⟨[_], tm, rfl⟩, tv⟩
    ·refine Am (Aj Ay rfl (qm rfl (AZ rfl (qe rfl ?_))))
     exact sn [] h
   ·refine AT ?_
    exact sn [] h
  ·refine Ah hs (wq rfl (qe rfl ?_))
   obtain rfl := sj h
   refine Ah (sm [] [(6, bD true)] [] rfl rfl) (Ar ?_)
   exact ⟨⟨[_], tm, rfl⟩, tv⟩
theorem Mg (N : Nat) (p0 : Ab) (p1 : Ao) (r : Int) (h : Fk N p0 p1 = some r) : Au Tryz.prog 55 [.e (.agg (Ag p0)), .e (.agg (Bg p1))] [] (iD r) := by
 unfold Fk at h
 refine cw (n := 101) (rs := [.tmp 4]) Tryz.func55 fun w0 S0 => ?_
 refine wq rfl (qb rfl (qb rfl (qa rfl (Ac (AQ ?_)))))
 refine AS h (fun v1 => mk [(2, oD (.ptr 2 0)), (3, oD (.ptr 3 0)), (22, bD v1)] [(2, .box (Ag p0)), (3, .box (Bg p1))]) (fun j1 h => ?_) (fun v1 h => ?_)
 ·refine Aj Ay rfl (qf GX rfl (ql Cn rfl (AV rfl (qm rfl ?_))))
  refine EO 10 h rfl (fun h => ?_) fun h => ?_
  ·refine qw 3 rfl (qp rfl (qw 4 rfl (qu rfl (qu rfl (qn rfl (qp rfl (Ac ?_)))))))
   exact sn [] h
  ·refine qf GX rfl (ql Cn rfl (Gf rfl (qp rfl (qm rfl ?_))))
   refine EO 15 h rfl (fun h => ?_) fun h => ?_
   ·refine qw 3 rfl (qu rfl (qu rfl (qn rfl (qp rfl (Ac ?_)))))
    exact sn [] h
   ·refine qf Kd rfl (ql TG rfl (qm rfl ?_))
    refine EO 18 h rfl (fun h => ?_) fun h => ?_
    ·refine qL G6 C1 rfl ?_
     refine B7 h fun v5 a5 h => AA [] (CE N p1 v5 a5) Sy rfl (qp rfl (qp rfl (Ac ?_)))
     exact sn [] h
    ·refine qw 2 rfl (qp rfl (qp rfl (Ac ?_)))
     exact sn [] h
 ·refine Bc h (fun h => ?_) fun h => ?_
  ·refine wq rfl (qe rfl ?_)
   obtain rfl := sj h
   refine Ah (sm [] [(4, iD 1)] [] rfl rfl) (Ar ?_)
   exact ⟨⟨[_], tm, rfl⟩, tv⟩
  ·refine Am (wq rfl (qf Bs rfl (ql A7 rfl (AO AC rfl (qa rfl (Ac (AQ ?_)))))))
   refine AS h (fun v7 => mk [(2, oD (.ptr 2 0)), (3, oD (.ptr 3 0)), (45, bD v7)] [(2, .box (Ag p0)), (3, .box (Bg p1))]) (fun j7 h => ?_) (fun v7 h => ?_)
   ·refine Aj Ay rfl (qf DN rfl (ql Cn rfl (AV rfl (qm rfl ?_))))
    refine EO 29 h rfl (fun h => ?_) fun h => ?_
    ·refine qw 4 rfl (qp rfl (qw 4 rfl (qp rfl (qw 5 rfl (qp rfl (Ac ?_))))))
     exact sn [] h
    ·refine qf DN rfl (ql Cn rfl (qm rfl (FM rfl (qp rfl (qm rfl ?_)))))
     refine EO 35 h rfl (fun h => ?_) fun h => ?_
     ·refine qw 3 rfl (qp rfl (qw 5 rfl (qp rfl (Ac ?_))))
      exact sn [] h
     ·refine qf Jh rfl (ql Cn rfl (AV rfl (qp rfl (qm rfl ?_))))
      refine EO 40 h rfl (fun h => ?_) fun h => ?_
      ·refine qw 4 rfl (qp rfl (Ac ?_))
       exact sn [] h
      ·refine qf Jh rfl (ql Cn rfl (qm rfl (FM rfl (qp rfl (Ac ?_)))))
       exact sn [] h
   ·refine Bc h (fun h => ?_) fun h => ?_
    ·refine wq rfl (qe rfl ?_)
     obtain rfl := sj h
     refine Ah (sm [] [(4, iD 4)] [] rfl rfl) (Ar ?_)
     exact ⟨⟨[_], tm, rfl⟩, tv⟩
    ·refine Am (wp rfl (qf EP rfl (ql GZ rfl (qf Bs rfl (ql A7 rfl (qf DN rfl (ql Cn rfl ?_)))))))
     refine BK h fun v12 a12 b12 h => qi AC DH a12 (Ai b12) rfl (qk Cn rfl (qf Bs rfl (ql A7 rfl (qf Jh rfl (ql Cn rfl ?_)))))
     refine BK h fun v13 a13 b13 h => qi AC DH a13 (Ai b13) rfl (qk Cn rfl ?_)
     refine B7 h fun v14 a14 h => AA [] (IY N p1.fO v12 v13 v14 a14) cX rfl (CP rfl (AP (by kernel_rfl) ?_))
     refine Bc h (fun h => ?_) fun h => ?_
     ·refine wq rfl (qe rfl ?_)
      obtain rfl := sj h
      refine Ah (sm [] [(4, iD 6)] [] rfl rfl) (Ar ?_)
      exact ⟨⟨[_], tm, rfl⟩, tv⟩
     ·refine Am (wp rfl (qf GX rfl (ql Cn rfl (BS rfl (Ac ?_)))))
      refine Bc h (fun h => ?_) fun h => ?_
      ·refine wp rfl (qf EQ rfl (ql GZ rfl (AO Dx rfl (BS rfl (Ac ?_)))))
       refine Bc h (fun h => ?_) fun h => ?_
       ·refine wq rfl (qe rfl ?_)
        obtain rfl := sj h
        refine Ah (sm [] [(4, iD 6)] [] rfl rfl) (Ar ?_)
        exact ⟨⟨[_], tm, rfl⟩, tv⟩
       ·refine Am (wq rfl (qe rfl ?_))
        obtain rfl := sj h
        refine Ah (sm [] [(4, iD 0)] [] rfl rfl) (Ar ?_)
        exact ⟨⟨[_], tm, rfl⟩, tv⟩
      ·refine Am (wp rfl (qf EQ rfl (ql GZ rfl (qf Bs rfl (ql A7 rfl (qf DN rfl (ql Cn rfl ?_)))))))
       refine BK h fun v18 a18 b18 h => qi AC DH a18 (Ai b18) rfl (qk Cn rfl (qf Bs rfl (ql A7 rfl (qf DN rfl (ql Cn rfl ?_)))))
       refine BK h fun v19 a19 b19 h => qi AC DH a19 (Ai b19) rfl (qk Cn rfl ?_)
       refine B7 h fun v20 a20 h => AA [] (IY N p1.fR v18 v19 v20 a20) cX rfl (CP rfl (AP (by kernel_rfl) ?_))
       refine Bc h (fun h => ?_) fun h => ?_
       ·refine wq rfl (qe rfl ?_)
        obtain rfl := sj h
        refine Ah (sm [] [(4, iD 6)] [] rfl rfl) (Ar ?_)
        exact ⟨⟨[_], tm, rfl⟩, tv⟩
       ·refine Am (wp rfl (qe rfl ?_))
        refine AH (L := Ce N p1) h (fun v22 => mk [(3, oD (.ptr 3 0)), (6, iD v22)] [(3, .box (Bg p1))]) (fun v23 => mk [] []) (fun _ _ => rfl) (sm [] _ _ rfl rfl) (fun j22 n22 v22 h => ?_) (fun v23 s h hs => ?_)
        ·unfold Ce at h
         refine wp rfl (qm rfl (qf EQ rfl (ql GZ rfl (AO Dx rfl (AV rfl (Ac ?_))))))
         refine Bc h (fun h => ?_) fun h => ?_
         ·refine Am (AQ (AM (wq rfl (qf EQ rfl (ql GZ rfl (qm rfl ?_))))))
          refine BK h fun v25 a25 b25 h => qi Dx H5 a25 (Ai b25) rfl (qk Lq rfl (qm rfl ?_))
          refine BK h fun v26 a26 b26 h => qi Ew Ms a26 (Ai b26) rfl (qk TG rfl (CP rfl (Ac ?_)))
          refine Bc h (fun h => ?_) fun h => ?_
          ·refine wq rfl (qe rfl ?_)
           obtain rfl := sj h
           refine Ah (sm [] [(4, iD 1)] [] rfl rfl) (Ar ?_)
           exact ⟨⟨[_], tm, rfl⟩, tv⟩
          ·refine Am (Aj Ay rfl (qm rfl (AZ rfl (qe rfl ?_))))
           exact sn [] h
         ·refine AT ?_
          exact sn [] h
        ·refine Ah hs (wq rfl (qe rfl ?_))
         obtain rfl := sj h
         refine Ah (sm [] [(4, iD 0)] [] rfl rfl) (Ar ?_)
         exact ⟨⟨[_], tm, rfl⟩, tv⟩
theorem FK (N : Nat) (p0 : Ab) (r : Int) (h : Ca N p0 = some r) : Au Tryz.prog 31 [.e (.agg (Ag p0))] [] (iD r) := by
 unfold Ca at h
 refine cw (n := 102) (rs := [.tmp 2]) Tryz.func31 fun w0 S0 => ?_
 refine wq rfl (qb rfl (qa rfl (Ac (AQ ?_))))
 refine AS h (fun v1 => mk [(1, oD (.ptr 1 0)), (16, bD v1)] [(1, .box (Ag p0))]) (fun j1 h => ?_) (fun v1 h => ?_)
 ·refine Aj Ay rfl (qf Bs rfl (ql A7 rfl (AO AC rfl (Gf rfl (qm rfl ?_)))))
  refine EO 11 h rfl (fun h => ?_) fun h => ?_
  ·refine qw 4 rfl (qp rfl (Ac ?_))
   exact sn [] h
  ·refine qf Bw rfl (ql F0 rfl (AO CK rfl (Gf rfl (qp rfl (Ac ?_)))))
   exact sn [] h
 ·refine Bc h (fun h => ?_) fun h => ?_
  ·refine wq rfl (qe rfl ?_)
   obtain rfl := sj h
   refine Ah (sm [] [(2, iD 3)] [] rfl rfl) (Ar ?_)
   exact ⟨⟨[_], tm, rfl⟩, tv⟩
  ·refine Am (AQ ?_)
   refine AS h (fun v4 => mk [(1, oD (.ptr 1 0)), (32, bD v4)] [(1, .box (Ag p0))]) (fun j4 h => ?_) (fun v4 h => ?_)
   ·refine Aj Ay rfl (qf GV rfl (ql A7 rfl (AO AC rfl (qf Bs rfl (ql A7 rfl (AO AC rfl (BS rfl (qm rfl ?_))))))))
    refine EO 24 h rfl (fun h => ?_) fun h => ?_
    ·refine qw 7 rfl (qp rfl (Ac ?_))
     exact sn [] h
    ·refine qf If rfl (ql A7 rfl (AO AC rfl (qf Bs rfl (ql A7 rfl (AO AC rfl (BS rfl (qp rfl (Ac ?_))))))))
     exact sn [] h
   ·refine Bc h (fun h => ?_) fun h => ?_
    ·refine wq rfl (qe rfl ?_)
     obtain rfl := sj h
     refine Ah (sm [] [(2, iD 6)] [] rfl rfl) (Ar ?_)
     exact ⟨⟨[_], tm, rfl⟩, tv⟩
    ·refine Am (wp rfl (qe rfl ?_))
     refine AH (L := Bp N p0) h (fun v7 => mk [(1, oD (.ptr 1 0)), (3, iD v7)] [(1, .box (Ag p0))]) (fun v8 => mk [(1, oD (.ptr 1 0))] [(1, .box (Ag p0))]) (fun _ _ => rfl) (sm [] _ _ rfl rfl) (fun j7 n7 v7 h => ?_) (fun v8 s h hs => ?_)
     ·unfold Bp at h
      refine wp rfl (qm rfl (qf Bs rfl (ql A7 rfl (AO AC rfl (AV rfl (Ac ?_))))))
      refine Bc h (fun h => ?_) fun h => ?_
      ·refine Am (AQ (AM (wq rfl (qf Bs rfl (ql A7 rfl (qm rfl ?_))))))
       refine BK h fun v10 a10 b10 h => qi AC DH a10 (Ai b10) rfl (qk Cn rfl (qe rfl ?_))
       refine AS h (fun v11 => mk [(1, oD (.ptr 1 0)), (3, iD v7), (84, bD v11)] [(1, .box (Ag p0))]) (fun j11 h => ?_) (fun v11 h => ?_)
       ·refine Aj Ay rfl (qm rfl (AV rfl (qm rfl ?_)))
        refine EO 47 h rfl (fun h => ?_) fun h => ?_
        ·refine qw 2 rfl (qp rfl (qw 7 rfl (qp rfl (qw 8 rfl (qp rfl (qw 7 rfl (qp rfl (qw 8 rfl (qp rfl (Ac ?_))))))))))
         exact sn [] h
        ·refine qm rfl (Gf rfl (qp rfl (qm rfl ?_)))
         refine EO 51 h rfl (fun h => ?_) fun h => ?_
         ·refine qw 6 rfl (qp rfl (qw 8 rfl (qp rfl (qw 7 rfl (qp rfl (qw 8 rfl (qp rfl (Ac ?_))))))))
          exact sn [] h
         ·refine qf GV rfl (ql A7 rfl (qm rfl ?_))
          refine BK h fun v14 a14 b14 h => qi AC DH a14 (Ai b14) rfl (qk Cn rfl (AV rfl (qp rfl (qm rfl ?_))))
          refine EO 59 h rfl (fun h => ?_) fun h => ?_
          ·refine qw 7 rfl (qp rfl (qw 7 rfl (qp rfl (qw 8 rfl (qp rfl (Ac ?_))))))
           exact sn [] h
          ·refine qf GV rfl (ql A7 rfl (qm rfl ?_))
           refine BK h fun v16 a16 b16 h => qi AC DH a16 (Ai b16) rfl (qk Cn rfl (qm rfl (FM rfl (qp rfl (qm rfl ?_)))))
           refine EO 68 h rfl (fun h => ?_) fun h => ?_
           ·refine qw 6 rfl (qp rfl (qw 8 rfl (qp rfl (Ac ?_))))
            exact sn [] h
           ·refine qf If rfl (ql A7 rfl (qm rfl ?_))
            refine BK h fun v18 a18 b18 h => qi AC DH a18 (Ai b18) rfl (qk Cn rfl (AV rfl (qp rfl (qm rfl ?_))))
            refine EO 76 h rfl (fun h => ?_) fun h => ?_
            ·refine qw 7 rfl (qp rfl (Ac ?_))
             exact sn [] h
            ·refine qf If rfl (ql A7 rfl (qm rfl ?_))
             refine BK h fun v20 a20 b20 h => qi AC DH a20 (Ai b20) rfl (qk Cn rfl (qm rfl (FM rfl (qp rfl (Ac ?_)))))
             exact sn [] h
       ·refine Bc h (fun h => ?_) fun h => ?_
        ·refine wq rfl (qe rfl ?_)
         obtain rfl := sj h
         refine Ah (sm [] [(2, iD 7)] [] rfl rfl) (Ar ?_)
         exact ⟨⟨[_], tm, rfl⟩, tv⟩
        ·refine Am (Aj Ay rfl (qm rfl (AZ rfl (qe rfl ?_))))
         exact sn [] h
      ·refine AT ?_
       exact sn [] h
     ·refine Ah hs (wp rfl (qe rfl ?_))
      refine AH (L := Be N p0) h (fun v22 => mk [(1, oD (.ptr 1 0)), (5, iD v22)] [(1, .box (Ag p0))]) (fun v23 => mk [] []) (fun _ _ => rfl) (sm [] _ _ rfl rfl) (fun j22 n22 v22 h => ?_) (fun v23 s h hs => ?_)
      ·unfold Be at h
       refine wp rfl (qm rfl (qf Bw rfl (ql F0 rfl (AO CK rfl (AV rfl (Ac ?_))))))
       refine Bc h (fun h => ?_) fun h => ?_
       ·refine Am (AQ (AM (wq rfl (qL Cu BF rfl (qf Bw rfl (ql F0 rfl (qm rfl ?_)))))))
        refine BK h fun v25 a25 b25 h => qi CK C1 a25 (Ai b25) rfl (qK G6 C1 rfl ?_)
        refine B7 h fun v26 a26 h => AA [] (Mg N p0 v25 v26 a26) eG rfl (qa rfl (AP (by kernel_rfl) (wq rfl (qm rfl (BS rfl (Ac ?_))))))
        refine Bc h (fun h => ?_) fun h => ?_
        ·refine wq rfl (qm rfl (qe rfl ?_))
         obtain rfl := sj h
         refine Ah (sm [] [(2, iD v26)] [] rfl rfl) (Ar ?_)
         exact ⟨⟨[_], tm, rfl⟩, tv⟩
        ·refine Am (Aj Ay rfl (qm rfl (AZ rfl (qe rfl ?_))))
         exact sn [] h
       ·refine AT ?_
        exact sn [] h
      ·refine Ah hs (wq rfl (qe rfl ?_))
       obtain rfl := sj h
       refine Ah (sm [] [(2, iD 0)] [] rfl rfl) (Ar ?_)
       exact ⟨⟨[_], tm, rfl⟩, tv⟩
theorem I6 (N : Nat) (p0 : Ab) (r : Ae × Int) (h : Er N p0 = some r) : Au Tryz.prog 78 [.e (.agg (Ag p0))] [(1, r.1.fH.map Aq), (1, r.1.fE.map Aq), (1, r.1.fI.map Eh)] (.tup [.agg [.own 0, .own 1, .own 2], .one (iC r.2)]) := by
 unfold Er at h
 refine cw (n := 68) (rs := [.cell 2 64, .tmp 3]) Tryz.func78 fun w0 S0 => ?_
 refine wq rfl (qb rfl (qz E0 rfl (qa rfl (Ac (wp rfl (qL Cu BF rfl ?_))))))
 refine B7 h fun v1 a1 h => AA [] (FK N p0 v1 a1) ce rfl (qa rfl (Ac (wq rfl (qm rfl (BS rfl (Ac ?_))))))
 refine Bc h (fun h => ?_) fun h => ?_
 ·refine wq rfl (Bd E0 Jo rfl (qm rfl (qs A1 rfl (qe rfl ?_))))
  obtain rfl := sj h
  refine Ah ((Av 2 0 2001 1 _ rfl rfl rfl rfl).trans ((Av 2 1 2002 1 _ rfl rfl rfl rfl).trans ((Av 2 2 2003 1 _ rfl rfl rfl rfl).trans (sm [(1000, 2001), (1001, 2002), (1002, 2003)] [(2, oD (.ptr 2 0)), (3, iD v1)] [(2, .box [.own 1000, .own 1001, .own 1002]), (1000, .vec 1 ((([] : List Int)).map Aq)), (1001, .vec 1 ((([] : List Int)).map Aq)), (1002, .vec 1 ((([] : List Int)).map Eh))] rfl rfl)))) (Ar ?_)
  exact ⟨⟨[_, _], ⟨.cellN _ _ _ _ _ _ _ rfl rfl B4 A1 rfl rfl (Jw rfl), tm⟩, rfl⟩, ⟨rfl, rfl, rfl, tv⟩⟩
 ·refine Am (wq rfl (qz E0 rfl (Ac (wp rfl (qe rfl ?_)))))
  refine AH (L := Cp N p0) h (fun v3 => mk [(1, oD (.ptr 1 0)), (2, oD (.ptr 2 0)), (5, oD (.ptr 5 0)), (6, iD v3.2.2)] [(1, .box (Ag p0)), (2, .box [.pure (.nil0), .pure (.nil0), .pure (.nil0)]), (5, .box [.own 2004, .own 2005, .pure (.nil0)]), (2004, .vec 1 (v3.1.map Aq)), (2005, .vec 1 (v3.2.1.map Aq))]) (fun v4 => mk [(1, oD (.ptr 1 0)), (2, oD (.ptr 2 0)), (5, oD (.ptr 5 0))] [(1, .box (Ag p0)), (2, .box [.pure (.nil0), .pure (.nil0), .pure (.nil0)]), (5, .box [.own 2006, .own 2007, .pure (.nil0)]), (2006, .vec 1 (v4.1.map Aq)), (2007, .vec 1 (v4.2.map Aq))]) (fun _ _ => rfl) ((Av 5 0 2008 1 _ rfl rfl rfl rfl).trans ((Av 5 1 2009 1 _ rfl rfl rfl rfl).trans (sm [(2004, 2008), (2005, 2009)] _ _ rfl rfl))) (fun j3 n3 v3 h => ?_) (fun v4 s h hs => ?_)
  ·unfold Cp at h
   refine wp rfl (qm rfl (qf Bs rfl (ql A7 rfl (AO AC rfl (AV rfl (Ac ?_))))))
   refine Bc h (fun h => ?_) fun h => ?_
   ·refine Am (AQ (AM (wq rfl (qf De rfl (ql A7 rfl (qf GV rfl (ql A7 rfl (qm rfl ?_))))))))
    refine BK h fun v6 a6 b6 h => qi AC DH a6 (Ai b6) rfl (qk Cn rfl (Eg AC DH KV rfl ?_))
    refine FO h fun c7 h => DI (f := Aq) AC AC DH LS KV c7 rfl (qf De rfl (qs WL rfl (AP (by kernel_rfl) (Aj Ay rfl (qf BL rfl (ql A7 rfl (Eg AC DH KV rfl ?_)))))))
    refine FO h fun c8 h => DI (f := Aq) AC AC DH LS KV c8 rfl (qf BL rfl (qs WL rfl (Ac (Aj Ay rfl (qm rfl (AZ rfl (qe rfl ?_)))))))
    exact sn [(2004, 30), (2005, 35)] h
   ·refine AT ?_
    exact sn [(2006, 2004), (2007, 2005)] h
  ·refine Ah hs (wp rfl (qe rfl ?_))
   refine AH (L := Bn N p0) h (fun v9 => mk [(1, oD (.ptr 1 0)), (2, oD (.ptr 2 0)), (5, oD (.ptr 5 0)), (7, iD v9.2)] [(1, .box (Ag p0)), (2, .box [.pure (.nil0), .pure (.nil0), .pure (.nil0)]), (5, .box [.own 2010, .own 2011, .own 2012]), (2010, .vec 1 (v4.1.map Aq)), (2011, .vec 1 (v4.2.map Aq)), (2012, .vec 1 (v9.1.map Eh))]) (fun v10 => mk [(2, oD (.ptr 2 0)), (5, oD (.ptr 5 0))] [(2, .box [.pure (.nil0), .pure (.nil0), .pure (.nil0)]), (5, .box [.own 2013, .own 2014, .own 2015]), (2013, .vec 1 (v4.1.map Aq)), (2014, .vec 1 (v4.2.map Aq)), (2015, .vec 1 (v10.map Eh))]) (fun _ _ => rfl) ((Av 5 2 2019 1 _ rfl rfl rfl rfl).trans (sm [(2010, 2006), (2011, 2007), (2012, 2019)] _ _ rfl rfl)) (fun j9 n9 v9 h => ?_) (fun v10 s h hs => ?_)
   ·unfold Bn at h
    refine wp rfl (qm rfl (qf Bw rfl (ql F0 rfl (AO CK rfl (AV rfl (Ac ?_))))))
    refine Bc h (fun h => ?_) fun h => ?_
    ·refine Am (AQ (AM (wq rfl (qe rfl ?_))))
     refine AS h (fun v12 => mk [(1, oD (.ptr 1 0)), (2, oD (.ptr 2 0)), (5, oD (.ptr 5 0)), (7, iD v9.2), (8, pD (.val (.int .u8 v12)))] [(1, .box (Ag p0)), (2, .box [.pure (.nil0), .pure (.nil0), .pure (.nil0)]), (5, .box [.own 2016, .own 2017, .own 2018]), (2016, .vec 1 (v4.1.map Aq)), (2017, .vec 1 (v4.2.map Aq)), (2018, .vec 1 (v9.1.map Eh))]) (fun j12 h => ?_) (fun v12 h => ?_)
     ·refine wq rfl (qf Bw rfl (ql F0 rfl (qm rfl ?_)))
      refine BK h fun v13 a13 b13 h => qi CK C1 a13 (Ai b13) rfl (qK G6 C1 rfl ?_)
      refine B7 h fun v14 a14 h => AA [] (CE N v13 v14 a14) Sy rfl (Ac ?_)
      refine Bc h (fun h => ?_) fun h => ?_
      ·refine Aj Ay rfl (qf GV rfl (ql A7 rfl (qf Bw rfl (ql F0 rfl (qm rfl ?_)))))
       refine BK h fun v16 a16 b16 h => qi CK C1 a16 (Ai b16) rfl (qg DN rfl (qk Cn rfl ?_))
       refine BK h fun v17 a17 b17 h => qi AC DH a17 (Ai b17) rfl (qk Cn rfl ?_)
       refine FO h fun c18 h => Kh rfl c18 (qa rfl (AP (by kernel_rfl) ?_))
       exact sn [(2016, 2010), (2017, 2011), (2018, 2012)] h
      ·refine Am ?_
       exact sn [(2016, 2010), (2017, 2011), (2018, 2012)] h
     ·refine Aj Ay rfl (qf Df rfl (ql H7 rfl (qm rfl (Eg Ej G1 R0 rfl ?_))))
      refine FO h fun c19 h => DI (f := Eh) Ej Ej G1 Tc R0 c19 rfl (qf Df rfl (qs fr rfl (Ac (Aj Ay rfl (qm rfl (AZ rfl (qe rfl ?_)))))))
      exact sn [(2010, 2016), (2011, 2017), (2012, 65)] h
    ·refine AT ?_
     exact sn [(2013, 2010), (2014, 2011), (2015, 2012)] h
   ·refine Ah hs (wq rfl (qL B4 A1 rfl (qs A1 rfl (qe rfl ?_))))
    obtain rfl := sj h
    refine Ah (sm [(1000, 2013), (1001, 2014), (1002, 2015)] [(2, oD (.ptr 2 0)), (3, iD 0)] [(2, .box [.own 1000, .own 1001, .own 1002]), (1000, .vec 1 (v4.1.map Aq)), (1001, .vec 1 (v4.2.map Aq)), (1002, .vec 1 (v10.map Eh))] rfl rfl) (Ar ?_)
    exact ⟨⟨[_, _], ⟨.cellN _ _ _ _ _ _ _ rfl rfl B4 A1 rfl rfl (Jw rfl), tm⟩, rfl⟩, ⟨rfl, rfl, rfl, tv⟩⟩
theorem LA (N : Nat) (p0 : Ae) (r : Ae) (h : EW N p0 = some r) : Au Tryz.prog 144 [.e (.agg (AK p0))] [(1, r.fH.map Aq), (1, r.fE.map Aq), (1, r.fI.map Eh)] (.e (.agg [.own 0, .own 1, .own 2])) := by
 unfold EW at h
 refine cw (n := 16) (rs := [.cell 2 64]) Tryz.func144 fun w0 S0 => ?_
 refine wq rfl (qb rfl (qz E0 rfl (Ac (wq rfl (Eg AC DH KV rfl (qf De rfl (ql A7 rfl ?_)))))))
 refine FO h fun c1 h => GE (f := Aq) AC AC DH LS KV (fun _ => rfl) c1 rfl (Eg AC DH KV rfl (qf BL rfl (ql A7 rfl ?_)))
 refine FO h fun c2 h => GE (f := Aq) AC AC DH LS KV (fun _ => rfl) c2 rfl (Eg Ej G1 R0 rfl (qf Df rfl (ql H7 rfl ?_)))
 refine FO h fun c3 h => GE (f := Eh) Ej Ej G1 Tc R0 (fun _ => rfl) c3 rfl (Bd E0 Jo rfl (qs A1 rfl (AP (by kernel_rfl) ?_)))
 obtain rfl := sj h
 refine Ah (sm [(1000, 6), (1001, 10), (1002, 14)] [(2, oD (.ptr 2 0))] [(2, .box [.own 1000, .own 1001, .own 1002]), (1000, .vec 1 (((([] : List Int)) ++ p0.fH).map Aq)), (1001, .vec 1 (((([] : List Int)) ++ p0.fE).map Aq)), (1002, .vec 1 (((([] : List Int)) ++ p0.fI).map Eh))] rfl rfl) (Ar ?_)
 exact ⟨⟨[_], ⟨.cellN _ _ _ _ _ _ _ rfl rfl B4 A1 rfl rfl (Jw rfl), tv⟩, rfl⟩, ⟨rfl, rfl, rfl, tv⟩⟩
theorem Nu (N : Nat) (p0 : Ae) (r : (List Ae)) (h : E2 N p0 = some r) : Au Tryz.prog 117 [.e (.agg (AK p0))] [(3, r.map Fo)] (oD (.own 0)) := by
 unfold E2 at h
 refine cw (n := 62) (rs := [.tmp 2]) Tryz.func117 fun w0 S0 => ?_
 refine wq rfl (qb rfl (qa rfl (Ac (wq rfl (qa rfl (Ac (wp rfl (qe rfl ?_))))))))
 refine AH (L := CT N p0) h (fun v1 => mk [(1, oD (.ptr 1 0)), (3, iD v1.1), (4, iD v1.2)] [(1, .box (AK p0))]) (fun v2 => mk [(1, oD (.ptr 1 0)), (3, iD v2)] [(1, .box (AK p0))]) (fun _ _ => rfl) (sm [] _ _ rfl rfl) (fun j1 n1 v1 h => ?_) (fun v2 s h hs => ?_)
 ·unfold CT at h
  refine wp rfl (qm rfl (qf BL rfl (ql A7 rfl (AO AC rfl (AV rfl (Ac ?_))))))
  refine Bc h (fun h => ?_) fun h => ?_
  ·refine Am ?_
   refine AS h (fun v4 => mk [(1, oD (.ptr 1 0)), (3, iD v4), (4, iD v1.2)] [(1, .box (AK p0))]) (fun j4 h => ?_) (fun v4 h => ?_)
   ·refine AM (wq rfl (qf BL rfl (ql A7 rfl (qm rfl ?_))))
    refine BK h fun v5 a5 b5 h => qi AC DH a5 (Ai b5) rfl (qk Cn rfl (FM rfl (Ac ?_)))
    refine Bc h (fun h => ?_) fun h => ?_
    ·refine Aj Ay rfl (qm rfl (AZ rfl (qe rfl ?_)))
     exact sn [] h
    ·refine Am ?_
     exact sn [] h
   ·refine Aj Ay rfl (qm rfl (AZ rfl (qe rfl ?_)))
    exact sn [] h
  ·refine AT ?_
   exact sn [] h
 ·refine Ah hs (wq rfl (qa rfl (Ac (wp rfl (qe rfl ?_)))))
  refine AH (L := BE N p0 v2) h (fun v7 => mk [(1, oD (.ptr 1 0)), (3, iD v2), (5, oD (.own 2001)), (6, iD v7.2)] [(1, .box (AK p0)), (2001, .vec 3 (v7.1.map Fo))]) (fun v8 => mk [(5, oD (.own 2002))] [(2002, .vec 3 (v8.map Fo))]) (fun _ _ => rfl) ((AY 5 2022 3 rfl rfl rfl).trans (sm [(2001, 2022)] _ _ rfl rfl)) (fun j7 n7 v7 h => ?_) (fun v8 s h hs => ?_)
  ·unfold BE at h
   refine wp rfl (qw 2 rfl ?_)
   refine FO h fun c9 h => Kh rfl c9 (AV rfl (Ac ?_))
   refine Bc h (fun h => ?_) fun h => ?_
   ·refine Am (AQ (AM (wq rfl (qL B4 A1 rfl ?_))))
    refine B7 h fun v11 a11 h => AA [2003, 2004, 2005] (LA N p0 v11 a11) dN rfl (qz E0 rfl (qs A1 rfl (Ac (wq rfl (qa rfl (Ac (wp rfl (qe rfl ?_))))))))
    refine AH (L := B9 N p0 v7) h (fun v12 => mk [(1, oD (.ptr 1 0)), (3, iD v2), (5, oD (.own 2009)), (6, iD v7.2), (7, oD (.ptr 7 0)), (8, iD v12.2.1), (9, iD v12.2.2)] [(1, .box (AK p0)), (7, .box [.own 2006, .own 2007, .own 2008]), (2006, .vec 1 (v11.fH.map Aq)), (2007, .vec 1 (v12.1.map Aq)), (2008, .vec 1 (v11.fI.map Eh)), (2009, .vec 3 (v7.1.map Fo))]) (fun v13 => mk [(1, oD (.ptr 1 0)), (3, iD v2), (5, oD (.own 2013)), (6, iD v7.2), (7, oD (.ptr 7 0))] [(1, .box (AK p0)), (7, .box [.own 2010, .own 2011, .own 2012]), (2010, .vec 1 (v11.fH.map Aq)), (2011, .vec 1 (v13.map Aq)), (2012, .vec 1 (v11.fI.map Eh)), (2013, .vec 3 (v7.1.map Fo))]) (fun _ _ => rfl) (sm [(2006, 2003), (2007, 2004), (2008, 2005), (2009, 2001)] _ _ rfl rfl) (fun j12 n12 v12 h => ?_) (fun v13 s h hs => ?_)
    ·unfold B9 at h
     refine wp rfl (qm rfl (qf BL rfl (ql A7 rfl (AO AC rfl (AV rfl (Ac ?_))))))
     refine Bc h (fun h => ?_) fun h => ?_
     ·refine Am ?_
      refine AS h (fun v15 => mk [(1, oD (.ptr 1 0)), (3, iD v2), (5, oD (.own 2017)), (6, iD v7.2), (7, oD (.ptr 7 0)), (8, iD v15.2), (9, iD v12.2.2)] [(1, .box (AK p0)), (7, .box [.own 2014, .own 2015, .own 2016]), (2014, .vec 1 (v11.fH.map Aq)), (2015, .vec 1 (v15.1.map Aq)), (2016, .vec 1 (v11.fI.map Eh)), (2017, .vec 3 (v7.1.map Fo))]) (fun j15 h => ?_) (fun v15 h => ?_)
      ·refine AM (wp rfl (qf BL rfl (ql A7 rfl (qm rfl ?_))))
       refine BK h fun v16 a16 b16 h => qi AC DH a16 (Ai b16) rfl (qk Cn rfl (AV rfl (Ac ?_)))
       refine Bc h (fun h => ?_) fun h => ?_
       ·refine AT ?_
        exact sn [(2014, 2006), (2015, 2007), (2016, 2008), (2017, 2009)] h
       ·refine Am ?_
        refine AS h (fun v18 => mk [(1, oD (.ptr 1 0)), (3, iD v2), (5, oD (.own 2021)), (6, iD v7.2), (7, oD (.ptr 7 0)), (8, iD v12.2.1), (9, iD v12.2.2)] [(1, .box (AK p0)), (7, .box [.own 2018, .own 2019, .own 2020]), (2018, .vec 1 (v11.fH.map Aq)), (2019, .vec 1 (v18.map Aq)), (2020, .vec 1 (v11.fI.map Eh)), (2021, .vec 3 (v7.1.map Fo))]) (fun j18 h => ?_) (fun v18 h => ?_)
        ·refine wq rfl (qw 2 rfl ?_)
         refine FO h fun c19 h => KH rfl c19 (NG rfl (by decide) (B6 rfl (Ac ?_)))
         refine Bc h (fun h => ?_) fun h => ?_
         ·refine Aj Ay rfl (qf BL rfl (ql A7 rfl (qm rfl ?_)))
          refine BK h fun v21 a21 b21 h => qI AC DH a21 (Ai b21) rfl ?_
          refine D4 rfl rfl rfl rfl (Ai b21) rfl DH rfl (Hn rfl) (C8 Aq v12.1 _ ((-1))) ?_
          refine Ac ?_
          exact sn [(2018, 2006), (2019, 2007), (2020, 2008), (2021, 2009)] h
         ·refine Am ?_
          exact sn [(2018, 2006), (2019, 2007), (2020, 2008), (2021, 2009)] h
        ·refine Aj Ay rfl (qm rfl (AZ rfl (qe rfl ?_)))
         exact sn [(2014, 2018), (2015, 2019), (2016, 2020), (2017, 2021)] h
      ·refine Aj Ay rfl (qm rfl (AZ rfl (qe rfl ?_)))
       exact sn [(2006, 2014), (2007, 2015), (2008, 2016), (2009, 2017)] h
     ·refine AT ?_
      exact sn [(2010, 2006), (2011, 2007), (2012, 2008), (2013, 2009)] h
    ·refine Ah hs (Aj Ay rfl (qm rfl (qL B4 A1 rfl (Ev (BC 2010 _ _ rfl rfl) (Ev (BC 2011 _ _ rfl rfl) (Ev (BC 2012 _ _ rfl rfl) (Eg Kx A1 E0 rfl ?_)))))))
     refine FO h fun c22 h => DI (f := Fo) Kx Kx A1 ag E0 c22 rfl (qa rfl (Ac (Aj Ay rfl (qm rfl (AZ rfl (qe rfl ?_))))))
     exact sn [(2001, 60)] h
   ·refine AT ?_
    exact sn [(2002, 2001)] h
  ·refine Ah hs (wq rfl (qm rfl (qe rfl ?_)))
   obtain rfl := sj h
   refine Ah (sm [(1000, 2002)] [(2, oD (.own 1000))] [(1000, .vec 3 (v8.map Fo))] rfl rfl) (Ar ?_)
   exact ⟨⟨[_], tm, rfl⟩, ⟨rfl, tv⟩⟩
theorem EU (N : Nat) (p0 : Ae) (p1 : Int) (r : Int) (h : Cb N p0 p1 = some r) : Au Tryz.prog 142 [.e (.agg (AK p0)), iD p1] [] (pD (.val (.int .u8 r))) := by
 unfold Cb at h
 refine cw (n := 27) (rs := [.tmp 4]) Tryz.func142 fun w0 S0 => ?_
 refine wq rfl (qb rfl (qa rfl (Ac (wq rfl (qf De rfl (ql A7 rfl (qm rfl ?_)))))))
 refine BK h fun v1 a1 b1 h => qi AC DH a1 (Ai b1) rfl (qk Cn rfl ?_)
 refine FO h fun c2 h => Kh rfl c2 (qe rfl ?_)
 refine AS h (fun v3 => mk [(5, pD (.val (.int .u8 v3)))] []) (fun j3 h => ?_) (fun v3 h => ?_)
 ·refine wq rfl (qf BL rfl (ql A7 rfl (qm rfl ?_)))
  refine BK h fun v4 a4 b4 h => qi AC DH a4 (Ai b4) rfl (qk Cn rfl (FM rfl (Ac ?_)))
  refine Bc h (fun h => ?_) fun h => ?_
  ·refine Aj Ay rfl (qm rfl (qf BL rfl (ql A7 rfl (qm rfl ?_))))
   refine BK h fun v6 a6 b6 h => qi AC DH a6 (Ai b6) rfl (qk Cn rfl ?_)
   refine FO h fun c7 h => Kh rfl c7 (Xw rfl (qe rfl ?_))
   exact sn [] h
  ·refine Am ?_
   exact sn [] h
 ·refine wq rfl (qm rfl (qe rfl ?_))
  obtain rfl := sj h
  refine Ah (sm [] [(4, pD (.val (.int .u8 v3)))] [] rfl rfl) (Ar ?_)
  exact ⟨⟨[_], tm, rfl⟩, tv⟩
theorem GY (N : Nat) (p0 : Int) (p1 : Int) (r : Bool) (h : CN N p0 p1 = some r) : Au Tryz.prog 143 [pD (.val (.int .u8 p0)), iD p1] [] (bD r) := by
 unfold CN at h
 refine cw (n := 10) (rs := [.tmp 4]) Tryz.func143 fun w0 S0 => ?_
 refine wq rfl (qa rfl (Ac (wq rfl (qw 2 rfl ?_))))
 refine FO h fun c1 h => KH rfl c1 (OL rfl (B6 rfl (qe rfl ?_)))
 obtain rfl := sj h
 refine Ah (sm [] [(4, bD (((Hk .u8 ((Gv .u8 p0 p1)) 1) == 1)))] [] rfl rfl) (Ar ?_)
 exact ⟨⟨[_], tm, rfl⟩, tv⟩
theorem Mj (N : Nat) (p0 : Ab) (p1 : Ae) (r : (List Aa)) (h : Fi N p0 p1 = some r) : Au Tryz.prog 116 [.e (.agg (Ag p0)), .e (.agg (AK p1))] [(3, r.map Ad)] (oD (.own 0)) := by
 unfold Fi at h
 refine cw (n := 111) (rs := [.tmp 4]) Tryz.func116 fun w0 S0 => ?_
 refine wq rfl (qb rfl (qb rfl (qa rfl (Ac (wq rfl (qa rfl (Ac (wp rfl (qe rfl ?_)))))))))
 refine AH (L := CV N p0 p1) h (fun v1 => mk [(2, oD (.ptr 2 0)), (3, oD (.ptr 3 0)), (5, oD (.own 2001)), (6, iD v1.2)] [(2, .box (Ag p0)), (3, .box (AK p1)), (2001, .vec 3 (v1.1.map Ad))]) (fun v2 => mk [(5, oD (.own 2002))] [(2002, .vec 3 (v2.map Ad))]) (fun _ _ => rfl) ((AY 5 2013 3 rfl rfl rfl).trans (sm [(2001, 2013)] _ _ rfl rfl)) (fun j1 n1 v1 h => ?_) (fun v2 s h hs => ?_)
 ·unfold CV at h
  refine wp rfl (qm rfl (qf Bw rfl (ql F0 rfl (AO CK rfl (AV rfl (Ac ?_))))))
  refine Bc h (fun h => ?_) fun h => ?_
  ·refine Am (AQ (AM (wq rfl (qf Bw rfl (ql F0 rfl (qm rfl ?_))))))
   refine BK h fun v4 a4 b4 h => qi CK C1 a4 (Ai b4) rfl (qK G6 C1 rfl (qz Jf rfl (qs C1 rfl (Ac (wq rfl (qL B4 A1 rfl (qf DN rfl (ql Cn rfl ?_))))))))
   refine B7 h fun v5 a5 h => AA [] (EU N p1 v4.fK v5 a5) Ut rfl (qe rfl ?_)
   refine AS h (fun v6 => mk [(2, oD (.ptr 2 0)), (3, oD (.ptr 3 0)), (5, oD (.own 2003)), (6, iD v1.2), (7, oD (.ptr 7 0)), (8, pD (.val (.int .u8 v6)))] [(2, .box (Ag p0)), (3, .box (AK p1)), (7, .box (Bg v4)), (2003, .vec 3 (v1.1.map Ad))]) (fun j6 h => ?_) (fun v6 h => ?_)
   ·refine wq rfl (qL G6 C1 rfl ?_)
    refine B7 h fun v7 a7 h => AA [] (CE N v4 v7 a7) Sy rfl (Ac ?_)
    refine Bc h (fun h => ?_) fun h => ?_
    ·refine Aj Ay rfl (qf Df rfl (ql H7 rfl (qm rfl ?_)))
     refine BK h fun v9 a9 b9 h => qi Ej G1 a9 (Ai b9) rfl (qk LL rfl (qe rfl ?_))
     exact sn [(2003, 2001)] h
    ·refine Am ?_
     exact sn [(2003, 2001)] h
   ·refine wq rfl (qe rfl ?_)
    refine AH (L := BN N p0 p1 v1 v4 v6) h (fun v10 => mk [(2, oD (.ptr 2 0)), (3, oD (.ptr 3 0)), (5, oD (.own 2004)), (6, iD v1.2), (7, oD (.ptr 7 0)), (8, pD (.val (.int .u8 v6))), (9, iD v10.2)] [(2, .box (Ag p0)), (3, .box (AK p1)), (7, .box (Bg v4)), (2004, .vec 3 (v10.1.map Ad))]) (fun v11 => mk [(2, oD (.ptr 2 0)), (3, oD (.ptr 3 0)), (5, oD (.own 2005)), (6, iD v1.2)] [(2, .box (Ag p0)), (3, .box (AK p1)), (2005, .vec 3 (v11.map Ad))]) (fun _ _ => rfl) (sm [(2004, 2003)] _ _ rfl rfl) (fun j10 n10 v10 h => ?_) (fun v11 s h hs => ?_)
    ·unfold BN at h
     refine wp rfl (qm rfl (qf Bs rfl (ql A7 rfl (qf DN rfl (ql Cn rfl ?_)))))
     refine BK h fun v12 a12 b12 h => qi AC DH a12 (Ai b12) rfl (qk Cn rfl (AV rfl (Ac ?_)))
     refine Bc h (fun h => ?_) fun h => ?_
     ·refine Am ?_
      refine AS h (fun v14 => mk [(2, oD (.ptr 2 0)), (3, oD (.ptr 3 0)), (5, oD (.own 2006)), (6, iD v1.2), (7, oD (.ptr 7 0)), (8, pD (.val (.int .u8 v6))), (9, iD v10.2)] [(2, .box (Ag p0)), (3, .box (AK p1)), (7, .box (Bg v4)), (2006, .vec 3 (v14.map Ad))]) (fun j14 h => ?_) (fun v14 h => ?_)
      ·refine AM (wp rfl (qw 2 rfl ?_))
       refine B7 h fun v15 a15 h => AA [] (GY N v6 v10.2 v15 a15) V5 rfl (CP rfl (Ac ?_))
       refine Bc h (fun h => ?_) fun h => ?_
       ·refine AT ?_
        exact sn [(2006, 2004)] h
       ·refine Am (wq rfl (qa rfl (Ac (wp rfl (qe rfl ?_)))))
        refine AH (L := Bu N p0 p1 v1 v4 v10) h (fun v17 => mk [(2, oD (.ptr 2 0)), (3, oD (.ptr 3 0)), (5, oD (.own 2007)), (6, iD v1.2), (7, oD (.ptr 7 0)), (8, pD (.val (.int .u8 v6))), (9, iD v10.2), (10, bD v17.2.1), (11, iD v17.2.2)] [(2, .box (Ag p0)), (3, .box (AK p1)), (7, .box (Bg v4)), (2007, .vec 3 (v17.1.map Ad))]) (fun v18 => mk [(2, oD (.ptr 2 0)), (3, oD (.ptr 3 0)), (5, oD (.own 2008)), (6, iD v1.2), (7, oD (.ptr 7 0)), (8, pD (.val (.int .u8 v6))), (9, iD v10.2), (10, bD v18.2)] [(2, .box (Ag p0)), (3, .box (AK p1)), (7, .box (Bg v4)), (2008, .vec 3 (v18.1.map Ad))]) (fun _ _ => rfl) (sm [(2007, 2004)] _ _ rfl rfl) (fun j17 n17 v17 h => ?_) (fun v18 s h hs => ?_)
        ·unfold Bu at h
         refine wp rfl (qm rfl (qf Bs rfl (ql A7 rfl (qf Jh rfl (ql Cn rfl ?_)))))
         refine BK h fun v19 a19 b19 h => qi AC DH a19 (Ai b19) rfl (qk Cn rfl (AV rfl (Ac ?_)))
         refine Bc h (fun h => ?_) fun h => ?_
         ·refine Am ?_
          refine AS h (fun v21 => mk [(2, oD (.ptr 2 0)), (3, oD (.ptr 3 0)), (5, oD (.own 2009)), (6, iD v1.2), (7, oD (.ptr 7 0)), (8, pD (.val (.int .u8 v6))), (9, iD v10.2), (10, bD v21.2), (11, iD v17.2.2)] [(2, .box (Ag p0)), (3, .box (AK p1)), (7, .box (Bg v4)), (2009, .vec 3 (v21.1.map Ad))]) (fun j21 h => ?_) (fun v21 h => ?_)
          ·refine AM (wp rfl (qL B4 A1 rfl (qf Jh rfl (ql Cn rfl ?_))))
           refine B7 h fun v22 a22 h => AA [] (EU N p1 v4.fP v22 a22) Ut rfl (qm rfl ?_)
           refine B7 h fun v23 a23 h => AA [] (GY N v22 v17.2.2 v23 a23) V5 rfl (CP rfl (Ac ?_))
           refine Bc h (fun h => ?_) fun h => ?_
           ·refine AT ?_
            exact sn [(2009, 2007)] h
           ·refine Am ?_
            refine AS h (fun v25 => mk [(2, oD (.ptr 2 0)), (3, oD (.ptr 3 0)), (5, oD (.own 2010)), (6, iD v1.2), (7, oD (.ptr 7 0)), (8, pD (.val (.int .u8 v6))), (9, iD v10.2), (10, bD v25), (11, iD v17.2.2)] [(2, .box (Ag p0)), (3, .box (AK p1)), (7, .box (Bg v4)), (2010, .vec 3 (v17.1.map Ad))]) (fun j25 h => ?_) (fun v25 h => ?_)
            ·refine Aj Ay rfl (qw 2 rfl ?_)
             refine EO 67 h rfl (fun h => ?_) fun h => ?_
             ·refine qw 8 rfl (qp rfl (qe rfl ?_))
              exact sn [(2010, 2007)] h
             ·refine qf EP rfl (ql GZ rfl (qm rfl ?_))
              refine BK h fun v27 a27 b27 h => qi Dx H5 a27 (Ai b27) rfl (qk Lq rfl (qm rfl ?_))
              refine BK h fun v28 a28 b28 h => qi Ew Ms a28 (Ai b28) rfl (qk TG rfl (qp rfl (qe rfl ?_)))
              exact sn [(2010, 2007)] h
            ·refine AS h (fun v29 => mk [(2, oD (.ptr 2 0)), (3, oD (.ptr 3 0)), (5, oD (.own 2011)), (6, iD v1.2), (7, oD (.ptr 7 0)), (8, pD (.val (.int .u8 v6))), (9, iD v10.2), (10, bD v25), (11, iD v17.2.2), (90, bD v29)] [(2, .box (Ag p0)), (3, .box (AK p1)), (7, .box (Bg v4)), (2011, .vec 3 (v17.1.map Ad))]) (fun j29 h => ?_) (fun v29 h => ?_)
             ·refine Aj Ay rfl (qf Kd rfl (ql TG rfl (CP rfl (qm rfl ?_))))
              refine EO 80 h rfl (fun h => ?_) fun h => ?_
              ·refine qf EP rfl (ql GZ rfl (qm rfl ?_))
               refine BK h fun v31 a31 b31 h => qi Dx H5 a31 (Ai b31) rfl (qk Lq rfl (qm rfl ?_))
               refine BK h fun v32 a32 b32 h => qi Ew Ms a32 (Ai b32) rfl (qk TG rfl (CP rfl (qp rfl (Ac ?_))))
               exact sn [(2011, 2010)] h
              ·refine qw 9 rfl (qp rfl (Ac ?_))
               exact sn [(2011, 2010)] h
             ·refine Bc h (fun h => ?_) fun h => ?_
              ·refine Aj Ay rfl (qw 4 rfl (Bd GH QX rfl (Eg Bb CQ GH rfl ?_)))
               refine FO h fun c34 h => DI (f := Ad) Bb Bb CQ Lp GH c34 rfl (qe rfl ?_)
               exact sn [(2009, 97)] h
              ·refine Am ?_
               exact sn [(2009, 2011)] h
          ·refine Aj Ay rfl (qm rfl (AZ rfl (qe rfl ?_)))
           exact sn [(2007, 2009)] h
         ·refine AT ?_
          exact sn [(2008, 2007)] h
        ·refine Ah hs ?_
         refine AS h (fun v35 => mk [(2, oD (.ptr 2 0)), (3, oD (.ptr 3 0)), (5, oD (.own 2012)), (6, iD v1.2), (7, oD (.ptr 7 0)), (8, pD (.val (.int .u8 v6))), (9, iD v10.2), (103, bD v35)] [(2, .box (Ag p0)), (3, .box (AK p1)), (7, .box (Bg v4)), (2012, .vec 3 (v18.1.map Ad))]) (fun j35 h => ?_) (fun v35 h => ?_)
         ·refine Aj Ay rfl (qf Kd rfl (ql TG rfl (qm rfl ?_)))
          refine EO 100 h rfl (fun h => ?_) fun h => ?_
          ·refine qm rfl (CP rfl (qp rfl (Ac ?_)))
           exact sn [(2012, 2008)] h
          ·refine qw 2 rfl (qp rfl (Ac ?_))
           exact sn [(2012, 2008)] h
         ·refine Bc h (fun h => ?_) fun h => ?_
          ·refine Aj Ay rfl (qw 3 rfl (Bd GH QX rfl (Eg Bb CQ GH rfl ?_)))
           refine FO h fun c38 h => DI (f := Ad) Bb Bb CQ Lp GH c38 rfl (qe rfl ?_)
           exact sn [(2006, 109)] h
          ·refine Am ?_
           exact sn [(2006, 2012)] h
      ·refine Aj Ay rfl (qm rfl (AZ rfl (qe rfl ?_)))
       exact sn [(2004, 2006)] h
     ·refine AT ?_
      exact sn [(2005, 2004)] h
    ·refine Ah hs (Aj Ay rfl (qm rfl (AZ rfl (qe rfl ?_))))
     exact sn [(2001, 2005)] h
  ·refine AT ?_
   exact sn [(2002, 2001)] h
 ·refine Ah hs (wq rfl (qm rfl (qe rfl ?_)))
  obtain rfl := sj h
  refine Ah (sm [(1000, 2002)] [(4, oD (.own 1000))] [(1000, .vec 3 (v2.map Ad))] rfl rfl) (Ar ?_)
  exact ⟨⟨[_], tm, rfl⟩, ⟨rfl, tv⟩⟩
theorem Lz (N : Nat) (p0 : Ab) (p1 : Ae) (r : Bool) (h : EV N p0 p1 = some r) : Au Tryz.prog 118 [.e (.agg (Ag p0)), .e (.agg (AK p1))] [] (bD r) := by
 unfold EV at h
 refine cw (n := 10) (rs := [.tmp 4]) Tryz.func118 fun w0 S0 => ?_
 refine wq rfl (qb rfl (qb rfl (qa rfl (Ac (wq rfl (qL Cu BF rfl (qL B4 A1 rfl ?_)))))))
 refine B7 h fun v1 a1 h => AA [2001] (Mj N p0 p1 v1 a1) dm rfl (Dm Bb rfl (B6 rfl (qe rfl ?_)))
 obtain rfl := sj h
 refine Ah (sm [] [(4, bD (((v1.length : Int) == 0)))] [] rfl rfl) (Ar ?_)
 exact ⟨⟨[_], tm, rfl⟩, tv⟩
theorem GA (N : Nat) (p0 : Ab) (p1 : Ae) (r : Bool) (h : C0 N p0 p1 = some r) : Au Tryz.prog 84 [.e (.agg (Ag p0)), .e (.agg (AK p1))] [] (bD r) := by
 unfold C0 at h
 refine cw (n := 22) (rs := [.tmp 4]) Tryz.func84 fun w0 S0 => ?_
 refine wq rfl (qb rfl (qb rfl (qa rfl (Ac (wq rfl (qL B4 A1 rfl ?_))))))
 refine B7 h fun v1 a1 h => AA [2001] (Nu N p1 v1 a1) dy rfl (qa rfl (Ac (wp rfl (qe rfl ?_))))
 refine AH (L := Cl N p0 v1) h (fun v2 => mk [(2, oD (.ptr 2 0)), (5, oD (.own 2002)), (6, iD v2)] [(2, .box (Ag p0)), (2002, .vec 3 (v1.map Fo))]) (fun v3 => mk [] []) (fun _ _ => rfl) (sm [(2002, 2001)] _ _ rfl rfl) (fun j2 n2 v2 h => ?_) (fun v3 s h hs => ?_)
 ·unfold Cl at h
  refine wp rfl (qw 2 rfl (Dm Kx rfl (AV rfl (Ac ?_))))
  refine Bc h (fun h => ?_) fun h => ?_
  ·refine Am (AQ (AM (wq rfl (qL Cu BF rfl (qw 2 rfl ?_)))))
   refine BK h fun v5 a5 b5 h => qI Kx A1 a5 (Ai b5) rfl (qJ B4 A1 (Ai b5) rfl ?_)
   refine B7 h fun v6 a6 h => AA [] (Lz N p0 v5 v6 a6) dR rfl (CP rfl (AP (by kernel_rfl) ?_))
   refine Bc h (fun h => ?_) fun h => ?_
   ·refine wq rfl (qe rfl ?_)
    obtain rfl := sj h
    refine Ah (sm [] [(4, bD false)] [] rfl rfl) (Ar ?_)
    exact ⟨⟨[_], tm, rfl⟩, tv⟩
   ·refine Am (Aj Ay rfl (qm rfl (AZ rfl (qe rfl ?_))))
    exact sn [] h
  ·refine AT ?_
   exact sn [] h
 ·refine Ah hs (wq rfl (qe rfl ?_))
  obtain rfl := sj h
  refine Ah (sm [] [(4, bD true)] [] rfl rfl) (Ar ?_)
  exact ⟨⟨[_], tm, rfl⟩, tv⟩
end Go.Lift
