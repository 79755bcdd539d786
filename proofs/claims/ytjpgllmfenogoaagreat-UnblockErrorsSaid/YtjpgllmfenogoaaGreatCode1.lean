/- Lemmas for UnblockErrorsSaid, which YtjpgllmfenogoaaGreatFinU9 proves. -/
import Derived.Test.YtjpgllmfenogoaaGreatLift35
import Derived.Shelf.SlSortCmp.NoneTotal
import Derived.MakeChecks
import Derived.Shelf.Strconv.Itoa3
import Derived.Test.YtjpgllmfenogoaaGreatProg
import Derived.KernelRfl
namespace Go.Lift
open Go.RowKit
variable {P : Program} {X : F4} {ops : Array Oper}
theorem Lw {st : St} (b s ix k : Nat) {e e2 : Nat} {cols cols2 : List Ow} {rows rows2 : List (List T)} {row : List T} (hb : st.bx b = some (.dvec e cols rows)) (hrow : rows[ix]? = some row) (hc : row[k]? = some (.sl rows2)) (hcol : cols.getD k .s = .x e2 cols2) (hbl : AL b = false) (hsl : AL s = false) (hnew : st.bx s = none) :
  DK P X st ⟨st.env, AI st.bx [(b, .hol e cols ix k s rows), (s, Cu e2 cols2 rows2)]⟩ := by
 rintro a w ⟨G, hs⟩
 have hsb : s ≠ b := fun e => by rw [e, hb] at hnew; cases hnew
 obtain ⟨β, cap, arr, el, Rf, hβ, h1, h2, h3, h4, h5, h6, h7, h8, h9, h10⟩ := L9 (hs.blk b _ hb) hrow
 have hre := h5 ix row hrow
 have hk := An hc
 have hcell := h6 ix row k _ hrow hc
 rw [hcol] at hcell
 obtain ⟨l, m, g1, g2, g3⟩ := M4 (P := P) hcell
 let G' : Gh := { S := G.S, loc := fun c => if c = s then l else G.loc c, hd := fun c => if c = s then Ak arr (ix * e + k) else G.hd c, more := fun c => if c = s then m else if c = b then (fun γ => G.more b γ ∧ ¬ Rf ix k γ) else G.more c }
 have hsome : ∀ c, (st.bx c).isSome = true → c ≠ s := fun c hc e => by rw [e, hnew] at hc; cases hc
 have hbx : ∀ c, AI st.bx [(b, .hol e cols ix k s rows), (s, Cu e2 cols2 rows2)] c = if c = b then some (.hol e cols ix k s rows) else if c = s then some (Cu e2 cols2 rows2) else st.bx c := fun c => rfl
 have hasS : ∀ γ, G'.has s γ → Rf ix k γ := fun γ h => by
  unfold Gh.has at h
  simp only [G', if_true] at h
  exact g1 γ h
 have hasB : ∀ γ, G'.has b γ → G.has b γ ∧ ¬ Rf ix k γ := fun γ h => by
  unfold Gh.has at h
  simp only [G', if_neg hsb.symm, if_true] at h
  rcases h with h | h
  ·refine ⟨.inl h, fun hr => ?_⟩
   rw [hβ] at h; cases h
   exact h8 ix k hr
  ·exact ⟨.inr h.1, h.2⟩
 have hasO : ∀ c γ, c ≠ s → c ≠ b → (G'.has c γ ↔ G.has c γ) := fun c γ h1 h2 => by
  unfold Gh.has
  simp only [G', if_neg h1, if_neg h2]
 have hbl2 := hsl
 have key : BM P X G' ⟨st.env, AI st.bx [(b, .hol e cols ix k s rows), (s, Cu e2 cols2 rows2)]⟩ a w := by
  refine hs.frame2 ?_ (fun _ h => h) (fun c hc => by simp only [G']; rw [if_neg (hsome c hc)]) (fun c hc => by simp only [G']; rw [if_neg (hsome c hc)]) (fun _ _ => rfl) ?_ ?_ ?_ hs.S_lt hs.S_src hs.below (fun c hc => ?_)
  ·intro c hc; rw [hbx]; split
   ·rfl
   ·split
    ·rfl
    ·exact hc
  ·intro c kk hc
   rw [hbx] at hc
   split at hc
   ·rename_i e1; subst e1; cases hc
    refine .inr ⟨⟨β, cap, arr, el, fun i j γ => Rf i j γ ∧ ¬ (i = ix ∧ j = k), ?_, ?_, h2, h3, h4, h5, ?_, ?_, fun i j h => h8 i j h.1, fun i j i' j' γ h h' => h9 i j i' j' γ h.1 h'.1, ?_, ?_⟩, fun c' hc' => ?_⟩
    ·simp only [G', if_neg hsb.symm]; exact hβ
    ·simp only [G', if_neg hsb.symm]; exact h1
    ·intro i0 row0 j0 t0 hi hj hne
     exact (h6 i0 row0 j0 t0 hi hj).mono (fun _ _ => rfl) (fun _ h => h) (fun γ hγ => ⟨hγ, hne⟩)
    ·intro i0 j0 γ hγ
     simp only [G', if_neg hsb.symm, if_true]
     exact ⟨h7 i0 j0 γ hγ.1, fun hr => hγ.2 (h9 i0 j0 ix k γ hγ.1 hr)⟩
    ·simp only [G', if_true]
    ·simp only [G', if_true]; exact g2
    ·have : c' = s := by simpa [AU.names] using hc'
     subst this
     rw [hbx, if_neg hsb, if_pos rfl]; rfl
   ·rename_i e1
    split at hc
    ·rename_i e2'; subst e2'; cases hc
     exact .inr ⟨g3 G' c (fun _ h => h) (by simp [G']) (by simp [G']) (fun γ hγ => by simp [G', hγ]), fun c' hc' => by rw [JT] at hc'; cases hc'⟩
    ·rename_i e2'
     exact .inl ⟨hc, by simp only [G', if_neg e1, if_neg e2'], fun _ _ _ => rfl⟩
  ·intro c kk γ hc hr hγ
   rw [hbx] at hc
   split at hc
   ·rename_i e1; subst e1
    exact hs.at_ok c _ γ hb rfl (hasB γ hγ).1
   ·rename_i e1
    split at hc
    ·rename_i e2'; subst e2'
     have := hs.at_ok b _ γ hb rfl (.inr (h7 ix k γ (hasS γ hγ)))
     exact ⟨.new (this.1.1 hbl), this.2⟩
    ·rename_i e2'
     exact hs.at_ok c kk γ hc hr ((hasO c γ e2' e1).1 hγ)
  ·intro c c' kk kk' γ hc hc' hr hr' hγ hγ'
   rw [hbx] at hc hc'
   have cl : ∀ c kk, (if c = b then some (AU.hol e cols ix k s rows) else if c = s then some (Cu e2 cols2 rows2) else st.bx c) = some kk → kk.real = true → G'.has c γ → (c = b ∧ G.has b γ ∧ ¬ Rf ix k γ) ∨ (c = s ∧ Rf ix k γ) ∨ (c ≠ b ∧ st.bx c = some kk ∧ G.has c γ) := by
    intro c kk hc hr hγ
    split at hc
    ·rename_i e1; subst e1; exact .inl ⟨rfl, hasB γ hγ⟩
    ·rename_i e1
     split at hc
     ·rename_i e2'; subst e2'; exact .inr (.inl ⟨rfl, hasS γ hγ⟩)
     ·rename_i e2'; exact .inr (.inr ⟨e1, hc, (hasO c γ e2' e1).1 hγ⟩)
   rcases cl c kk hc hr hγ with ⟨q1, q2, q3⟩ | ⟨q1, q2⟩ | ⟨q1, q2, q3⟩ <;> rcases cl c' kk' hc' hr' hγ' with ⟨q1', q2', q3'⟩ | ⟨q1', q2'⟩ | ⟨q1', q2', q3'⟩
   ·rw [q1, q1']
   ·exact (q3 q2').elim
   ·exact (q1' (hs.at_inj c' b _ _ γ q2' hb hr' rfl q3' q2)).elim
   ·exact (q3' q2).elim
   ·rw [q1, q1']
   ·exact (q1' (hs.at_inj c' b _ _ γ q2' hb hr' rfl q3' (.inr (h7 ix k γ q2)))).elim
   ·exact (q1 (hs.at_inj c b _ _ γ q2 hb hr rfl q3 q2')).elim
   ·exact (q1 (hs.at_inj c b _ _ γ q2 hb hr rfl q3 (.inr (h7 ix k γ q2')))).elim
   ·exact hs.at_inj c c' kk kk' γ q2 q2' hr hr' q3 q3'
  ·have e1 : c ≠ s := fun e => by rw [e, hbl2] at hc; cases hc
   have e2' : c ≠ b := fun e => by rw [e, hbl] at hc; cases hc
   refine ⟨?_, ?_, ?_⟩ <;> simp only [G', if_neg e1, if_neg e2']
 exact ⟨G', key⟩
theorem LM {st : St} (b c : Nat) {e ix k e2 : Nat} {cols cols2 : List Ow} {rows rows2 rows' : List (List T)} {row : List T} (hb : st.bx b = some (.hol e cols ix k c rows)) (hc : st.bx c = some (Cu e2 cols2 rows2)) (hcol : cols.getD k .s = .x e2 cols2) (hrow : rows[ix]? = some row)
  (hbl : AL b = false) (hcl : AL c = false) (hr : rows.set ix (row.set k (.sl rows2)) = rows') : DK P X st ⟨st.env, AI st.bx [(b, .dvec e cols rows'), (c, .gone)]⟩ := by
 have hcb : c ≠ b := fun e' => by rw [e', hb] at hc; unfold Cu at hc; split at hc <;> cases hc
 subst hr
 rintro a w ⟨G, hs⟩
 obtain ⟨β, cap, arr, el, Rf, hβ, h1, h2, h3, h4, h5, h6, h7, h8, h9, h10, h11⟩ := hs.blk b _ hb
 have hX := Jc (hs.blk c _ hc)
 have hre := h5 ix row hrow
 let G' : Gh := { G with more := fun d => if d = b then (fun γ => G.more b γ ∨ G.has c γ) else G.more d }
 have hcβ : ∀ γ, G.has c γ → γ ≠ β := fun γ h e' => hcb (hs.at_inj c b _ _ γ hc hb By rfl h (.inl (e' ▸ hβ)))
 have hbx : ∀ d, AI st.bx [(b, .dvec e cols (rows.set ix (row.set k (.sl rows2)))), (c, .gone)] d = if d = b then some (.dvec e cols (rows.set ix (row.set k (.sl rows2)))) else if d = c then some .gone else st.bx d := fun d => rfl
 have hasO : ∀ d γ, d ≠ b → (G'.has d γ ↔ G.has d γ) := fun d γ h => by unfold Gh.has; simp only [G', if_neg h]
 have hasB : ∀ γ, G'.has b γ → G.has b γ ∨ G.has c γ := fun γ h => by
  unfold Gh.has at h
  simp only [G', if_true] at h
  rcases h with h | h | h
  ·exact .inl (.inl h)
  ·exact .inl (.inr h)
  ·exact .inr h
 refine ⟨G', ?_⟩
 refine hs.frame2 (fun d hd => ?_) (fun _ h => h) (fun _ _ => rfl) (fun _ _ => rfl) (fun _ _ => rfl) ?_ ?_ ?_ hs.S_lt hs.S_src hs.below (fun d hd => ?_)
 ·rw [hbx]; split
  ·rfl
  ·split
   ·rfl
   ·exact hd
 ·intro d kk hd
  rw [hbx] at hd
  split at hd
  ·rename_i e1; subst e1; cases hd
   refine .inr ⟨.inr ⟨β, cap, arr, el, fun i0 j0 γ => if i0 = ix ∧ j0 = k then G.has c γ else Rf i0 j0 γ, hβ, by rw [List.length_set]; exact h1, h2, by rw [List.length_set]; exact h3, h4, ?_, ?_, ?_, ?_, ?_⟩, fun c' hc' => by cases hc'⟩
   ·intro j0 row' hj
    rcases CM hj with ⟨_, rfl⟩ | ⟨_, hj⟩
    ·rw [List.length_set]; exact hre
    ·exact h5 j0 row' hj
   ·intro i0 row' j0 t0 hi hj
    have hj0 : j0 < e := by
     have := An hj
     rcases CM hi with ⟨_, rfl⟩ | ⟨_, hi⟩
     ·rw [List.length_set] at this; omega
     ·have := h5 i0 row' hi; omega
    by_cases hh : i0 = ix ∧ j0 = k
    ·obtain ⟨rfl, rfl⟩ := hh
     rw [hcol]
     have ht0 : t0 = .sl rows2 := by
      rcases CM hi with ⟨_, rfl⟩ | ⟨hne, _⟩
      ·rcases CM hj with ⟨_, rfl⟩ | ⟨hne, _⟩
       ·rfl
       ·exact (hne rfl).elim
      ·exact (hne rfl).elim
     subst ht0
     rw [h10]
     exact hX.mono (fun _ _ => rfl) (fun _ h => h) (fun γ hγ => by simp only [and_self, if_true]; exact hγ)
    ·have hold : ∃ row0, rows[i0]? = some row0 ∧ row0[j0]? = some t0 := by
      rcases CM hi with ⟨hii, rfl⟩ | ⟨_, hi⟩
      ·subst hii
       rcases CM hj with ⟨hjj, _⟩ | ⟨_, hj⟩
       ·exact (hh ⟨rfl, hjj⟩).elim
       ·exact ⟨row, hrow, hj⟩
      ·exact ⟨row', hi, hj⟩
     obtain ⟨row0, q1, q2⟩ := hold
     exact (h6 i0 row0 j0 t0 q1 q2 hh).mono (fun _ _ => rfl) (fun _ h => h) (fun γ hγ => by simp only [if_neg hh]; exact hγ)
   ·intro i0 j0 γ hγ
    simp only [G', if_true]
    split at hγ
    ·exact .inr hγ
    ·exact .inl (h7 i0 j0 γ hγ)
   ·intro i0 j0 hγ
    split at hγ
    ·exact hcβ β hγ rfl
    ·exact h8 i0 j0 hγ
   ·intro i0 j0 i1 j1 γ hγ hγ'
    have cross : ∀ i j, Rf i j γ → G.has c γ → False := fun i j hr hh => hcb (hs.at_inj c d _ _ γ hc hb By rfl hh (.inr (h7 i j γ hr)))
    split at hγ <;> split at hγ'
    ·rename_i q q'; exact ⟨q.1.trans q'.1.symm, q.2.trans q'.2.symm⟩
    ·exact (cross _ _ hγ' hγ).elim
    ·exact (cross _ _ hγ hγ').elim
    ·exact h9 i0 j0 i1 j1 γ hγ hγ'
  ·rename_i e1
   split at hd
   ·cases hd; exact .inr ⟨trivial, fun c' hc' => by cases hc'⟩
   ·rename_i e2'
    exact .inl ⟨hd, by simp only [G', if_neg e1], fun _ _ _ => rfl⟩
 ·intro d kk γ hd hr hγ
  rw [hbx] at hd
  split at hd
  ·rename_i e1; subst e1
   rcases hasB γ hγ with h | h
   ·exact hs.at_ok d _ γ hb rfl h
   ·have := hs.at_ok c _ γ hc By h
    exact ⟨.new (this.1.1 hcl), this.2⟩
  ·rename_i e1
   split at hd
   ·cases hd; cases hr
   ·exact hs.at_ok d kk γ hd hr ((hasO d γ e1).1 hγ)
 ·intro d d' kk kk' γ hd hd' hr hr' hγ hγ'
  rw [hbx] at hd hd'
  have cl : ∀ d kk, (if d = b then some (AU.dvec e cols (rows.set ix (row.set k (.sl rows2)))) else if d = c then some .gone else st.bx d) = some kk → kk.real = true → G'.has d γ → (d = b ∧ (G.has b γ ∨ G.has c γ)) ∨ (d ≠ b ∧ d ≠ c ∧ st.bx d = some kk ∧ G.has d γ) := by
   intro d kk hd hr hγ
   split at hd
   ·rename_i e1; subst e1; exact .inl ⟨rfl, hasB γ hγ⟩
   ·rename_i e1
    split at hd
    ·cases hd; cases hr
    ·rename_i e2'; exact .inr ⟨e1, e2', hd, (hasO d γ e1).1 hγ⟩
  rcases cl d kk hd hr hγ with ⟨q1, q2⟩ | ⟨q1, q2, q3, q4⟩ <;> rcases cl d' kk' hd' hr' hγ' with ⟨q1', q2'⟩ | ⟨q1', q2', q3', q4'⟩
  ·rw [q1, q1']
  ·rcases q2 with h | h
   ·exact (q1' (hs.at_inj d' b _ _ γ q3' hb hr' rfl q4' h)).elim
   ·exact (q2' (hs.at_inj d' c _ _ γ q3' hc hr' By q4' h)).elim
  ·rcases q2' with h | h
   ·exact (q1 (hs.at_inj d b _ _ γ q3 hb hr rfl q4 h)).elim
   ·exact (q2 (hs.at_inj d c _ _ γ q3 hc hr By q4 h)).elim
  ·exact hs.at_inj d d' kk kk' γ q3 q3' hr hr' q4 q4'
 ·have e1 : d ≠ b := fun e' => by rw [e', hbl] at hd; cases hd
  refine ⟨rfl, rfl, ?_⟩
  simp only [G', if_neg e1]
section run
variable {dr : Bool} {Q : St → Prop} {r i : Nat} {st : St} {log : List (Nat × Bv)} {o : Oper} {gs : List (Operand × D)}
theorem Ov {x : Operand} {b c e ix k s : Nat} {cols : List Ow} {rows : List (List T)} {row : List T} {u : T} {t : TypeId} (hat : At st.env ops i X.n (.load t x) s gs)
  (hx : opd st.env x = some (.e (.one (.eptr b e ix k)))) (ht : DL P t false = true) (hb : st.bx b = some (.hol e cols ix k c rows)) (hrow : rows[ix]? = some row) (hc : row[k]? = some u)
  (next : AH P X ops dr Q r (i + 1) (Bv.upd ⟨gs ++ [(x, .e (.one (.eptr b e ix k)))], [(b, .hol e cols ix k c rows)], some s, some (.e (.one (.own c))), [], []⟩ st) ((i, ⟨gs ++ [(x, .e (.one (.eptr b e ix k)))], [(b, .hol e cols ix k c rows)], some s, some (.e (.one (.own c))), [], []⟩) :: log)) : AH P X ops dr Q (r + 1) i st log := by
 obtain ⟨o, ho, hop, hd, hn, hg, hgp⟩ := hat.out
 refine AH.step next ⟨Af.2 ⟨hgp, hx, trivial⟩, ⟨hb, trivial⟩, trivial⟩ (LR.value ho hg rfl hd.symm (BA hd hn) ?_)
 intro G st a w hs hpre
 have hx := (Af.1 hpre.r).2.1
 have hb := hpre.b.1
 obtain ⟨β, hβ, hv⟩ : C3 P w G (a.eval x) (.eptr b e ix k) := hs.opd hx
 obtain ⟨β', cap, arr, el, Rf, h0, h1, h2, h3, h4, h5, h6, h7, h8, h9, h10, h11⟩ := hs.blk b _ hb
 rw [hβ] at h0; cases h0
 have hre := h5 ix row hrow
 have hk := An hc
 have hix := An hrow
 have hbnd : ix * e + e ≤ arr.size := by rw [h4, ← Nat.succ_mul]; exact Nat.mul_le_mul_right e (Nat.le_trans hix h3)
 refine ⟨Ak arr (ix * e + k), w, G, ?_, hs, ?_⟩
 ·simp only [execOp, hop, hv]
  exact Ad (Fa ht h2 (by omega)) rfl
 ·rintro d ⟨⟩
  refine ⟨⟨h10, by rw [h10]; exact h11⟩, fun b' hb' => ?_⟩
  have : b' = c := by simpa [D.names, E.names, C.names] using hb'
  subst this
  exact hs.liveB b _ hb b' (by simp [AU.names])
def Pz (bx : Nat → Option AU) : C → Ow → T → Prop
 | .pure u, .s, t => u = t
 | .own c, .x e2 cols2, .sl rows2 => bx c = some (Cu e2 cols2 rows2)
 | _, _, _ => False
def N3 (bx : Nat → Option AU) : Nat → List Ow → List C → List T → Prop
 | _, _, [], [] => True
 | j, cols, c :: cs, t :: ts => Pz bx c (cols.getD j .s) t ∧ N3 bx (j + 1) cols cs ts
 | _, _, _, _ => False
def KW : Nat → List Ow → List C → List T → List (Nat × AU)
 | j, cols, .own c :: cs, .sl rows2 :: ts => (match cols.getD j .s with | .x e2 cols2 => [(c, Cu e2 cols2 rows2)] | .s => []) ++ KW (j + 1) cols cs ts
 | j, cols, _ :: cs, _ :: ts => KW (j + 1) cols cs ts
 | _, _, _, _ => []
theorem Kq {bx : Nat → Option AU} {cols : List Ow} : ∀ {cs : List C} {ts : List T} {j0 : Nat}, N3 bx j0 cols cs ts → cs.length = ts.length ∧ ∀ (j : Nat) (c : C) (t : T), cs[j]? = some c → ts[j]? = some t → Pz bx c (cols.getD (j0 + j) .s) t
 | [], [], _, _ => ⟨rfl, fun j c t h => by simp at h⟩
 | c :: cs, t :: ts, j0, h => by
  obtain ⟨g1, g2⟩ := Kq h.2
  refine ⟨by simp [g1], fun j c' t' hc ht => ?_⟩
  cases j with
  | zero => simp at hc ht; subst hc; subst ht; exact h.1
  | succ j =>
   have := g2 j c' t' (by simpa using hc) (by simpa using ht)
   rwa [show j0 + 1 + j = j0 + (j + 1) from by omega] at this
end run
end Go.Lift
namespace Go.Lift
open List renaming mem_of_getElem? → lM
open Go.RowKit
variable {P : Program} {X : F4} {ops : Array Oper}
theorem PH {e : Nat} {arr : Array Value} {v : Value} (ha : arr.size = 1 * e) (hv : v.cells.size = e) :
  ∃ arr', Instr.fill (fun i => some (i * e, e)) arr [(0, v)] = some arr' ∧ arr'.size = 1 * e ∧ ∀ j, j < e → Ak arr' j = Ak v.cells j := by
 refine ⟨C8 arr 0 v.cells.toList, ?_, by rw [Dt, ha], fun j hj => ?_⟩
 ·simp only [Instr.fill]
  rw [if_neg (by simp; omega), Ip]
  simp
 ·rw [CF _ _ _ _ (by simp; omega), if_pos (by simp; omega), De, Nat.sub_zero]
theorem OU {bx : Nat → Option AU} {c : C} {o : Ow} {t : T} (h : Pz bx c o t) : (∃ u, c = .pure u ∧ o = .s ∧ t = u) ∨ ∃ b e2 cols2 rows2, c = .own b ∧ o = .x e2 cols2 ∧ t = .sl rows2 ∧ bx b = some (Cu e2 cols2 rows2) := by
 cases c with
 | pure u =>
  cases o with
  | s => exact .inl ⟨u, rfl, rfl, h.symm⟩
  | x e cols => exact h.elim
 | own b =>
  cases o with
  | s => exact h.elim
  | x e cols =>
   cases t with
   | sl rows2 => exact .inr ⟨b, e, cols, rows2, rfl, rfl, rfl, h⟩
   | _ => exact h.elim
 | _ => cases o <;> exact h.elim
section run
variable {dr : Bool} {Q : St → Prop} {r i : Nat} {st : St} {log : List (Nat × Bv)} {o : Oper} {gs : List (Operand × D)}
def Ca : List C → List Nat
 | [] => []
 | .own c :: cs => c :: Ca cs
 | _ :: cs => Ca cs
theorem Ek {b : Nat} : ∀ {cs : List C}, b ∈ Ca cs ↔ .own b ∈ cs
 | [] => by simp [Ca]
 | c :: cs => by
  cases c <;> simp [Ca, Ek (cs := cs)]
theorem JX : ∀ {cs : List C}, (Ca cs).Nodup → ∀ (j j' b : Nat), cs[j]? = some (.own b) → cs[j']? = some (.own b) → j = j'
 | [], _, j, j', b, h, _ => by simp at h
 | c :: cs, hn, j, j', b, h, h' => by
  have hn2 : (Ca cs).Nodup := by
   cases c <;> simp only [Ca] at hn <;> first | exact hn | exact (List.nodup_cons.1 hn).2
  have hnot : c = .own b → .own b ∉ cs := fun e hm => by
   subst e
   simp only [Ca] at hn
   exact (List.nodup_cons.1 hn).1 (Ek.2 hm)
  cases j with
  | zero =>
   cases j' with
   | zero => rfl
   | succ j' =>
    simp at h h'
    exact (hnot h (lM h')).elim
  | succ j =>
   cases j' with
   | zero =>
    simp at h h'
    exact (hnot h' (lM h)).elim
   | succ j' =>
    rw [JX hn2 j j' b (by simpa using h) (by simpa using h')]
theorem Lf {t el : TypeId} {s e : Nat} {z : Value} {y : Operand} {x : E} {cs : List C} {ts : List T} (cols : List Ow) (rb : List (Nat × AU)) {parts : Array (Nat × Operand)} (hat : At st.env ops i X.n (.buildSlice t 1 parts) s gs) (hps : parts = #[(0, y)])
  (hx : opd st.env y = some (.e x)) (hcs : x.cells = cs) (hlen : cs.length = e) (hrb : KW 0 cols cs ts = rb) (hb : Fb st.bx rb) (hcx : N3 st.bx 0 cols cs ts) (hnew : st.bx s = none)
  (hnd : F0 (Ca cs) = true) (hnl : (Ca cs).all (fun c => !AL c) = true) (ht : sliceB P t el = true) (he : EJ P el e = true) (hz : CG P el = some z) (hsm : e ≤ 16777216)
  (next : AH P X ops dr Q r (i + 1) (Bv.upd ⟨gs ++ [(y, .e x)], rb, some s, some (.e (.one (.own s))), (s, .dvec e cols [ts]) :: Ej (Ca cs), [s]⟩ st) ((i, ⟨gs ++ [(y, .e x)], rb, some s, some (.e (.one (.own s))), (s, .dvec e cols [ts]) :: Ej (Ca cs), [s]⟩) :: log)) : AH P X ops dr Q (r + 1) i st log := by
 obtain ⟨o, ho, hop, hdst, hn, hg, hgp⟩ := hat.out
 have hndp := FX hnd
 refine AH.step next ⟨Af.2 ⟨hgp, hx, trivial⟩, hb, hnew, trivial⟩ (LR.value ho hg rfl hdst.symm (BA hdst hn) ?_)
 have hcx0 := Kq hcx
 intro G st' a w hs hpre
 have hx := (Af.1 hpre.r).2.1
 have hnew := hpre.n.1
 have hb := hpre.b
 have hpb : ∀ {l : List (Nat × AU)}, Fb st'.bx l → ∀ p, p ∈ l → st'.bx p.1 = some p.2 := by
  intro l
  induction l with
  | nil => intro _ p hp; cases hp
  | cons q l ih =>
   intro h p hp
   rcases List.mem_cons.1 hp with e | e
   ·subst e; exact h.1
   ·exact ih h.2 p e
 -- what each cell is, in this state
 have hown : ∀ (j : Nat) (c : C) (u : T), cs[j]? = some c → ts[j]? = some u → (∃ v, c = .pure v ∧ cols.getD j .s = .s ∧ u = v) ∨ ∃ b e2 cols2 rows2, c = .own b ∧ cols.getD j .s = .x e2 cols2 ∧ u = .sl rows2 ∧ st'.bx b = some (Cu e2 cols2 rows2) := by
  intro j c u hc hu
  have h1 := hcx0.2 j c u hc hu
  rw [Nat.zero_add] at h1
  rcases OU h1 with h2 | ⟨b, e2, cols2, rows2, rfl, h3, rfl, _⟩
  ·exact .inl h2
  ·refine .inr ⟨b, e2, cols2, rows2, rfl, h3, rfl, ?_⟩
   have hmem : ∀ (cs : List C) (ts : List T) (j0 j : Nat), cs[j]? = some (.own b) → ts[j]? = some (.sl rows2) → cols.getD (j0 + j) .s = .x e2 cols2 → (b, Cu e2 cols2 rows2) ∈ KW j0 cols cs ts := by
    intro cs
    induction cs with
    | nil => intro ts j0 j h; simp at h
    | cons c cs ih =>
     intro ts j0 j h h' hcol
     cases ts with
     | nil => simp at h'
     | cons t ts =>
      cases j with
      | zero =>
       simp at h h'; subst h; subst h'
       rw [Nat.add_zero] at hcol
       simp only [KW, hcol]
       exact List.mem_append_left _ (by simp)
      | succ j =>
       have := ih ts (j0 + 1) j (by simpa using h) (by simpa using h') (by rwa [show j0 + 1 + j = j0 + (j + 1) from by omega])
       cases c <;> first | (simp only [KW]; exact this) | (cases t <;> simp only [KW] <;> first | exact this | exact List.mem_append_right _ this)
   have := hmem cs ts 0 j hc hu (by rw [Nat.zero_add]; exact h3)
   rw [hrb] at this
   exact hpb hb _ this
 obtain ⟨hcsz, hcr⟩ := (show Ga P w G (a.eval y) x from hs.opd hx).cells
 rw [hcs] at hcsz hcr
 have hve : (a.eval y).cells.size = e := by rw [hcsz, hlen]
 have hgn : ∀ c, c ∈ Ca cs → ∃ (j e2 : Nat) (cols2 : List Ow) (rows2 : List (List T)), cs[j]? = some (.own c) ∧ cols.getD j .s = .x e2 cols2 ∧ st'.bx c = some (Cu e2 cols2 rows2) := by
  intro c hc
  obtain ⟨j, hj⟩ := List.mem_iff_getElem?.1 (Ek.1 hc)
  have hjt : j < ts.length := by rw [← hcx0.1]; exact An hj
  rcases hown j _ ts[j] hj (by simp [hjt]) with ⟨v, h, _⟩ | ⟨b, e2, cols2, rows2, h1, h2, _, h4⟩
  ·cases h
  ·cases h1; exact ⟨j, e2, cols2, rows2, hj, h2, h4⟩
 have hs0 : s ∉ Ca cs := fun hm => by
  obtain ⟨_, _, _, _, _, _, h⟩ := hgn s hm
  rw [hnew] at h; cases h
 obtain ⟨arr', r1, r2, r3⟩ := PH (e := e) (arr := (Array.range (1 * e)).map (fun k => (if 1 * e = 0 then (#[] : Array Value) else z.cells)[k % (if 1 * e = 0 then (#[] : Array Value) else z.cells).size]!)) (v := a.eval y) (by simp) hve
 let w' := w.alloc (.cells arr' el)
 let G' : Gh := { S := G.S, loc := fun c => if c = s then some w.heap.size else G.loc c, hd := fun c => if c = s then .slice (some ⟨w.heap.size, 0, none⟩) 1 1 else G.hd c, more := fun c => if c = s then (fun γ => ∃ b, b ∈ Ca cs ∧ G.has b γ) else G.more c }
 have hheap : ∀ γ, γ < w.heap.size → w'.heap[γ]? = w.heap[γ]? := fun γ hγ => by show (w.alloc _).heap[γ]? = _; rw [Bz, if_neg (by omega)]
 have hatw : w'.heap[w.heap.size]? = some (.cells arr' el) := by show (w.alloc _).heap[_]? = _; rw [Bz, if_pos rfl]
 have hsz : w'.heap.size = w.heap.size + 1 := by show (w.heap.push _).size = _; simp
 have hbx : ∀ d, AI st'.bx ((s, .dvec e cols [ts]) :: Ej (Ca cs)) d = if d = s then some (.dvec e cols [ts]) else if d ∈ Ca cs then some .gone else st'.bx d := fun d => by
  simp only [AI]; split
  ·rfl
  ·exact HZ
 have hsome : ∀ c, (st'.bx c).isSome = true → c ≠ s := fun c hc e => by rw [e, hnew] at hc; cases hc
 have hasO : ∀ d γ, d ≠ s → (G'.has d γ ↔ G.has d γ) := fun d γ h => by unfold Gh.has; simp only [G', if_neg h]
 have hasS : ∀ γ, G'.has s γ → γ = w.heap.size ∨ ∃ b, b ∈ Ca cs ∧ G.has b γ := fun γ h => by
  unfold Gh.has at h
  simp only [G', if_true] at h
  rcases h with h | h
  ·cases h; exact .inl rfl
  ·exact .inr h
 have hlt : ∀ b γ, b ∈ Ca cs → G.has b γ → KR X b γ ∧ γ < w.heap.size ∧ ¬ G.S γ := fun b γ hbm hγ => by
  obtain ⟨_, _, _, _, _, _, h⟩ := hgn b hbm
  exact hs.at_ok b _ γ h By hγ
 have hcsj : ∀ (j : Nat) (c : C), cs[j]? = some c → C3 P w G (Ak (a.eval y).cells j) c := hcr
 have key : BM P X G' ⟨st'.env, AI st'.bx ((s, .dvec e cols [ts]) :: Ej (Ca cs))⟩ a w' := by
  refine hs.frame2 (fun d hd => ?_) (fun _ h => h) (fun c hc => by simp only [G']; rw [if_neg (hsome c hc)]) (fun c hc => by simp only [G']; rw [if_neg (hsome c hc)]) (fun γ hγ => hheap γ (hs.S_lt γ hγ)) ?_ ?_ ?_ (fun γ hγ => by have := hs.S_lt γ hγ; omega) hs.S_src (hs.below.alloc hs.below.size _) (fun d hd => ?_)
  ·rw [hbx]; split
   ·rfl
   ·split
    ·rfl
    ·exact hd
  ·intro d kk hd
   rw [hbx] at hd
   split at hd
   ·rename_i e1; subst e1; cases hd
    refine .inr ⟨.inr ⟨w.heap.size, 1, arr', el, fun i0 j0 γ => i0 = 0 ∧ ∃ b, cs[j0]? = some (.own b) ∧ G.has b γ, by simp [G'], by simp [G'], hatw, by simp, r2, ?_, ?_, ?_, ?_, ?_⟩, fun c' hc' => by cases hc'⟩
    ·intro i0 row hi
     cases i0 with
     | zero => simp at hi; subst hi; rw [← hcx0.1, hlen]
     | succ i0 => simp at hi
    ·intro i0 row j0 t0 hi hj
     cases i0 with
     | succ i0 => simp at hi
     | zero =>
      simp at hi; subst hi
      have hj0 : j0 < cs.length := by rw [hcx0.1]; exact An hj
      have hcj : cs[j0]? = some cs[j0] := by simp [hj0]
      rw [Nat.zero_mul, Nat.zero_add, r3 j0 (by omega)]
      have hR := hcsj j0 _ hcj
      rcases hown j0 _ t0 hcj hj with ⟨v, h1, h2, h3⟩ | ⟨b, e2, cols2, rows2, h1, h2, h3, h4⟩
      ·rw [h2, h3]
       rw [h1] at hR
       exact .s ((show B7 w G.S _ v from hR).mono (fun γ hγ => hheap γ (hs.S_lt γ hγ)) fun _ h => h)
      ·rw [h2, h3]
       rw [h1] at hR hcj
       have hvv : Ak (a.eval y).cells j0 = G.hd b := hR.1
       rw [hvv]
       refine (Jc (hs.blk b _ h4)).mono (fun γ hγ => hheap γ ?_) (fun _ h => h) (fun γ hγ => ⟨rfl, b, hcj, hγ⟩)
       rcases hγ with h | h
       ·exact hs.S_lt γ h
       ·exact (hs.at_ok b _ γ h4 By h).2.1
    ·rintro i0 j0 γ ⟨_, b, hcb, hγ⟩
     simp only [G', if_true]
     exact ⟨b, Ek.2 (lM hcb), hγ⟩
    ·rintro i0 j0 ⟨_, b, hcb, hγ⟩
     exact Nat.lt_irrefl _ (hlt b _ (Ek.2 (lM hcb)) hγ).2.1
    ·rintro i0 j0 i1 j1 γ ⟨q0, b, hcb, hγ⟩ ⟨q1, b', hcb', hγ'⟩
     refine ⟨q0.trans q1.symm, ?_⟩
     obtain ⟨_, _, _, _, _, _, k1⟩ := hgn b (Ek.2 (lM hcb))
     obtain ⟨_, _, _, _, _, _, k2⟩ := hgn b' (Ek.2 (lM hcb'))
     have := hs.at_inj b b' _ _ γ k1 k2 By By hγ hγ'
     subst this
     exact JX hndp _ _ b hcb hcb'
   ·rename_i e1
    split at hd
    ·cases hd; exact .inr ⟨trivial, fun c' hc' => by cases hc'⟩
    ·exact .inl ⟨hd, by simp only [G', if_neg e1], fun γ hr hγ => hheap γ (hs.at_ok d kk γ hd hr hγ).2.1⟩
  ·intro d kk γ hd hr hγ
   rw [hbx] at hd
   split at hd
   ·rename_i e1; subst e1
    rcases hasS γ hγ with h | ⟨b, hbm, h⟩
    ·subst h
     exact ⟨.new hs.below.size, by omega, fun h => Nat.lt_irrefl _ (hs.S_lt _ h)⟩
    ·have := hlt b γ hbm h
     have hbl : AL b = false := by
      have := List.all_eq_true.1 hnl b hbm
      simpa using this
     exact ⟨.new (this.1.1 hbl), by omega, this.2.2⟩
   ·rename_i e1
    split at hd
    ·cases hd; cases hr
    ·have := hs.at_ok d kk γ hd hr ((hasO d γ e1).1 hγ)
     exact ⟨this.1, by omega, this.2.2⟩
  ·intro d d' kk kk' γ hd hd' hr hr' hγ hγ'
   rw [hbx] at hd hd'
   have cl : ∀ d kk, (if d = s then some (AU.dvec e cols [ts]) else if d ∈ Ca cs then some .gone else st'.bx d) = some kk → kk.real = true → G'.has d γ → (d = s ∧ (γ = w.heap.size ∨ ∃ b, b ∈ Ca cs ∧ G.has b γ)) ∨ (d ≠ s ∧ d ∉ Ca cs ∧ st'.bx d = some kk ∧ G.has d γ) := by
    intro d kk hd hr hγ
    split at hd
    ·rename_i e1; subst e1; exact .inl ⟨rfl, hasS γ hγ⟩
    ·rename_i e1
     split at hd
     ·cases hd; cases hr
     ·rename_i e2'; exact .inr ⟨e1, e2', hd, (hasO d γ e1).1 hγ⟩
   have cross : ∀ d kk, d ∉ Ca cs → st'.bx d = some kk → kk.real = true → G.has d γ → (γ = w.heap.size ∨ ∃ b, b ∈ Ca cs ∧ G.has b γ) → False := by
    intro d kk hdm hd hr hγ h
    rcases h with h | ⟨b, hbm, h⟩
    ·have := (hs.at_ok d kk γ hd hr hγ).2.1; omega
    ·obtain ⟨_, _, _, _, _, _, k1⟩ := hgn b hbm
     exact hdm (hs.at_inj d b _ _ γ hd k1 hr By hγ h ▸ hbm)
   rcases cl d kk hd hr hγ with ⟨q1, q2⟩ | ⟨q1, q2, q3, q4⟩ <;> rcases cl d' kk' hd' hr' hγ' with ⟨q1', q2'⟩ | ⟨q1', q2', q3', q4'⟩
   ·rw [q1, q1']
   ·exact (cross d' kk' q2' q3' hr' q4' q2).elim
   ·exact (cross d kk q2 q3 hr q4 q2').elim
   ·exact hs.at_inj d d' kk kk' γ q3 q3' hr hr' q4 q4'
  ·have e1 : d ≠ s := fun e' => by rw [e', hs.nl hn] at hd; cases hd
   refine ⟨?_, ?_, ?_⟩ <;> simp only [G', if_neg e1]
 refine ⟨.slice (some ⟨w.heap.size, 0, none⟩) 1 1, w', G', ?_, key, ?_⟩
 ·simp only [execOp, hop, hps]
  refine Ad (w1 := w') (a := .slice (some ⟨w.heap.size, 0, none⟩) 1 1) ?_ rfl
  have hpa : ((#[(0, y)] : Array (Nat × Operand)).map fun (i, x) => (i, a.eval x)) = #[(0, a.eval y)] := by simp
  unfold sliceB at ht
  split at ht
  ·rename_i e' hu
   have : e' = el := by simpa using ht
   subst this
   rw [hpa]
   unfold Instr.buildSlice
   refine Ad (Aq hu w) ?_
   refine Ad (BR he w) ?_
   rw [if_neg (by omega)]
   by_cases hne : 1 * e = 0
   ·rw [if_pos hne] at r1
    rw [if_pos hne]
    refine Ad (a := (#[] : Array Value)) (w1 := w) rfl ?_
    simp only [r1]
    rfl
   ·rw [if_neg hne] at r1
    rw [if_neg hne]
    refine Ad (Cq hz w) ?_
    refine Ad (a := z.cells) (w1 := w) rfl ?_
    simp only [r1]
    rfl
  ·cases ht
 ·rintro d ⟨⟩
  refine ⟨⟨by simp [G'], _, _, _, rfl⟩, fun b hb => ?_⟩
  have : b = s := by simpa [D.names, E.names, C.names] using hb
  subst this
  rw [hbx, if_pos rfl]; rfl
end run
end Go.Lift
namespace Go.Lift
open Go.RowKit
variable {P : Program} {X : F4} {ops : Array Oper}
theorem Kf {α : Type} (f : α → List T) (xs : List α) (n e : Nat) (cols : List Ow) : vl (.pvec n e cols (xs.map f)) = some (e, xs.length) := by simp [vl]
theorem KV {st : St} (b : Nat) (k k' : AU) (hb : st.bx b = some k) (hr : k.real = true) (hn : k'.names = []) (h : ∀ (w : World) (G : Gh), CE P w G b k → CE P w G b k') : DK P X st (St.setB st b k') := by
 rintro a w ⟨G, hs⟩
 refine ⟨G, hs.frame (bx' := (St.setB st b k').bx) ?_ ⟨fun _ h => h, fun _ _ => rfl, fun _ _ => rfl, fun _ _ => rfl⟩ (fun _ _ => rfl) ?_ ?_ ?_ hs.S_lt hs.S_src hs.below (fun _ _ => ⟨rfl, rfl, rfl⟩)⟩
 ·intro c hc; simp only [St.setB]; split <;> simp [hc]
 ·intro c kk hc
  simp only [St.setB] at hc
  split at hc
  ·rename_i e1; subst e1; cases hc
   exact .inr ⟨h w G (hs.blk c _ hb), fun c' hc' => by rw [hn] at hc'; cases hc'⟩
  ·exact .inl ⟨hc, fun _ _ _ => rfl⟩
 ·intro c kk β hc hr' hβ
  simp only [St.setB] at hc
  split at hc
  ·rename_i e1; subst e1; exact hs.at_ok _ _ β hb hr hβ
  ·exact hs.at_ok c kk β hc hr' hβ
 ·intro c c' kk kk' β hc hc' hr1 hr2 hβ hβ'
  simp only [St.setB] at hc hc'
  have old : ∀ c kk, (if c = b then some k' else st.bx c) = some kk → kk.real = true → ∃ k0, st.bx c = some k0 ∧ k0.real = true := by
   intro c kk hc hr'
   split at hc
   ·rename_i e1; subst e1; exact ⟨_, hb, hr⟩
   ·exact ⟨kk, hc, hr'⟩
  obtain ⟨k0, q1, q2⟩ := old c kk hc hr1
  obtain ⟨k0', q1', q2'⟩ := old c' kk' hc' hr2
  exact hs.at_inj c c' k0 k0' β q1 q1' q2 q2' hβ hβ'
theorem MZ {st : St} (b e : Nat) (cols : List Ow) (rows : List (List T)) (hb : st.bx b = some (.vec e rows)) : DK P X st (St.setB st b (.pvec 0 e cols rows)) :=
 KV b _ _ hb rfl rfl fun _ _ h => ⟨Nat.zero_le _, h.imp id fun ⟨β, cap, arr, el, h0, h1, h2, h3, h4, h5, h6⟩ =>
  ⟨β, cap, arr, el, fun _ _ _ => False, h0, h1, h2, h3, h4, h5, fun i row j t hi hj => by rw [if_neg (by omega)]; exact .s (h6 i row j t hi hj), fun _ _ _ h => h.elim, fun _ _ h => h, fun _ _ _ _ _ h => h.elim⟩⟩
theorem MV {st : St} (b : Nat) {n m e : Nat} {cols : List Ow} {rows : List (List T)} (hb : st.bx b = some (.pvec n e cols rows)) (h : n = m) : DK P X st (St.setB st b (.pvec m e cols rows)) :=
 KV b _ _ hb rfl rfl fun _ _ hk => h ▸ hk
theorem MJ {st : St} (b : Nat) {n e : Nat} {cols : List Ow} {rows : List (List T)} (hb : st.bx b = some (.pvec n e cols rows)) (h : n = rows.length) : DK P X st (St.setB st b (.dvec e cols rows)) :=
 KV b _ _ hb rfl rfl fun _ _ hk => by
  obtain ⟨_, hk⟩ := hk
  refine hk.imp id fun ⟨β, cap, arr, el, Rf, h0, h1, h2, h3, h4, h5, h6, h7⟩ => ⟨β, cap, arr, el, Rf, h0, h1, h2, h3, h4, h5, fun i row j t hi hj => ?_, h7⟩
  have := h6 i row j t hi hj
  rwa [if_pos (by rw [h]; exact An hi)] at this
section run
variable {dr : Bool} {Q : St → Prop} {r i : Nat} {st : St} {log : List (Nat × Bv)} {o : Oper} {gs : List (Operand × D)}
theorem Na {x : Operand} {b n e ix k s : Nat} {cols : List Ow} {rows : List (List T)} {row : List T} {u : T} {t : TypeId} (hat : At st.env ops i X.n (.load t x) s gs)
  (hx : opd st.env x = some (.e (.one (.eptr b e ix k)))) (ht : DL P t false = true) (hb : st.bx b = some (.pvec n e cols rows)) (hrow : rows[ix]? = some row) (hc : row[k]? = some u) (hn : n ≤ ix)
  (next : AH P X ops dr Q r (i + 1) (Bv.upd ⟨gs ++ [(x, .e (.one (.eptr b e ix k)))], [(b, .pvec n e cols rows)], some s, some (one u), [], []⟩ st) ((i, ⟨gs ++ [(x, .e (.one (.eptr b e ix k)))], [(b, .pvec n e cols rows)], some s, some (one u), [], []⟩) :: log)) : AH P X ops dr Q (r + 1) i st log := by
 obtain ⟨o, ho, hop, hd, hn', hg, hgp⟩ := hat.out
 refine AH.step next ⟨Af.2 ⟨hgp, hx, trivial⟩, ⟨hb, trivial⟩, trivial⟩ (LR.value ho hg rfl hd.symm (BA hd hn') ?_)
 intro G st a w hs hpre
 have hx := (Af.1 hpre.r).2.1
 have hb := hpre.b.1
 obtain ⟨β, hβ, hv⟩ : C3 P w G (a.eval x) (.eptr b e ix k) := hs.opd hx
 obtain ⟨_, hbk⟩ := hs.blk b _ hb
 obtain ⟨β', cap, arr, el, Rf, h0, h1, h2, h3, h4, h5, h6, h7⟩ := hbk.resolve_left (fun ⟨_, _, h, _⟩ => by rw [h] at hrow; cases hrow)
 rw [hβ] at h0; cases h0
 have hre := h5 ix row hrow
 have hk := An hc
 have hix := An hrow
 have hbnd : ix * e + e ≤ arr.size := by rw [h4, ← Nat.succ_mul]; exact Nat.mul_le_mul_right e (Nat.le_trans hix h3)
 have hcell := h6 ix row k u hrow hc
 rw [if_neg (by omega)] at hcell
 refine ⟨Ak arr (ix * e + k), w, G, ?_, hs, ?_⟩
 ·simp only [execOp, hop, hv]
  exact Ad (Fa ht h2 (by omega)) rfl
 ·rintro d ⟨⟩
  cases hcell with
  | s h => exact ⟨h, fun b hb => by cases hb⟩
theorem LG {x y : Operand} {b c n ix e2 : Nat} {cols cols2 : List Ow} {rows rows2 rows' : List (List T)} {row : List T} {t : TypeId} (hat : Lr ops i = some (.store t x y))
  (hx : opd st.env x = some (.e (.one (.eptr b 1 ix 0)))) (hy : opd st.env y = some (.e (.one (.own c)))) (hb : st.bx b = some (.pvec n 1 cols rows)) (hc : st.bx c = some (Cu e2 cols2 rows2)) (hcol : cols.getD 0 .s = .x e2 cols2) (hrow : rows[ix]? = some row) (hixn : n = ix) (hz : EJ P t 1 = true)
  (hbl : AL b = false) (hcl : AL c = false) (hr : rows.set ix (row.set 0 (.sl rows2)) = rows')
  (next : AH P X ops dr Q r (i + 1) (Bv.upd ⟨[(x, .e (.one (.eptr b 1 ix 0))), (y, .e (.one (.own c)))], [(b, .pvec n 1 cols rows), (c, Cu e2 cols2 rows2)], none, none, [(b, .pvec (n + 1) 1 cols rows'), (c, .gone)], []⟩ st) ((i, ⟨[(x, .e (.one (.eptr b 1 ix 0))), (y, .e (.one (.own c)))], [(b, .pvec n 1 cols rows), (c, Cu e2 cols2 rows2)], none, none, [(b, .pvec (n + 1) 1 cols rows'), (c, .gone)], []⟩) :: log)) : AH P X ops dr Q (r + 1) i st log := by
 obtain ⟨o, ho, hop, hd, hgn⟩ := Io hat
 have hg : OG ops o [] := .none hgn
 have hcb : c ≠ b := fun e' => by rw [e', hb] at hc; unfold Cu at hc; split at hc <;> cases hc
 refine AH.step next ⟨⟨hx, hy, trivial⟩, ⟨hb, hc, trivial⟩, trivial⟩ (LR.skip (rs := [(x, .e (.one (.eptr b 1 ix 0))), (y, .e (.one (.own c)))]) ho hg rfl hd rfl ?_)
 intro G st a w hs hpre
 obtain ⟨hx, hy, _⟩ := hpre.r
 obtain ⟨hb, hc, _⟩ := hpre.b
 subst hr
 obtain ⟨β, hβ, hv⟩ : C3 P w G (a.eval x) (.eptr b 1 ix 0) := hs.opd hx
 obtain ⟨hy1, pp, pn, pq, hy2⟩ : C3 P w G (a.eval y) (.own c) := hs.opd hy
 obtain ⟨hnl, hbk⟩ := hs.blk b _ hb
 obtain ⟨β', cap, arr, el, Rf, h0, h1, h2, h3, h4, h5, h6, h7, h8, h9⟩ := hbk.resolve_left (fun ⟨_, _, h, _⟩ => by rw [h] at hrow; cases hrow)
 rw [hβ] at h0; cases h0
 subst hixn
 have hX := Jc (hs.blk c _ hc)
 have hatb := hs.at_ok b _ β hb rfl (.inl hβ)
 have hre := h5 n row hrow
 have hix := An hrow
 have hbnd : n * 1 + 1 ≤ arr.size := by rw [h4, ← Nat.succ_mul]; exact Nat.mul_le_mul_right 1 (Nat.le_trans hix h3)
 have hone : Eu (a.eval y) = true := by rw [hy2]; rfl
 have hst := Cy (P := P) (β := β) (el := el) [a.eval y] w (n * 1 + 0) 0 arr h2 (by simp; omega) (fun v hv => by simp at hv; subst hv; exact hone)
 rw [Nat.add_zero] at hst
 let G' : Gh := { G with more := fun d => if d = b then (fun γ => G.more b γ ∨ G.has c γ) else G.more d }
 let arr' := C8 arr (n * 1 + 0) [a.eval y]
 let w' := Dz w β (.cells arr' el (0, 0))
 have hover : ∀ j, Ak arr' j = if j = n * 1 + 0 then a.eval y else Ak arr j := fun j => by
  show Ak (C8 arr (n * 1 + 0) [a.eval y]) j = _
  rw [CF _ _ _ _ (by simp; omega)]
  simp only [List.length_singleton]
  by_cases hj : j = n * 1 + 0
  ·subst hj; rw [if_pos (by omega), if_pos rfl]; simp
  ·rw [if_neg (by omega), if_neg hj]
 have hheap : ∀ γ, γ ≠ β → w'.heap[γ]? = w.heap[γ]? := fun γ hγ => by show (Dz w β _).heap[γ]? = _; rw [B1, if_neg (fun h => hγ h.1)]
 have hsz : w'.heap.size = w.heap.size := by show (Dz w β _).heap.size = _; simp [Dz]
 have hcβ : ∀ γ, G.has c γ → γ ≠ β := fun γ h e' => hcb (hs.at_inj c b _ _ γ hc hb By rfl h (.inl (e' ▸ hβ)))
 have hbx : ∀ d, AI st.bx [(b, .pvec (n + 1) 1 cols (rows.set n (row.set 0 (.sl rows2)))), (c, .gone)] d = if d = b then some (.pvec (n + 1) 1 cols (rows.set n (row.set 0 (.sl rows2)))) else if d = c then some .gone else st.bx d := fun d => rfl
 have hasO : ∀ d γ, d ≠ b → (G'.has d γ ↔ G.has d γ) := fun d γ h => by unfold Gh.has; simp only [G', if_neg h]
 have hasB : ∀ γ, G'.has b γ → G.has b γ ∨ G.has c γ := fun γ h => by
  unfold Gh.has at h
  simp only [G', if_true] at h
  rcases h with h | h | h
  ·exact .inl (.inl h)
  ·exact .inl (.inr h)
  ·exact .inr h
 have hix2 : ∀ i0 j0, j0 < 1 → i0 * 1 + j0 = n * 1 + 0 → i0 = n ∧ j0 = 0 := by
  intro i0 j0 hj0 he
  rcases Nat.lt_trichotomy i0 n with h | h | h
  ·have : i0 * 1 + 1 ≤ n * 1 := by rw [← Nat.succ_mul]; exact Nat.mul_le_mul_right 1 h
   omega
  ·subst h; exact ⟨rfl, by omega⟩
  ·have : n * 1 + 1 ≤ i0 * 1 := by rw [← Nat.succ_mul]; exact Nat.mul_le_mul_right 1 h
   omega
 refine ⟨w', G', ?_, ?_⟩
 ·simp only [execOp, hop, hv]
  have hcells : (a.eval y).cells.toList = [a.eval y] := by rw [hy2]; rfl
  refine Ad (a := ()) (w1 := w') ?_ rfl
  have := GY (P := P) (n := 1) hz (v := a.eval y) (by rw [hy2]; rfl) h2 (show n * 1 + 0 + 1 ≤ arr.size by omega) (fun u hu => by rw [hcells] at hu; simp at hu; subst hu; exact hone)
  rw [hcells] at this
  exact this
 ·refine hs.frame2 (fun d hd => ?_) (fun _ h => h) (fun _ _ => rfl) (fun _ _ => rfl) (fun γ hγ => hheap γ fun e' => hatb.2.2 (e' ▸ hγ)) ?_ ?_ ?_ (fun γ hγ => by rw [hsz]; exact hs.S_lt γ hγ) hs.S_src (Gk hs.below hatb.1.2 _) (fun d hd => ?_)
  ·rw [hbx]; split
   ·rfl
   ·split
    ·rfl
    ·exact hd
  ·intro d kk hd
   rw [hbx] at hd
   split at hd
   ·rename_i e1; subst e1; cases hd
    refine .inr ⟨⟨by rw [List.length_set]; exact An hrow, .inr ⟨β, cap, arr', el, fun i0 j0 γ => if i0 = n ∧ j0 = 0 then G.has c γ else Rf i0 j0 γ, hβ, by rw [List.length_set]; exact h1, by show (Dz w β _).heap[β]? = _; rw [B1, if_pos ⟨rfl, hatb.2.1⟩], by rw [List.length_set]; exact h3, by show (C8 _ _ _).size = _; rw [Dt, h4], ?_, ?_, ?_, ?_, ?_⟩⟩, fun c' hc' => by cases hc'⟩
    ·intro j0 row' hj
     rcases CM hj with ⟨_, rfl⟩ | ⟨_, hj⟩
     ·rw [List.length_set]; exact hre
     ·exact h5 j0 row' hj
    ·intro i0 row' j0 t0 hi hj
     have hj0 : j0 < 1 := by
      have := An hj
      rcases CM hi with ⟨_, rfl⟩ | ⟨_, hi⟩
      ·rw [List.length_set] at this; omega
      ·have := h5 i0 row' hi; omega
     rw [hover]
     by_cases hh : i0 = n ∧ j0 = 0
     ·obtain ⟨rfl, rfl⟩ := hh
      rw [if_pos rfl, hcol]
      have ht0 : t0 = .sl rows2 := by
       rcases CM hi with ⟨_, rfl⟩ | ⟨hne, _⟩
       ·rcases CM hj with ⟨_, rfl⟩ | ⟨hne, _⟩
        ·rfl
        ·exact (hne rfl).elim
       ·exact (hne rfl).elim
      subst ht0
      rw [hy1, if_pos (Nat.lt_succ_self _)]
      refine hX.mono (fun γ hγ => hheap γ ?_) (fun _ h => h) (fun γ hγ => by simp only [and_self, if_true]; exact hγ)
      rcases hγ with h | h
      ·exact fun e' => hatb.2.2 (e' ▸ h)
      ·exact hcβ γ h
     ·rw [if_neg (fun h => hh (hix2 i0 j0 hj0 h))]
      have hold : ∃ row0, rows[i0]? = some row0 ∧ row0[j0]? = some t0 := by
       rcases CM hi with ⟨hii, rfl⟩ | ⟨_, hi⟩
       ·subst hii
        rcases CM hj with ⟨hjj, _⟩ | ⟨_, hj⟩
        ·exact (hh ⟨rfl, hjj⟩).elim
        ·exact ⟨row, hrow, hj⟩
       ·exact ⟨row', hi, hj⟩
      obtain ⟨row0, q1, q2⟩ := hold
      have hne : i0 ≠ n := fun e' => hh ⟨e', by omega⟩
      have hif : (if i0 < n + 1 then cols.getD j0 .s else .s) = if i0 < n then cols.getD j0 .s else .s := by
       by_cases hl : i0 < n
       ·rw [if_pos hl, if_pos (by omega)]
       ·rw [if_neg hl, if_neg (by omega)]
      rw [hif]
      refine (h6 i0 row0 j0 t0 q1 q2).mono (fun γ hγ => hheap γ ?_) (fun _ h => h) (fun γ hγ => by simp only [if_neg hh]; exact hγ)
      rcases hγ with h | h
      ·exact fun e' => hatb.2.2 (e' ▸ h)
      ·exact fun e' => h8 i0 j0 (e' ▸ h)
    ·intro i0 j0 γ hγ
     simp only [G', if_true]
     split at hγ
     ·exact .inr hγ
     ·exact .inl (h7 i0 j0 γ hγ)
    ·intro i0 j0 hγ
     split at hγ
     ·exact hcβ β hγ rfl
     ·exact h8 i0 j0 hγ
    ·intro i0 j0 i1 j1 γ hγ hγ'
     have cross : ∀ i j, Rf i j γ → G.has c γ → False := fun i j hr hh => hcb (hs.at_inj c d _ _ γ hc hb By rfl hh (.inr (h7 i j γ hr)))
     split at hγ <;> split at hγ'
     ·rename_i q q'; exact ⟨q.1.trans q'.1.symm, q.2.trans q'.2.symm⟩
     ·exact (cross _ _ hγ' hγ).elim
     ·exact (cross _ _ hγ hγ').elim
     ·exact h9 i0 j0 i1 j1 γ hγ hγ'
   ·rename_i e1
    split at hd
    ·cases hd; exact .inr ⟨trivial, fun c' hc' => by cases hc'⟩
    ·rename_i e2'
     refine .inl ⟨hd, by simp only [G', if_neg e1], fun γ hr hγ => hheap γ fun e' => e1 (hs.at_inj d b kk _ γ hd hb hr rfl hγ (.inl (e' ▸ hβ)))⟩
  ·intro d kk γ hd hr hγ
   rw [hbx] at hd
   rw [hsz]
   split at hd
   ·rename_i e1; subst e1
    rcases hasB γ hγ with h | h
    ·exact hs.at_ok d _ γ hb rfl h
    ·have := hs.at_ok c _ γ hc By h
     exact ⟨.new (this.1.1 hcl), this.2⟩
   ·rename_i e1
    split at hd
    ·cases hd; cases hr
    ·exact hs.at_ok d kk γ hd hr ((hasO d γ e1).1 hγ)
  ·intro d d' kk kk' γ hd hd' hr hr' hγ hγ'
   rw [hbx] at hd hd'
   have cl : ∀ d kk, (if d = b then some (AU.pvec (n + 1) 1 cols (rows.set n (row.set 0 (.sl rows2)))) else if d = c then some .gone else st.bx d) = some kk → kk.real = true → G'.has d γ → (d = b ∧ (G.has b γ ∨ G.has c γ)) ∨ (d ≠ b ∧ d ≠ c ∧ st.bx d = some kk ∧ G.has d γ) := by
    intro d kk hd hr hγ
    split at hd
    ·rename_i e1; subst e1; exact .inl ⟨rfl, hasB γ hγ⟩
    ·rename_i e1
     split at hd
     ·cases hd; cases hr
     ·rename_i e2'; exact .inr ⟨e1, e2', hd, (hasO d γ e1).1 hγ⟩
   rcases cl d kk hd hr hγ with ⟨q1, q2⟩ | ⟨q1, q2, q3, q4⟩ <;> rcases cl d' kk' hd' hr' hγ' with ⟨q1', q2'⟩ | ⟨q1', q2', q3', q4'⟩
   ·rw [q1, q1']
   ·rcases q2 with h | h
    ·exact (q1' (hs.at_inj d' b _ _ γ q3' hb hr' rfl q4' h)).elim
    ·exact (q2' (hs.at_inj d' c _ _ γ q3' hc hr' By q4' h)).elim
   ·rcases q2' with h | h
    ·exact (q1 (hs.at_inj d b _ _ γ q3 hb hr rfl q4 h)).elim
    ·exact (q2 (hs.at_inj d c _ _ γ q3 hc hr By q4 h)).elim
   ·exact hs.at_inj d d' kk kk' γ q3 q3' hr hr' q4 q4'
  ·have e1 : d ≠ b := fun e' => by rw [e', hbl] at hd; cases hd
   refine ⟨rfl, rfl, ?_⟩
   simp only [G', if_neg e1]
end run
theorem Qw {α : Type} {f : α → List T} {xs : List α} {b e len : Nat} {bs : List (Nat × AU)} {l l' : List D} (h : 0 + len ≤ xs.length) (hb : lent bs b = some (xs.map f)) (h2 : l.map (fun d => (d.lend bs).nrm) = l') :
  (D.e (.one (.view b e 0 len)) :: l).map (fun d => (d.lend bs).nrm) = .e (.one (.pure (.sl ((xs.take len).map f)))) :: l' := by
 rw [List.map_cons, h2, NC h bs hb]; rfl
theorem QA {d : D} {bs : List (Nat × AU)} {l l' : List D} (h2 : l.map (fun d => (d.lend bs).nrm) = l') : (d :: l).map (fun d => (d.lend bs).nrm) = (d.lend bs).nrm :: l' := by
 rw [List.map_cons, h2]
end Go.Lift
namespace Go.Lift
open Go.RowKit
variable {P : Program} {X : F4}
theorem Bm {α : Type} {c : Operand} {x y : Code} {Q : Exit → St → Prop} {st : St} {b : Bool} {e1 e2 : Option α} {v : α} (h : AJ b e1 e2 = some v) (ht : e1 = some v → W P X x Q st) (hf : e2 = some v → W P X y Q st) (hc : opd st.env c = some (bD b) := by exact rfl) : W P X (.cond c x y) Q st :=
 RY hc (fun k => ht (Rl k h)) (fun k => hf (Ru k h))
theorem D2 {ops : Array Oper} {dr : Bool} {Q : St → Prop} {r i : Nat} {st : St} {log : List (Nat × Bv)} {α : Type} {b : Bool} {e1 e2 : Option α} {v : α} (t : Nat) (h : AJ b e1 e2 = some v) (hx : st.env t = some (bD b)) (h1 : e1 = some v → AH P X ops dr Q r i (St.put st (some t) (some (bD true))) log) (h2 : e2 = some v → AH P X ops dr Q r i (St.put st (some t) (some (bD false))) log) : AH P X ops dr Q r i st log :=
 QV hx (fun k => h1 (Rl k h)) (fun k => h2 (Ru k h))
theorem sn {V R : Type} {J : V → Option R} {r : R} {S : V → St} {s : St} {v : V} {el : List (Nat × D)} {bl : List (Nat × AU)} (l : List (Nat × Nat)) (h : J v = some r) (e : S v = mk el bl := by exact rfl) (h1 : (Tq s.env el, SW (rn l) s.bx bl) = (S9 (rn l) el, SA (rn l) bl) := by exact rfl) (h2 : ((F0 ((DG bl).map (rn l)) && JP (rn l) (DG bl)) && (LX (DG bl) el && Lt (DG bl) bl)) = true := by exact rfl) : ∃ v, J v = some r ∧ DK P X s (S v) :=
 ⟨v, h, e ▸ sm l el bl h1 h2⟩
theorem Uz {y : Code} {id : Nat} {ops : Array Oper} {dr : Bool} {Q : Exit → St → Prop} {st : St} {n : Nat} (hm : P.follows .mixedOrders = true) (hn : ops.size = n)
  (h : AH P X ops dr (fun st' => W P X y Q st') n 0 st []) : W P X (.seq (.region id ops dr) y) Q st :=
 AC (Aj hm hn h)
theorem B6 {G : Prop} {α β : Type} {xs : List α} {i : Int} {f : α → Option β} {r : β} (h : (BP xs i).bind f = some r) (k : ∀ x, 0 ≤ i → xs[i.toNat]? = some x → f x = some r → G) : G := by
 obtain ⟨x, a, b, c⟩ := PK h
 exact k x a b c
theorem B5 {G : Prop} {α β : Type} {x : Option α} {f : α → Option β} {r : β} (h : x.bind f = some r) (k : ∀ a, x = some a → f a = some r → G) : G := by
 obtain ⟨a, b, c⟩ := bind_some h
 exact k a b c
theorem GH {G : Prop} {β : Type} {p : Prop} [Decidable p] {f : Unit → Option β} {r : β} (h : (ED p).bind f = some r) (k : p → f () = some r → G) : G := k (CP h).1 (CP h).2
section
variable {ops : Array Oper} {dr : Bool} {Q : St → Prop} {r i : Nat} {st : St} {log : List (Nat × Bv)} {gs : List (Operand × D)}
theorem qe {x : Operand} {d : D} {s : Nat} (h : (hd st.env ops i X.n, opd st.env x) = (some (.assign x, s, gs), some d)) (k : Q (Bv.upd ⟨gs ++ [(x, d)], [], some s, some d, [], []⟩ st)) : AH P X ops false Q (0 + 1) i st log :=
 qa h (Ac k)
def Pg (n : Nat) (ops : Array Oper) (i : Nat) (st : St) : Option Bv :=
 match (match RZ ops i n with
  | some (_, s, t, want) => (match st.env t with
   | some (.e (.one (.pure (.val (.bool b))))) => (match b, want with
    | true, false => some (s, t, want)
    | false, true => some (s, t, want)
    | _, _ => none)
   | _ => none)
  | none => none) with
 | some (s, t, want) => some ⟨[(.tmp t, bD (!want))], [], some s, some uD, [], []⟩
 | none => match hd st.env ops i n with
  | some (.move x, s, gs) => (opd st.env x).map fun d => ⟨gs ++ [(x, d)], [], some s, some d, [], []⟩
  | _ => none
def RJ (n : Nat) (ops : Array Oper) : Nat → Nat → St → List (Nat × Bv) → Option (St × List (Nat × Bv))
 | 0, _, st, log => some (st, log)
 | k + 1, i, st, log => match Pg n ops i st with
  | none => none
  | some l => RJ n ops k (i + 1) (Bv.upd l st) ((i, l) :: log)
theorem Qc {l : Bv} (h : Pg X.n ops i st = some l) (next : Nx P X ops dr Q r i st log l) : AH P X ops dr Q (r + 1) i st log := by
 unfold Pg at h
 split at h
 ·rename_i s t want hh
  split at hh
  ·rename_i j s' t' want' ha
   split at hh
   ·rename_i b hb
    split at hh
    ·cases hh; cases h; exact qn (want := false) (by rw [ha, hb]; rfl) next
    ·cases hh; cases h; exact qn (want := true) (by rw [ha, hb]; rfl) next
    ·cases hh
   ·cases hh
  ·cases hh
 ·split at h
  ·rename_i x s gs' hh
   cases hd' : opd st.env x with
   | none => rw [hd'] at h; cases h
   | some d =>
    rw [hd'] at h
    cases h
    exact qm (by rw [hh, hd']) next
  ·cases h
theorem qw (k : Nat) {st' : St} {log' : List (Nat × Bv)} (h : RJ X.n ops k i st log = some (st', log')) (next : AH P X ops dr Q r (i + k) st' log') : AH P X ops dr Q (r + k) i st log := by
 induction k generalizing i st log with
 | zero => cases h; exact next
 | succ k ih =>
  rw [RJ] at h
  split at h
  ·cases h
  ·rename_i l hl
   exact Qc hl (ih h (by rwa [Nat.add_assoc, Nat.add_comm 1]))
end
theorem cw {f n : Nat} {fn : Func} {c : Code} {args : List D} {rv : List (Nat × List (List T))} {res : D} {rs : List ResultVar} (hf : P.funcs[f]? = some fn)
  (h : ∀ (w0 : World) (S0 : Nat → Prop), W P ⟨w0, S0, n, G0 S0⟩ c (fun e st => match e with | .normal | .ret => Pn P rs st rv res | _ => False) (Sg args))
  (hb : fn.body = some c := by exact rfl) (hn : fn.ntmps = n := by exact rfl) (hrs : fn.results.toList = rs := by exact rfl) (hl : args.length ≤ n := by exact FI rfl) (hn9 : n ≤ 90000 := by exact FI rfl) (hpub : args.all Oc = true := by exact rfl) : Ao P f args rv res :=
 Lh hf hb hn hrs hl hn9 hpub h
theorem tm {st : St} {t : Nat} {x : E} (h : st.env t = some (.e x) := by exact rfl) : Te P st [.tmp t] [x] := ⟨.tmp _ _ h, trivial⟩
end Go.Lift
namespace Go.Lift
open List renaming mem_of_getElem? → lM
open List renaming getD_eq_getElem?_getD → lD
open Go.RowKit Go.Shelf
theorem Qh {w w' : World} (h : Pe w.heap.size w w') : ∃ q os, w' = Go.Sort.grow (w.drewN q) os := by
 refine ⟨w'.drawn - w.drawn, w'.heap.extract w.heap.size w'.heap.size, ?_⟩
 have hh : w'.heap = w.heap ++ w'.heap.extract w.heap.size w'.heap.size := by
  apply Array.ext_getElem?
  intro k
  rw [Array.getElem?_append]
  split
  ·rename_i hk; exact h.block k hk
  ·rename_i hk
   rw [Array.getElem?_extract]
   have := h.size
   split
   ·congr 1; omega
   ·rw [Array.getElem?_eq_none]; omega
 have hd := h.drawn
 have ht := h.tape
 have ho := h.os
 have hu := h.output
 obtain ⟨hp', tp', dr', os', ou'⟩ := w'
 obtain ⟨hp, tp, dr, os, ou⟩ := w
 simp only at hh hd ht ho hu
 subst ht; subst ho; subst hu
 simp only [Go.Sort.grow, World.drewN, World.mk.injEq, and_true, true_and]
 exact ⟨hh, by omega⟩
def NI {α : Type} (c : α → α → Int) (x y : α) : Prop := c x y < 0 ∧ 0 < c y x
structure Js {α : Type} (c : α → α → Int) (M : α → Prop) : Prop where
 self : ∀ x, M x → c x x = 0
 tri : ∀ x y, M x → M y → x = y ∨ NI c x y ∨ NI c y x
 trans : ∀ x y z, M x → M y → M z → NI c x y → NI c y z → NI c x z
namespace Js
variable {α : Type} {c : α → α → Int} {M : α → Prop}
theorem lt (O : Js c M) {x y : α} (hx : M x) (hy : M y) : c x y < 0 ↔ NI c x y := by
 refine ⟨fun h => ?_, fun h => h.1⟩
 rcases O.tri x y hx hy with e | e | e
 ·subst e; have := O.self x hx; omega
 ·exact e
 ·have := e.2; omega
theorem asym {x y : α} (h : NI c x y) (k : NI c y x) : False := by have := h.1; have := k.2; omega
theorem eq (O : Js c M) {x y : α} (hx : M x) (hy : M y) (h : ¬ c x y < 0) (k : ¬ c y x < 0) : x = y := by
 rcases O.tri x y hx hy with e | e | e
 ·exact e
 ·exact absurd e.1 h
 ·exact absurd e.1 k
theorem ntrans (O : Js c M) {x y z : α} (hx : M x) (hy : M y) (hz : M z) (h : ¬ c x y < 0) (k : ¬ c y z < 0) : ¬ c x z < 0 := by
 rw [O.lt hx hy] at h; rw [O.lt hy hz] at k; rw [O.lt hx hz]
 intro q
 have h' : x = y ∨ NI c y x := by rcases O.tri x y hx hy with e | e | e; exact .inl e; exact absurd e h; exact .inr e
 have k' : y = z ∨ NI c z y := by rcases O.tri y z hy hz with e | e | e; exact .inl e; exact absurd e k; exact .inr e
 rcases h' with e | e
 ·subst e; exact k q
 ·rcases k' with f | f
  ·subst f; exact asym q e
  ·exact asym q (O.trans z y x hz hy hx f e)
end Js
theorem Ob {α : Type} {c : α → α → Int} : ∀ (a b : List α), (∀ x y, x ∈ a → y ∈ a → ¬ c x y < 0 → ¬ c y x < 0 → x = y) → a.Perm b → a.Pairwise (fun x y => ¬ c y x < 0) → b.Pairwise (fun x y => ¬ c y x < 0) → a = b
 | [], b, _, h, _, _ => (List.nil_perm.1 h).symm
 | x :: xs, [], _, h, _, _ => by cases List.perm_nil.1 h
 | x :: xs, y :: ys, hE, h, ha, hb => by
  obtain ⟨a1, a2⟩ := List.pairwise_cons.1 ha
  obtain ⟨b1, b2⟩ := List.pairwise_cons.1 hb
  have exy : x = y := by
   rcases List.mem_cons.1 (h.mem_iff.1 (List.mem_cons_self : x ∈ x :: xs)) with e | e
   ·exact e
   rcases List.mem_cons.1 (h.mem_iff.2 (List.mem_cons_self : y ∈ y :: ys)) with f | f
   ·exact f.symm
   exact hE x y (by simp) (by simp [f]) (b1 x e) (a1 y f)
  subst exy
  rw [Ob xs ys (fun u v hu hv => hE u v (by simp [hu]) (by simp [hv])) (List.perm_cons x |>.1 h) a2 b2]
section
variable {P : Program} {ρ : Ren} {α : Type}
theorem Gq {β' : Type} [Inhabited β'] (enc : β' → List Value) (k : Nat) (w : World) (β m : Nat) (d : Array β') (os : Array Obj) {γ : Nat} (h : γ < w.heap.size) (hne : γ ≠ β) : (Go.Proofs.sortWorldK enc k w β 0 m d os).heap[γ]? = w.heap[γ]? := by
 unfold Go.Proofs.sortWorldK Go.Sort.grow Go.Sort.putRowK Go.Sort.putRow Go.Sort.mapBlock Go.Sort.ahead
 simp only
 rw [Array.getElem?_append, if_pos (by simpa using h), Array.getElem?_modify, if_neg (Ne.symm hne)]
theorem Nv {β' : Type} [Inhabited β'] (enc : β' → List Value) (k : Nat) (w : World) (β m : Nat) (d : Array β') (os : Array Obj) {arr : Array Value} {el : TypeId} {fz : Nat × Nat} (h : w.heap[β]? = some (.cells arr el fz)) : (Go.Proofs.sortWorldK enc k w β 0 m d os).heap[β]? = some (.cells (Go.Sort.putCells id 0 (Go.Sort.flatK enc k d) arr) el fz) := by
 unfold Go.Proofs.sortWorldK Go.Sort.grow Go.Sort.putRowK Go.Sort.putRow Go.Sort.mapBlock Go.Sort.ahead
 simp only
 have hlt : β < w.heap.size := (Array.getElem?_eq_some_iff.1 h).1
 rw [Array.getElem?_append, if_pos (by simpa using hlt), Array.getElem?_modify, if_pos rfl, h]
 rfl
theorem K1 {β' : Type} [Inhabited β'] (enc : β' → List Value) (k : Nat) (w : World) (β m : Nat) (d : Array β') (os : Array Obj) : w.heap.size ≤ (Go.Proofs.sortWorldK enc k w β 0 m d os).heap.size := by
 unfold Go.Proofs.sortWorldK Go.Sort.grow Go.Sort.putRowK Go.Sort.putRow Go.Sort.mapBlock Go.Sort.ahead
 simp
theorem NS (L : Go.Proofs.SlLaysF0.n6 P ρ) (k : Nat) (aE : ∀ w, (isAgg (ρ.t 24)).run P w = .ok true w) (zE : ∀ w, (Go.sizeOf (ρ.t 24)).run P w = .ok k w) {e : α → List T} {g : List (Bool × List T) → Option T} {c : α → α → Int} {xs ys : List α}
  (hg : ∀ x y, x ∈ xs → y ∈ xs → g [(true, e x), (true, e y)] = some (.val (.int .i64 (c x y)))) (O : Js c (· ∈ xs)) (hp : ys.Perm xs) (hs : ys.Pairwise fun x y => ¬ c y x < 0) (hl : xs.length < 4611686018427387904) :
  B2 P (ρ.f 6) [.e (.one (.own 90000)), .e (.one (.clo g))] [(.vec k (xs.map e), .vec k (ys.map e))] [] (.tup []) := by
 intro w G vs hS hgk hlb hla hli hlen hrd
 have hb := hlb 0 _ rfl
 have h0 : C3 P w G (Ak vs 0) (.own 90000) := hrd 0 _ rfl
 obtain ⟨f, caps, hv, ⟨fn, hf1, hf2, hf3⟩, hcall⟩ : Ix P w G.S (Ak vs 1) g := hrd 1 _ rfl
 have hvs : vs = #[Ak vs 0, Ak vs 1] := by
  have h2 : vs.size = 2 := hlen
  apply Array.ext (by simp [h2])
  intro i h1 _
  match i, h1 with
  | 0, h1 => simp [Ak, h1]
  | 1, h1 => simp [Ak, h1]
  | i + 2, h1 => omega
 have hys : ys.length = xs.length := hp.length_eq
 rw [hvs, h0.1, hv]
 by_cases hx0 : xs = []
 ·subst hx0
  have hy : ys = [] := List.perm_nil.1 hp
  subst hy
  obtain ⟨p, cap, hh⟩ : ∃ p cap, G.hd 90000 = .slice p 0 cap := by
   rcases hb with ⟨a, b1, _, _⟩ | ⟨β, cap, arr, el, _, b1, _⟩
   ·exact ⟨_, _, b1⟩
   ·exact ⟨_, _, b1⟩
  rw [hh]
  refine (Go.Proofs.AnyF.slices_SortFunc_none L p cap _ w).mono ?_
  rintro e' w' ⟨rfl, rfl⟩
  refine ⟨_, G, rfl, B4.refl _ _ _, fun _ h => h, fun _ h => .inl h, ⟨#[], rfl, rfl, fun j x hj => by simp at hj⟩, fun i x hi => ?_, fun i x hi => by simp at hi, fun _ _ => ⟨rfl, rfl, rfl⟩, fun i β hi h => (hla i β hi h).2, fun i β hi => by simp at hi, fun i l β hi => by simp at hi⟩
  match i, hi with
  | 0, hi => cases hi; exact hb
  | i + 1, hi => simp at hi
 ·rcases hb with ⟨a, b1, b2, b3⟩ | ⟨β, cap, arr, el, b0, b1, b2, b3, b4, b5, b6⟩
  ·exact absurd (List.map_eq_nil_iff.1 b2) hx0
  ·have hβ : β < w.heap.size ∧ ¬ G.S β := hla 0 β (by simp) (.inl b0)
   have hek : ∀ x, x ∈ xs → (e x).length = k := fun x hx => by
    obtain ⟨i, hi, rfl⟩ := List.mem_iff_getElem.1 hx
    exact b5 i _ (by simp [hi])
   -- the elements with their cells
   let A := { p : List Value × α // p.2 ∈ xs ∧ p.1.length = k ∧ ∀ (j : Nat) (t : T), (e p.2)[j]? = some t → B7 w G.S (p.1.getD j undef) t }
   let at' : Fin xs.length → A := fun i => ⟨((List.range k).map fun j => Ak arr (i.1 * k + j), xs[i.1]), List.getElem_mem i.2, by simp, fun j t hj => by
    have hjk : j < k := by rw [← hek xs[i.1] (List.getElem_mem i.2)]; exact An hj
    have := b6 i.1 (e xs[i.1]) j t (by simp) hj
    simpa [hjk] using this⟩
   have hpos : 0 < xs.length := List.length_pos_iff.2 hx0
   letI : Inhabited A := ⟨at' ⟨0, hpos⟩⟩
   let d : Array A := Array.ofFn at'
   have hds : d.size = xs.length := by simp [d]
   have hdg : ∀ i (h : i < xs.length), d[i]! = at' ⟨i, h⟩ := fun i h => by rw [getElem!_pos d i (by omega)]; simp [d]
   have hdl : d.toList.map (fun x => x.1.2) = xs := by
    apply List.ext_getElem
    ·simp [hds]
    ·intro i h1 h2
     simp [d, at']
   let enc : A → List Value := fun x => x.1.1
   have hk : ∀ x : A, (enc x).length = k := fun x => x.2.2.1
   have h1c : ∀ x : A, ∀ v ∈ enc x, v.oneCell' = true := by
    intro x v hv
    obtain ⟨j, hj, rfl⟩ := List.mem_iff_getElem.1 hv
    have hje : j < (e x.1.2).length := by rw [hek _ x.2.1, ← hk x]; exact hj
    have := (x.2.2.2 j _ (List.getElem?_eq_getElem hje)).one
    rw [lD, List.getElem?_eq_getElem hj] at this
    revert this
    show Eu (enc x)[j] = true → _
    generalize (enc x)[j] = q
    intro h
    cases q <;> first | rfl | cases h
   let cf : A → A → Int := fun x y => c x.1.2 y.1.2
   have hlt : ∀ x y : A, Go.Proofs.ltOf cf x y = decide (c x.1.2 y.1.2 < 0) := fun _ _ => rfl
   have hO : Go.Sort.SWO (Go.Proofs.ltOf cf) := by
    refine ⟨fun x => ?_, fun x y z => ?_, fun x y z => ?_⟩
    ·rw [hlt, O.self _ x.2.1]; rfl
    ·rw [hlt, hlt, hlt]; intro h1 h2
     have h1 := (O.lt x.2.1 y.2.1).1 (of_decide_eq_true h1)
     have h2 := (O.lt y.2.1 z.2.1).1 (of_decide_eq_true h2)
     exact decide_eq_true (O.trans _ _ _ x.2.1 y.2.1 z.2.1 h1 h2).1
    ·rw [hlt, hlt, hlt]; intro h1 h2
     exact decide_eq_false (O.ntrans x.2.1 y.2.1 z.2.1 (of_decide_eq_false h1) (of_decide_eq_false h2))
   have eg : ∀ args w, (callFunc f args).run P w = .ok (.enter f args) w := Hy (by unfold Ay; rw [hf1]; simp [hf2]; simpa using hf3)
   have hcmp : Go.Proofs.CmpLays P f caps enc k cf β 0 d.size w := by
    intro m os dk hdk x y
    refine (hcall _ G.S (fun _ h => h) (fun γ hγ => Gq enc k w β m dk os (hS γ hγ) (fun q => hβ.2 (q ▸ hγ))) (fun γ hγ => Nat.lt_of_lt_of_le (hS γ hγ) (K1 enc k w β m dk os)) (hgk.mono (fun γ hγ => Gq enc k w β m dk os (hS γ hγ) (fun q => hβ.2 (q ▸ hγ))) (fun _ h => h)) #[.agg (enc x).toArray, .agg (enc y).toArray] [(true, e x.1.2), (true, e y.1.2)] _ rfl ?_ (hg _ _ x.2.1 y.2.1)).mono ?_
    ·have one : ∀ z : A, RC (Go.Proofs.sortWorldK enc k w β 0 m dk os) G.S (.agg (enc z).toArray) (true, e z.1.2) := fun z => by
      refine ⟨_, rfl, by simp [hk, hek _ z.2.1], fun j t hj => ?_⟩
      have := z.2.2.2 j t hj
      have e1 : Ak (enc z).toArray j = z.1.1.getD j undef := by simp [Ak, enc, lD]
      rw [e1]
      exact this.mono (fun γ hγ => Gq enc k w β m dk os (hS γ hγ) (fun q => hβ.2 (q ▸ hγ))) (fun _ h => h)
     intro j q hq
     match j, hq with
     | 0, hq => cases hq; exact one x
     | 1, hq => cases hq; exact one y
     | j + 2, hq => simp at hq
    ·rintro e' w'' ⟨v', S'', rfl, hbel, _, _, hr⟩
     cases hr
     exact ⟨rfl, Qh hbel⟩
   have hH : Go.Sort.HoldsK enc k w β 0 d := by
    intro j hj
    have hj' : j < xs.length * k := by simpa [hds] using hj
    have hk0 : 0 < k := Nat.pos_of_ne_zero fun h => by rw [h] at hj'; simp at hj'
    have hi : j / k < xs.length := Nat.div_lt_of_lt_mul (by rwa [Nat.mul_comm] at hj')
    have hm : j % k < k := Nat.mod_lt _ hk0
    have hsz : j < arr.size := by
     have h3 : (xs.map e).length ≤ cap := b3
     rw [List.length_map] at h3
     have := Nat.mul_le_mul_right k h3
     omega
    have hval : (Go.Sort.flatK enc k d)[j]! = Ak arr j := by
     rw [Go.Sort.get_flatK enc k d j (by rw [hds]; exact hj'), hdg _ hi]
     simp only [enc, at']
     rw [getElem!_pos _ _ (by simp [hm])]
     simp only [List.getElem_map, List.getElem_range]
     rw [Nat.div_add_mod']
    rw [hval, Nat.zero_add]
    refine ⟨by simp [World.cell?, b2, FU hsz], by simp [World.frozen?, b2]⟩
   have hhd : G.hd 90000 = .slice (some ⟨β, 0, none⟩) d.size cap := by rw [b1, hds, List.length_map]
   rw [hhd]
   refine (Go.Proofs.AnyQ.slices_SortFunc L k aE zE enc hk h1c cf hO f caps β 0 cap d w eg hcmp hH hβ.1 (by rw [hds]; exact hl)).mono ?_
   rintro e' w' ⟨rfl, d', n, os, hpm, hsd, rfl⟩
   have hds' : d'.size = d.size := hpm.1
   have hpl : d'.toList.Perm d.toList := by
    have h := hpm.2.2
    have e1 : (d'.extract 0 d.size).toList = d'.toList := by rw [← hds']; simp
    have e2 : (d.extract 0 d.size).toList = d.toList := by simp
    rwa [e1, e2] at h
   have hlist : d'.toList.map (fun x => x.1.2) = ys := by
    refine Ob (c := c) _ _ (fun x y hx hy h1 h2 => ?_) (((hpl.map _).trans (by rw [hdl])).trans hp.symm) ?_ hs
    ·obtain ⟨a, _, rfl⟩ := List.mem_map.1 hx
     obtain ⟨b, _, rfl⟩ := List.mem_map.1 hy
     exact O.eq a.2.1 b.2.1 h1 h2
    ·rw [List.pairwise_map, List.pairwise_iff_getElem]
     intro i j hi hj hij
     have := hsd i j (Nat.zero_le _) hij (by rw [← hds']; simpa using hj)
     rw [getElem!_pos d' i (by simpa using hi), getElem!_pos d' j (by simpa using hj), hlt] at this
     simpa using of_decide_eq_false this
   have hat : (Go.Proofs.sortWorldK enc k w β 0 n d' os).heap[β]? = some (.cells (Go.Sort.putCells id 0 (Go.Sort.flatK enc k d') arr) el (0, 0)) := Nv enc k w β n d' os b2
   have hlen' : d'.size = ys.length := by rw [hds', hds, hys]
   refine ⟨_, G, rfl, ⟨rfl, rfl, rfl, K1 enc k w β n d' os, by show w.drawn ≤ w.drawn + n; omega, fun γ hγ hL => Gq enc k w β n d' os hγ fun q => hL ⟨0, by simp, .inl (q ▸ b0)⟩⟩, fun _ h => h, fun _ h => .inl h, ⟨#[], rfl, rfl, fun j x hj => by simp at hj⟩, fun i x hi => ?_, fun i x hi => by simp at hi, fun _ _ => ⟨rfl, rfl, rfl⟩, fun i γ hi h => (hla i γ hi h).2, fun i γ hi => by simp at hi, fun i l γ hi => by simp at hi⟩
   match i, hi with
   | i + 1, hi => simp at hi
   | 0, hi =>
    cases hi
    refine .inr ⟨β, cap, _, el, b0, by rw [hhd, hds, List.length_map, hys], hat, by rw [List.length_map, hys]; simpa using b3, by simpa [Go.Sort.putCells] using b4, ?_, ?_⟩
    ·intro i row hi
     obtain ⟨x, hx, rfl⟩ : ∃ x, x ∈ ys ∧ e x = row := by
      rw [List.getElem?_map] at hi
      cases hq : ys[i]? with
      | none => rw [hq] at hi; cases hi
      | some x => rw [hq] at hi; cases hi; exact ⟨x, lM hq, rfl⟩
     exact hek x (hp.mem_iff.1 hx)
    ·intro i row j t hi hj
     rw [List.getElem?_map] at hi
     cases hq : ys[i]? with
     | none => rw [hq] at hi; cases hi
     | some x =>
      rw [hq] at hi; cases hi
      have hil : i < d'.size := by rw [hlen']; exact An hq
      have hxm : x ∈ xs := hp.mem_iff.1 (lM hq)
      have hjk : j < k := by rw [← hek x hxm]; exact An hj
      have hx : (d'[i]!).1.2 = x := by
       rw [← hlist, List.getElem?_map] at hq
       rw [getElem!_pos d' i hil]
       rw [show d'.toList[i]? = some d'[i] from by simp [hil]] at hq
       simpa using hq
      have hr := (d'[i]!).2.2.2 j t (by rw [hx]; exact hj)
      have hij : i * k + j < d'.size * k := by
       have := Nat.mul_le_mul_right k (show i + 1 ≤ d'.size from hil)
       rw [Nat.add_mul, Nat.one_mul] at this; omega
      have hasz : i * k + j < arr.size := by
       have h3 : (xs.map e).length ≤ cap := b3
       rw [List.length_map] at h3
       have h4 := Nat.mul_le_mul_right k h3
       rw [hlen', hys] at hij
       omega
      have d1 : (i * k + j) / k = i := (Go.Sort.blk_iff k i _ (by omega)).1 ⟨by omega, by omega⟩
      have d2 : (i * k + j) % k = j := by rw [Nat.mod_eq_sub_div_mul, d1]; omega
      have hcell : Ak (Go.Sort.putCells id 0 (Go.Sort.flatK enc k d') arr) (i * k + j) = (d'[i]!).1.1.getD j undef := by
       unfold Ak Go.Sort.putCells
       rw [Array.getElem?_mapIdx, show arr[i * k + j]? = some (Ak arr (i * k + j)) from FU hasz]
       simp only [Option.map_some, Option.getD_some, Nat.zero_le, true_and, Nat.zero_add, Nat.sub_zero, Go.Sort.size_flatK]
       rw [if_pos hij]
       simp only [id]
       rw [Go.Sort.get_flatK enc k d' _ hij, d1, d2, lD, getElem!_pos _ _ (by rw [hk]; exact hjk), List.getElem?_eq_getElem (by rw [show (d'[i]!).1.1.length = k from hk _]; exact hjk)]
       rfl
      rw [hcell]
      exact hr.mono (fun γ hγ => Gq enc k w β n d' os (hS γ hγ) (fun q => hβ.2 (q ▸ hγ))) (fun _ h => h)
end
end Go.Lift
namespace Go.Lift
open Go.RowKit Go.Shelf
section
variable {α : Type}
def QT (cmp : α × α → Option Int) (x : α) : List α → List α
 | [] => [x]
 | y :: ys => match cmp (x, y) with
  | some a => if a ≤ 0 then x :: y :: ys else y :: QT cmp x ys
  | none => x :: y :: ys
def P4 (cmp : α × α → Option Int) (xs : List α) : List α := xs.foldr (QT cmp) []
def Qb (cmp : α × α → Option Int) (bq : α → α → Bool) (y z : α) : Bool := match cmp (y, z), cmp (z, y) with
 | some a, some b => (decide (a < 0) && decide (0 < b)) || (bq y z && decide (a = 0) && decide (b = 0))
 | _, _ => false
def TH (cmp : α × α → Option Int) (bq : α → α → Bool) : List α → Bool
 | [] => true
 | y :: ys => (match cmp (y, y) with | some a => decide (a = 0) | none => false) && ys.all (Qb cmp bq y) && TH cmp bq ys
def Od (cmp : α × α → Option Int) (bq : α → α → Bool) (xs : List α) : Option (List α) :=
 if TH cmp bq (P4 cmp xs) && decide (xs.length < 4611686018427387904) then some (P4 cmp xs) else none
theorem LB (cmp : α × α → Option Int) (x : α) : ∀ l : List α, (QT cmp x l).Perm (x :: l)
 | [] => List.Perm.refl _
 | y :: ys => by
  unfold QT
  split
  ·split
   ·exact List.Perm.refl _
   ·exact ((LB cmp x ys).cons y).trans (List.Perm.swap x y ys)
  ·exact List.Perm.refl _
theorem Ly (cmp : α × α → Option Int) : ∀ l : List α, (P4 cmp l).Perm l
 | [] => List.Perm.refl _
 | x :: l => (LB cmp x (P4 cmp l)).trans ((Ly cmp l).cons x)
theorem P0 {cmp : α × α → Option Int} {bq : α → α → Bool} (hq : ∀ x y, bq x y = true → x = y) {y z : α} (h : Qb cmp bq y z = true) :
  ∃ a b, cmp (y, z) = some a ∧ cmp (z, y) = some b ∧ (NI (fun x y => (cmp (x, y)).getD 0) y z ∨ y = z) := by
 unfold Qb at h
 split at h
 ·rename_i a b e1 e2
  refine ⟨a, b, e1, e2, ?_⟩
  rw [Bool.or_eq_true] at h
  rcases h with h | h
  ·rw [Bool.and_eq_true] at h
   exact .inl ⟨by show (cmp (y, z)).getD 0 < 0; rw [e1]; exact of_decide_eq_true h.1, by show 0 < (cmp (z, y)).getD 0; rw [e2]; exact of_decide_eq_true h.2⟩
  ·rw [Bool.and_eq_true, Bool.and_eq_true] at h
   exact .inr (hq _ _ h.1.1)
 ·cases h
theorem Oo {cmp : α × α → Option Int} {bq : α → α → Bool} (hq : ∀ x y, bq x y = true → x = y) : ∀ {l : List α}, TH cmp bq l = true →
  (∀ x y, x ∈ l → y ∈ l → cmp (x, y) = some ((cmp (x, y)).getD 0)) ∧ Js (fun x y => (cmp (x, y)).getD 0) (· ∈ l) ∧ l.Pairwise (fun x y => ¬ (cmp (y, x)).getD 0 < 0)
 | [], _ => ⟨fun x y h => by simp at h, ⟨fun x h => by simp at h, fun x y h => by simp at h, fun x y z h => by simp at h⟩, List.Pairwise.nil⟩
 | y0 :: ys, h => by
  unfold TH at h
  rw [Bool.and_eq_true, Bool.and_eq_true, List.all_eq_true] at h
  obtain ⟨⟨h0, h1⟩, h2⟩ := h
  obtain ⟨i1, i2, i3⟩ := Oo hq h2
  have hs : cmp (y0, y0) = some 0 := by
   split at h0
   ·rename_i a e; rw [e, of_decide_eq_true h0]
   ·cases h0
  have hp := fun z hz => P0 hq (h1 z hz)
  have self : ∀ x, x ∈ y0 :: ys → (cmp (x, x)).getD 0 = 0 := fun x hx => by
   rcases List.mem_cons.1 hx with e | e
   ·subst e; rw [hs]; rfl
   ·exact i2.self x e
  have asy : ∀ x z, NI (fun x y => (cmp (x, y)).getD 0) x z → NI (fun x y => (cmp (x, y)).getD 0) z x → False := fun x z a b => Js.asym a b
  have first : ∀ z, z ∈ y0 :: ys → y0 = z ∨ NI (fun x y => (cmp (x, y)).getD 0) y0 z := fun z hz => by
   rcases List.mem_cons.1 hz with e | e
   ·exact .inl e.symm
   ·obtain ⟨a, b, _, _, g⟩ := hp z e; exact g.symm
  refine ⟨fun x y hx hy => ?_, ⟨self, fun x y hx hy => ?_, fun x y z hx hy hz a b => ?_⟩, List.pairwise_cons.2 ⟨fun z hz => ?_, i3⟩⟩
  ·rcases List.mem_cons.1 hx with e | e
   ·subst e
    rcases List.mem_cons.1 hy with f | f
    ·subst f; rw [hs]; rfl
    ·obtain ⟨a, b, g, _⟩ := hp y f; rw [g]; rfl
   ·rcases List.mem_cons.1 hy with f | f
    ·subst f; obtain ⟨a, b, _, g, _⟩ := hp x e; rw [g]; rfl
    ·exact i1 x y e f
  ·rcases List.mem_cons.1 hx with e | e
   ·subst e; rcases first y hy with f | f
    ·exact .inl f
    ·exact .inr (.inl f)
   ·rcases List.mem_cons.1 hy with f | f
    ·subst f; rcases first x hx with g | g
     ·exact .inl g.symm
     ·exact .inr (.inr g)
    ·exact i2.tri x y e f
  ·have nofirst : ∀ u, u ∈ y0 :: ys → NI (fun x y => (cmp (x, y)).getD 0) u y0 → False := fun u hu a => by
    rcases first u hu with f | f
    ·subst f; exact asy _ _ a a
    ·exact asy _ _ a f
   rcases List.mem_cons.1 hy with f | f
   ·subst f; exact (nofirst x hx a).elim
   rcases List.mem_cons.1 hz with g | g
   ·subst g; exact (nofirst y hy b).elim
   rcases List.mem_cons.1 hx with e | e
   ·subst e
    rcases first z hz with q | q
    ·subst q; exact (asy _ _ a b).elim
    ·exact q
   ·exact i2.trans x y z e f g a b
  ·rcases first z (List.mem_cons_of_mem _ hz) with f | f
   ·subst f; rw [hs]; simp
   ·have := f.2; simp only at this; omega
theorem PU {cmp : α × α → Option Int} {bq : α → α → Bool} (hq : ∀ x y, bq x y = true → x = y) {xs ys : List α} (h : Od cmp bq xs = some ys) :
  (∀ x y, x ∈ xs → y ∈ xs → cmp (x, y) = some ((cmp (x, y)).getD 0)) ∧ Js (fun x y => (cmp (x, y)).getD 0) (· ∈ xs) ∧ ys.Perm xs ∧ ys.Pairwise (fun x y => ¬ (cmp (y, x)).getD 0 < 0) ∧ xs.length < 4611686018427387904 := by
 unfold Od at h
 split at h
 ·rename_i hc
  rw [Bool.and_eq_true] at hc
  cases h
  have hp := Ly cmp xs
  obtain ⟨h1, h2, h3⟩ := Oo hq hc.1
  have hm : ∀ x, x ∈ xs → x ∈ P4 cmp xs := fun x hx => hp.mem_iff.2 hx
  exact ⟨fun x y hx hy => h1 x y (hm x hx) (hm y hy), ⟨fun x hx => h2.self x (hm x hx), fun x y hx hy => h2.tri x y (hm x hx) (hm y hy), fun x y z hx hy hz => h2.trans x y z (hm x hx) (hm y hy) (hm z hz)⟩, hp, h3, of_decide_eq_true hc.2⟩
 ·cases h
theorem Qo {P : Program} {ρ : Ren} (L : Go.Proofs.SlLaysF0.n6 P ρ) (k : Nat) (aE : ∀ w, (isAgg (ρ.t 24)).run P w = .ok true w) (zE : ∀ w, (Go.sizeOf (ρ.t 24)).run P w = .ok k w) {e : α → List T} (he : O7 e) {bq : α → α → Bool} (hq : ∀ x y, bq x y = true → x = y) {cmp : α × α → Option Int} {xs ys : List α} (h : Od cmp bq xs = some ys) :
  B2 P (ρ.f 6) [.e (.one (.own 90000)), .e (.one (.clo (Gn (Sp true e true e) (fun n => .val (.int .i64 n)) cmp)))] [(.vec k (xs.map e), .vec k (ys.map e))] [] (.tup []) := by
 obtain ⟨h1, h2, h3, h4, h5⟩ := PU hq h
 refine NS L k aE zE (c := fun x y => (cmp (x, y)).getD 0) (fun x y hx hy => ?_) h2 h3 h4 h5
 exact In (ea := Sp true e true e) (er := fun n => T.val (.int .i64 n)) (QW true e true e he he) (x := (x, y)) (h1 x y hx hy)
end
end Go.Lift
namespace Go.Lift
open Go.RowKit Go.ChangeShapes Go.WideShapes
variable {P : Program} {X : F4} {ops : Array Oper}
section run
variable {dr : Bool} {Q : St → Prop} {r i : Nat} {st : St} {log : List (Nat × Bv)} {o : Oper} {gs : List (Operand × D)}
end run
end Go.Lift
namespace Go.Lift
open Go.RowKit Go.Shelf
end Go.Lift
namespace Go.Lift
open Go.RowKit
variable {P : Program} {X : F4}
theorem NR {st : St} (s b nb e len : Nat) (rows rows' : List (List T)) (hs : st.env s = some (.e (.one (.view b e 0 len)))) (hb : st.bx b = some (.vec e rows)) (hnb : st.bx nb = none) (hle : 0 + len ≤ rows.length) (hr : rows.take len = rows') (hlt : AL b = false) (hltn : AL nb = false) :
  DK P X st (St.setB (St.setB (St.put st (some s) (some (.e (.one (.own nb))))) nb (.vec e rows')) b .gone) := by
 subst hr
 rintro a w ⟨G, h⟩
 obtain ⟨a1, n1, cap1, p, k1, k2, k3, k4⟩ : C3 P w G (Ak a.tmps s) (.view b e 0 len) := h.env s _ hs
 have hbn : b ≠ nb := fun e => by rw [e, hnb] at hb; cases hb
 have hlen : (rows.take len).length = len := by rw [List.length_take]; omega
 have hblk := h.blk b _ hb
 -- what is known of the slice
 obtain ⟨l, v, hv, hl⟩ : ∃ l v, Ak a.tmps s = v ∧ (∃ a l c, v = .slice a l c) ∧ (∀ β, l = some β → G.loc b = some β) ∧ ∀ G' : Gh, G'.S = G.S → G'.loc nb = l → G'.hd nb = v → CE P w G' nb (.vec e (rows.take len)) := by
  rcases hblk with ⟨a0, g1, g2, g3⟩ | ⟨β, cap, arr, el, g0, g1, g2, g3, g4, g5, g6⟩
  ·have h0 : len = 0 := by rw [g2] at hle; simpa using hle
   rw [g1] at k1; cases k1
   refine ⟨none, _, k3, ⟨_, _, _, rfl⟩, fun β hβ => (by cases hβ), fun G' _ h1 h2 => .inl ⟨p, ?_, by rw [g2]; simp, h1⟩⟩
   rw [h2, h0]
  ·rw [g1] at k1; cases k1
   by_cases h0 : 0 < cap1
   case neg =>
    have hz : len = 0 := by omega
    refine ⟨none, _, k3, ⟨_, _, _, rfl⟩, fun β hβ => (by cases hβ), fun G' _ h1 h2 => .inl ⟨p, ?_, by rw [hz, List.take_zero], h1⟩⟩
    rw [h2, hz, show cap1 - 0 = 0 by omega]
   refine ⟨some β, .slice (some ⟨β, 0, none⟩) len cap1, ?_, ⟨_, _, _, rfl⟩, fun β' hβ => (by cases hβ; exact g0), fun G' hS h1 h2 => .inr ⟨β, cap1, arr, el, h1, by rw [h2, hlen], g2, by rw [hlen]; omega, g4, ?_, ?_⟩⟩
   ·rw [k3, k4 h0]; simp [Nat.zero_mul, Addr.add]
   ·intro i row hi
    rw [List.getElem?_take] at hi
    split at hi
    ·exact g5 i row hi
    ·cases hi
   ·intro i row j t hi hj
    rw [List.getElem?_take] at hi
    split at hi
    ·rw [hS]; exact g6 i row j t hi hj
    ·cases hi
 obtain ⟨hl0, hl, hk⟩ := hl
 have hext : G.ext (G.set nb l v) (fun b => (st.bx b).isSome = true) := Gh.set_ext _ _ _ _ (by simp [hnb])
 have h1 : BM P X (G.set nb l v) ⟨st.env, (St.setB (St.setB st nb (.vec e (rows.take len))) b .gone).bx⟩ a w := by
  refine h.frame ?_ hext (fun _ _ => rfl) ?_ ?_ ?_ h.S_lt h.S_src h.below (Gh.set_lent _ _ hltn)
  ·intro c hc; simp only [St.setB]; split <;> (try split) <;> simp [hc]
  ·intro c k hc
   simp only [St.setB] at hc
   split at hc
   ·cases hc; exact .inr ⟨trivial, fun c hc => by cases hc⟩
   ·split at hc
    ·rename_i e2; subst e2; cases hc
     exact .inr ⟨hk _ rfl (by simp [Gh.set]) (by simp [Gh.set]), fun c hc => by cases hc⟩
    ·exact .inl ⟨hc, fun _ _ _ => rfl⟩
  ·intro c k β hc hr hβ
   simp only [St.setB] at hc
   rw [Gh.set_has] at hβ
   split at hc
   ·cases hc; cases hr
   ·split at hc
    ·rename_i e2; rw [if_pos e2] at hβ
     have := h.at_ok b _ β hb rfl (.inl (hl β hβ))
     exact ⟨⟨fun _ => this.1.1 hlt, this.1.2⟩, this.2⟩
    ·rename_i e2; rw [if_neg e2] at hβ; exact h.at_ok c k β hc hr hβ
  ·intro c c' k k' β hc hc' hr hr' hβ hβ'
   simp only [St.setB] at hc hc'
   rw [Gh.set_has] at hβ hβ'
   split at hc
   ·cases hc; cases hr
   rename_i hcb
   split at hc'
   ·cases hc'; cases hr'
   rename_i hcb'
   split at hc
   ·rename_i e2; rw [if_pos e2] at hβ
    split at hc'
    ·rename_i e3; rw [e2, e3]
    ·rename_i e3; rw [if_neg e3] at hβ'
     exact absurd (h.at_inj b c' _ k' β hb hc' rfl hr' (.inl (hl β hβ)) hβ').symm hcb'
   ·rename_i e2; rw [if_neg e2] at hβ
    split at hc'
    ·rename_i e3; rw [if_pos e3] at hβ'
     exact absurd (h.at_inj b c _ k β hb hc rfl hr (.inl (hl β hβ')) hβ).symm hcb
    ·rename_i e3; rw [if_neg e3] at hβ'; exact h.at_inj c c' k k' β hc hc' hr hr' hβ hβ'
 refine ⟨G.set nb l v, { h1 with env := ?_, live := ?_, blk := h1.blk, at_ok := h1.at_ok, at_inj := h1.at_inj, liveB := h1.liveB, nlt := h1.nlt, lent := h1.lent }⟩
 ·intro t d ht
  simp only [St.setB, St.put] at ht
  split at ht
  ·rename_i e2; cases ht
   rw [e2, hv]
   exact ⟨by simp [Gh.set], hl0⟩
  ·exact h1.env t d ht
 ·intro t d ht c hc
  simp only [St.setB, St.put] at ht
  split at ht
  ·cases ht
   simp [D.names, E.names, C.names] at hc
   subst hc; simp only [St.setB]; rw [if_neg (fun q => hbn q.symm)]; simp
  ·exact h1.live t d ht c hc
theorem MU {st : St} {α : Type} (f : α → List T) (xs : List α) (s b nb e len : Nat) (hs : st.env s = some (.e (.one (.view b e 0 len)))) (hb : st.bx b = some (.vec e (xs.map f))) (hnb : st.bx nb = none) (hle : 0 + len ≤ xs.length) (hlt : AL b = false) (hltn : AL nb = false) :
  DK P X st (St.setB (St.setB (St.put st (some s) (some (.e (.one (.own nb))))) nb (.vec e ((xs.take len).map f))) b .gone) :=
 NR s b nb e len _ _ hs hb hnb (by rw [List.length_map]; exact hle) (List.map_take).symm hlt hltn
end Go.Lift
namespace Go.Lift
open List renaming mem_of_getElem? → lM
open List renaming getD_eq_getElem?_getD → lD
open Go.RowKit
variable {P : Program} {X : F4} {ops : Array Oper}
section run
variable {dr : Bool} {Q : St → Prop} {r i : Nat} {st : St} {log : List (Nat × Bv)} {o : Oper} {gs : List (Operand × D)}
theorem II {S : Nat → Prop} {w : World} {v : Value} (h : B7 w S v .nil0) : ∃ a, v = .slice a 0 0 := by
 cases h with
 | nil0 a => exact ⟨a, rfl⟩
theorem My {t el : TypeId} {w : World} {a : Option Addr} {n c : Nat} {ty : TypeId} (ht : sliceB P t el = true) : (Builtin.cap_ #[t] ty #[.slice a n c]).run P w = .ok (goInt c) w := by
 unfold sliceB at ht
 split at ht
 ·rename_i e' hu
  unfold Builtin.cap_
  refine Ad (Aq hu w) ?_
  rfl
 ·cases ht
theorem PO {x : Operand} {s : Nat} {t el : TypeId} (hat : At st.env ops i X.n (.call ⟨.builtin .cap, #[x], #[t]⟩) s gs)
  (hx : opd st.env x = some (one .nil0)) (ht : sliceB P t el = true)
  (next : AH P X ops dr Q r (i + 1) (Bv.upd ⟨gs ++ [(x, one .nil0)], [], some s, some (vD (.int .i64 0)), [], []⟩ st) ((i, ⟨gs ++ [(x, one .nil0)], [], some s, some (vD (.int .i64 0)), [], []⟩) :: log)) : AH P X ops dr Q (r + 1) i st log := by
 obtain ⟨o, ho, hop, hd, hn, hg, hgp⟩ := hat.out
 refine AH.step next ⟨Af.2 ⟨hgp, hx, trivial⟩, trivial, trivial⟩ (LR.value ho hg rfl hd.symm (BA hd hn) ?_)
 intro G st a w hs hpre
 obtain ⟨hx, _⟩ := (Af.1 hpre.r).2
 obtain ⟨b, he⟩ := II (hs.opd hx : B7 w G.S (a.eval x) .nil0)
 refine ⟨.int .i64 0, w, G, ?_, hs, ?_⟩
 ·simp only [execOp, hop]
  refine C4 fun cs => ?_
  simp only [List.map_toArray, List.map_cons, List.map_nil, builtin, he]
  exact Ad (My ht) rfl
 ·rintro d ⟨⟩
  exact ⟨.val _ rfl, fun b hb => by cases hb⟩
theorem PL {x y : Operand} {t el s e : Nat} (hat : At st.env ops i X.n (.slice t x none (some y) none) s gs)
  (hx : opd st.env x = some (one .nil0)) (hy : opd st.env y = some (vD (.int .i64 0))) (ht : sliceB P t el = true) (he : EJ P el e = true)
  (next : AH P X ops dr Q r (i + 1) (Bv.upd ⟨gs ++ [(x, one .nil0), (y, vD (.int .i64 0))], [], some s, some (one .nil0), [], []⟩ st) ((i, ⟨gs ++ [(x, one .nil0), (y, vD (.int .i64 0))], [], some s, some (one .nil0), [], []⟩) :: log)) : AH P X ops dr Q (r + 1) i st log := by
 obtain ⟨o, ho, hop, hd, hn, hg, hgp⟩ := hat.out
 refine AH.step next ⟨Af.2 ⟨hgp, hx, hy, trivial⟩, trivial, trivial⟩ (LR.value ho hg rfl hd.symm (BA hd hn) ?_)
 intro G st a w hs hpre
 obtain ⟨hx, hy, _⟩ := (Af.1 hpre.r).2
 obtain ⟨p, hv⟩ := II (hs.opd hx : B7 w G.S (a.eval x) .nil0)
 have hY : a.eval y = .int .i64 0 := CS (hs.opd hy : B7 w G.S (a.eval y) (.val _))
 unfold sliceB at ht
 split at ht
 ·rename_i e' hu
  have : e' = el := by simpa using ht
  subst this
  refine ⟨.slice p 0 0, w, G, ?_, hs, ?_⟩
  ·simp only [execOp, hop, hv]
   refine Ad (w1 := w) (a := .slice p 0 0) ?_ rfl
   unfold Instr.sliceAt
   refine Ad (Aq hu w) ?_
   unfold Instr.slice
   refine Ad (Aq hu w) ?_
   refine Ad (a := (0, 0, 0)) (w1 := w) ?_ ?_
   ·simp only [Option.map_some, Option.map_none, hY]
    unfold Instr.sliceBounds
    refine Ad (a := 0) (w1 := w) rfl ?_
    refine Ad (a := 0) (w1 := w) (DS (P := P) (k := .i64) (v := 0) (by omega) (by simp) w) ?_
    exact Ad (a := 0) (w1 := w) rfl rfl
   ·refine Ad (BR he w) ?_
    rfl
  ·rintro d ⟨⟩
   exact ⟨.nil0 _, fun b hb => by cases hb⟩
 ·cases ht
theorem O2 {zc : Array Value} {n e i j : Nat} (hze : zc.size = e) (hi : i < n) (hj : j < e) : Ak (Builtin.zeroCells zc n) (i * e + j) = Ak zc j := by
 have hle : i * e + e ≤ n * e := by rw [← Nat.succ_mul]; exact Nat.mul_le_mul_right e hi
 have hlt : i * e + j < n * e := by omega
 have hmod : (i * e + j) % e = j := by rw [Nat.mul_comm, Nat.mul_add_mod]; exact Nat.mod_eq_of_lt hj
 unfold Ak Builtin.zeroCells
 simp [hze, hlt, hmod, hj]
theorem Ng {t t2 el e bytes : Nat} {w : World} {z : Value} {a : Option Addr} {k : Int} {ty : TypeId} (ht : sliceB P t el = true) (ht2 : P.underlying t2 = some (.int .i64)) (he : EJ P el e = true) (hby : C6 P el bytes = true) (hbs : bytes ≤ 4096)
  (hz : CG P el = some z) (hzs : z.cells.size = e) (h0 : 0 < k) (hl : k ≤ FD) (hep : 0 < e) :
  ∃ c rest, k.toNat ≤ c ∧ (Builtin.append_ #[t, t2] ty #[.slice a 0 0, .int .i64 k]).run P w = .ok (.slice (some ⟨w.heap.size, 0, none⟩) k.toNat c) (w.drew.alloc (.cells (#[] ++ Builtin.zeroCells z.cells k.toNat ++ rest) el)) ∧ rest.size = (c - k.toNat) * e := by
 obtain ⟨olds, k1, _, k3⟩ := CJ (P := P) (w := w) (a := a) (len := 0) (cap := 0) (e := e) (S := fun _ => False)
 have : olds = #[] := Array.eq_empty_of_size_eq_zero k3
 subst this
 unfold sliceB at ht
 split at ht
 ·rename_i e' hu
  have : e' = el := by simpa using ht
  subst this
  unfold C6 at hby
  split at hby
  ·rename_i inf hinf
   have hbytes : inf.bytes = bytes := by simpa using hby
   have hlim : (FD : Int) = 4294967296 := by simp [FD]
   have hw : IntKind.i64.wrap k = k := Kj (by omega) hl
   have hb : k * (inf.bytes : Int) ≤ 17592186044416 := by
    have h1 : k.toNat * inf.bytes ≤ 4294967296 * 4096 := Nat.mul_le_mul (by omega) (by omega)
    have h2 : ((k.toNat * inf.bytes : Nat) : Int) = k * (inf.bytes : Int) := by rw [Int.natCast_mul, Int.toNat_of_nonneg (by omega)]
    omega
   have hfit : ¬ (0 + k.toNat ≤ 0) := by omega
   have hnc : Builtin.nextslicecap (0 + k.toNat) 0 * inf.bytes ≤ 281474976710656 := growslice_fits (by omega) (by
    rw [hbytes]
    exact Nat.le_trans (Nat.mul_le_mul (by omega : 0 + k.toNat ≤ FD) hbs) P1)
   obtain ⟨c, hc1, hc2⟩ := HU (P := P) (need := 0 + k.toNat) (cap := 0) (el := e') (w := w)
   refine ⟨c, Builtin.zeroCells z.cells (c - (0 + k.toNat)), by omega, ?_, by simp [Builtin.zeroCells, hzs]⟩
   have hne : ¬ (k.toNat * e = 0) := by
    intro h
    rcases Nat.mul_eq_zero.1 h with h | h <;> omega
   have hc3 : ¬ (((0 + k.toNat : Nat) : Int) > IntKind.i64.max ∧ (True ∨ inf.bytes = 0)) := by
    have h1 : IntKind.i64.max = 9223372036854775807 := rfl
    rw [h1]; omega
   have hc4 : ¬ (Builtin.nextslicecap (0 + k.toNat) 0 * inf.bytes > 2 ^ 48) := by omega
   unfold Builtin.append_
   refine Ad (Aq hu w) ?_
   refine Ad (BR he w) ?_
   refine Ad (Aq ht2 w) ?_
   refine Ad (a := true) (w1 := w) rfl ?_
   dsimp only
   rw [if_pos rfl]
   refine Ad (a := k) (w1 := w) rfl ?_
   rw [hw, if_neg (by omega)]
   refine Ad (DA hinf w) ?_
   rw [if_neg (by omega)]
   refine Ad (a := k.toNat) (w1 := w) rfl ?_
   simp only [hfit, if_false]
   refine Ad (DA hinf w) ?_
   rw [if_neg hc3]
   refine Ad (DA hinf w) ?_
   rw [if_neg hc4]
   refine Ad hc2 ?_
   refine Ad (DA hinf w.drew) ?_
   refine Ad (run_askRoom P w.drew _) ?_
   refine Ad (k1 w.drew rfl) ?_
   refine Ad (a := Builtin.zeroCells z.cells k.toNat) (w1 := w.drew) ?_ ?_
   ·simp only [Bool.not_true, Bool.false_eq_true, if_false, hne]
    exact Ad (Cq hz w.drew) rfl
   refine Ad (Cq hz w.drew) ?_
   simp only [Nat.zero_add]
   rfl
  ·cases hby
 ·cases ht
theorem N4 {x y : Operand} {t t2 el s e bytes : Nat} {z : Value} {zs : List Value} {rows : List (List T)} {k : Int} (hat : At st.env ops i X.n (.call ⟨.builtin .append, #[x, y], #[t, t2]⟩) s gs)
  (ht : sliceB P t el = true) (ht2 : P.underlying t2 = some (.int .i64)) (he : EJ P el e = true) (hby : C6 P el bytes = true) (hbs : bytes ≤ 4096) (hz : CG P el = some z) (hzs : z.cells.toList = zs) (hze : zs.length = e) (h1 : zs.all Eu = true) (h0 : 0 < k) (hl : k ≤ FD) (hep : 0 < e) (hrows : List.replicate k.toNat (zs.map fun v => (T.of v).nrm) = rows) :
  LR P X ops i ⟨gs ++ [(x, one .nil0), (y, vD (.int .i64 k))], [], some s, some (.e (.one (.own s))), [(s, .vec e rows)], [s]⟩ := by
 subst hrows
 obtain ⟨o, ho, hop, hd, hn, hg, hgp⟩ := hat.out
 refine LR.value ho hg rfl hd.symm (BA hd hn) ?_
 intro G st a w hs hpre
 obtain ⟨hx, hy, _⟩ := (Af.1 hpre.r).2
 have hnew := hpre.n.1
 obtain ⟨p, hv⟩ := II (hs.opd hx : B7 w G.S (a.eval x) .nil0)
 have hY : a.eval y = .int .i64 k := CS (hs.opd hy : B7 w G.S (a.eval y) (.val _))
 have hzc : z.cells.size = e := by rw [← hze, ← hzs]; simp
 obtain ⟨c, rest, hc1, hrun1, hrest⟩ := Ng (P := P) (w := w) (a := p) (ty := o.type) ht ht2 he hby hbs hz hzc h0 hl hep
 have hrun : (execOp a.eval o).run P w = .ok (.value (.slice (some ⟨w.heap.size, 0, none⟩) k.toNat c)) (w.drew.alloc (.cells (#[] ++ Builtin.zeroCells z.cells k.toNat ++ rest) el)) := by
  simp only [execOp, hop]
  refine C4 fun cs => ?_
  simp only [List.map_toArray, List.map_cons, List.map_nil, builtin, hv, hY]
  exact Ad hrun1 rfl
 have hheap : ∀ γ, γ < w.heap.size → (w.drew.alloc (.cells (#[] ++ Builtin.zeroCells z.cells k.toNat ++ rest) el)).heap[γ]? = w.heap[γ]? := fun γ hγ => by rw [Bz, if_neg (by rw [Du]; omega)]; rfl
 have hat : (w.drew.alloc (.cells (#[] ++ Builtin.zeroCells z.cells k.toNat ++ rest) el)).heap[w.heap.size]? = some (.cells (#[] ++ Builtin.zeroCells z.cells k.toNat ++ rest) el) := by rw [Bz, Du, if_pos rfl]
 have hsz : (w.drew.alloc (.cells (#[] ++ Builtin.zeroCells z.cells k.toNat ++ rest) el)).heap.size = w.heap.size + 1 := by show (w.heap.push _).size = _; simp
 have hzl : (Builtin.zeroCells z.cells k.toNat).size = k.toNat * e := by simp [Builtin.zeroCells, hzc]
 have hrow : ∀ (i : Nat) (row : List T), (List.replicate k.toNat (zs.map fun v => (T.of v).nrm))[i]? = some row → i < k.toNat ∧ row = zs.map fun v => (T.of v).nrm := fun i row hi => by
  have hlt := An hi
  simp only [List.length_replicate] at hlt
  rw [List.getElem?_replicate, if_pos hlt] at hi
  exact ⟨hlt, by simpa using hi.symm⟩
 refine ⟨_, _, G.set s (some w.heap.size) (.slice (some ⟨w.heap.size, 0, none⟩) k.toNat c), hrun, ?_, ?_⟩
 ·refine hs.newVec (gn := []) (hs.nl hn) hnew (fun b hb => by cases hb) ?_ (fun γ h1 _ => hheap γ h1) (by omega) ?_ ?_
  ·rintro β ⟨⟩
   exact ⟨hs.below.size, by omega, fun h => Nat.lt_irrefl _ (hs.S_lt _ h), fun b k hk hr hb => absurd (hs.at_ok b k _ hk hr hb).2.1 (Nat.lt_irrefl _)⟩
  ·exact (hs.below.drew).alloc (by rw [Du]; exact hs.below.size) _
  ·refine .inr ⟨w.heap.size, c, _, el, by simp [Gh.set], by simp [Gh.set], hat, by simpa using hc1, ?_, fun i row hi => by rw [(hrow i row hi).2]; simpa using hze, fun i row j t hi hj => ?_⟩
   ·simp only [Array.size_append, hzl, hrest, Array.size_empty, Nat.zero_add]
    rw [← Nat.add_mul]; congr 1; omega
   ·obtain ⟨h2, h3⟩ := hrow i row hi
    subst h3
    have hj' := An hj
    simp only [List.length_map] at hj'
    have hle : i * e + e ≤ k.toNat * e := by rw [← Nat.succ_mul]; exact Nat.mul_le_mul_right e h2
    rw [Bj (by simp [hzl]; omega), DN (by simp), Array.size_empty, Nat.sub_zero, O2 hzc h2 (by omega)]
    have hzj : z.cells.toList[j]? = some (zs[j]) := by rw [hzs]; simp [hj']
    have : t = (T.of zs[j]).nrm := by simpa [hj'] using hj.symm
    subst this
    have hc2 : Ak z.cells j = zs[j] := by
     have : z.cells[j]? = some zs[j] := by simpa using hzj
     simp [Ak, this]
    rw [hc2]
    exact (B7.of (List.all_eq_true.1 h1 _ (List.getElem_mem hj'))).nrm
 ·rintro d' ⟨⟩
  refine ⟨⟨by simp [Gh.set], _, _, _, rfl⟩, fun b hb => ?_⟩
  simp [D.names, E.names, C.names] at hb
  subst hb; simp [AI]
theorem O5 {x y : Operand} {t t2 el s e bytes : Nat} {z : Value} {zs : List Value} {rows : List (List T)} {k : Int} (hat : At st.env ops i X.n (.call ⟨.builtin .append, #[x, y], #[t, t2]⟩) s gs)
  (hx : opd st.env x = some (one .nil0)) (hy : opd st.env y = some (vD (.int .i64 k))) (hnew : st.bx s = none)
  (ht : sliceB P t el = true) (ht2 : P.underlying t2 = some (.int .i64)) (he : EJ P el e = true) (hby : C6 P el bytes = true) (hbs : bytes ≤ 4096) (hz : CG P el = some z) (hzs : z.cells.toList = zs) (hze : zs.length = e) (h1 : zs.all Eu = true) (h0 : 0 < k) (hl : k ≤ FD) (hep : 0 < e) (hrows : List.replicate k.toNat (zs.map fun v => (T.of v).nrm) = rows)
  (next : AH P X ops dr Q r (i + 1) (Bv.upd ⟨gs ++ [(x, one .nil0), (y, vD (.int .i64 k))], [], some s, some (.e (.one (.own s))), [(s, .vec e rows)], [s]⟩ st) ((i, ⟨gs ++ [(x, one .nil0), (y, vD (.int .i64 k))], [], some s, some (.e (.one (.own s))), [(s, .vec e rows)], [s]⟩) :: log)) : AH P X ops dr Q (r + 1) i st log := by
 obtain ⟨o, ho, hop, hd, hn, hg, hgp⟩ := hat.out
 exact AH.step next ⟨Af.2 ⟨hgp, hx, hy, trivial⟩, trivial, hnew, trivial⟩ (N4 hat ht ht2 he hby hbs hz hzs hze h1 h0 hl hep hrows)
theorem QC {f s : Nat} {xs : List Operand} {ds0 ds : List D} {rv : List (Nat × List (List T))} {res : D} {ts : Array TypeId} (ns : List Nat) (hc : Ao P f ds rv res) (hat : At st.env ops i X.n (.call ⟨.value (.func f), xs.toArray, ts⟩) s gs)
  (hf : Ay P f = true) (hl : xs.length = ds0.length) (hx : D4 st.env (Gd xs ds0)) (hds : ds0 = ds) (hpub : ds.all Oc = true) (hns : ns.length = rv.length) (hndl : IE ns) (hnew : JO st.bx ns) (hres : res.names.all (fun b => decide (b < rv.length)) = true)
  (next : AH P X ops dr Q r (i + 1) (Bv.upd ⟨gs ++ Gd xs ds0, [], some s, some (res.ren (nm ns)), GB ns rv, ns⟩ st) ((i, ⟨gs ++ Gd xs ds0, [], some s, some (res.ren (nm ns)), GB ns rv, ns⟩) :: log)) : AH P X ops dr Q (r + 1) i st log := by
 obtain ⟨o, ho, hop, hd, hn, hg, hgp⟩ := hat.out
 have hnd := hndl.1
 subst hds
 refine AH.step next ⟨Af.2 ⟨hgp, hx⟩, trivial, hnew⟩ ?_
 intro st a w K Q' hs hpre hK
 obtain ⟨G, hs⟩ := hs
 have hx := (Af.1 hpre.r).2
 have hw := hs.wanted hg (Af.1 hpre.r).1
 have hnew := hpre.n
 have hnew' : ∀ c, c ∈ ns → st.bx c = none := by
  have : ∀ {l : List Nat}, JO st.bx l → ∀ c, c ∈ l → st.bx c = none := by
   intro l
   induction l with
   | nil => intro _ c hc; cases hc
   | cons b l ih =>
    intro h c hc
    rcases List.mem_cons.1 hc with e | e
    ·subst e; exact h.1
    ·exact ih h.2 c e
  exact this hnew
 unfold wpOp
 rw [ho]
 simp only [hw, if_true]
 refine .inl ?_
 unfold Oper.wp
 have hrun : (execOp a.eval o).run P w = .ok (.enter f (xs.toArray.map a.eval)) w := by
  simp only [execOp, hop]
  exact Fk hf rfl
 rw [hrun]
 show Calls P f (xs.toArray.map a.eval) w _
 refine (hc w G.S (xs.toArray.map a.eval) hs.S_lt hs.gok (by simpa using hl) ?_).mono ?_
 ·intro j d hj
  have hj0 := hj
  have hlt := An hj0
  have hxj : xs[j]? = some (xs[j]'(by omega)) := by simp [show j < xs.length from by omega]
  have hop' := GA hl hx j _ d hxj hj0
  have hcell : Ak (xs.toArray.map a.eval) j = a.eval (xs[j]'(by omega)) := by simp [Ak, show j < xs.length from by omega]
  rw [hcell]
  refine (hs.opd hop').closed ?_ (fun _ h => h)
  have := List.all_eq_true.1 hpub _ (lM hj)
  simpa [Oc] using this
 ·rintro e w' ⟨v, G', rfl, hbel, hS1, hS2, hres', hvec, hvat, hvinj⟩
  show K (a.put o.dst v) w'
  rw [hd]
  -- the ghost of the caller
  let G2 : Gh := { S := fun β => G'.S β ∧ True, loc := fun c => if c ∈ ns then G'.loc (ns.idxOf c) else G.loc c, hd := fun c => if c ∈ ns then G'.hd (ns.idxOf c) else G.hd c, more := fun c => if c ∈ ns then G'.more (ns.idxOf c) else G.more c }
  have hidx : ∀ k, k < ns.length → ns.idxOf (nm ns k) = k := by
   intro k hk
   have hm := Dj hk
   have h1 : ns.idxOf (nm ns k) < ns.length := List.idxOf_lt_length_of_mem hm
   refine Kw hnd h1 hk ?_
   have h2 := List.getElem_idxOf h1
   show ns.getD (ns.idxOf (nm ns k)) 0 = nm ns k
   rw [lD, List.getElem?_eq_getElem h1, Option.getD_some, h2]
  have hvia : G'.via G2 (nm ns) (fun b => b < ns.length) := ⟨fun β h => ⟨h, trivial⟩, fun b hb => by simp only [G2]; rw [if_pos (Dj hb), hidx b hb], fun b hb => by simp only [G2]; rw [if_pos (Dj hb), hidx b hb], fun b hb => by simp only [G2]; rw [if_pos (Dj hb), hidx b hb]⟩
  have hext : G.ext G2 (fun b => (st.bx b).isSome = true) := by
   have : ∀ b, (st.bx b).isSome = true → b ∉ ns := fun b hb hm => by rw [hnew' b hm] at hb; cases hb
   exact ⟨fun β h => ⟨hS1 β h, trivial⟩, fun b hb => by simp only [G2]; rw [if_neg (this b hb)], fun b hb => by simp only [G2]; rw [if_neg (this b hb)], fun b hb => by simp only [G2]; rw [if_neg (this b hb)]⟩
  have hwS : ∀ β, G.S β → w'.heap[β]? = w.heap[β]? := fun β hβ => hbel.block β (hs.S_lt β hβ)
  have hsz := hbel.size
  have hle := hs.below.size
  have hS3 : ∀ β, G2.S β → G.S β ∨ (w.heap.size ≤ β ∧ β < w'.heap.size) := fun β h => hS2 β h.1
  have hvg := fun c => H0 (bx := st.bx) (ns := ns) (rv := rv) (c := c) hns hnd
  have hblk : ∀ c k, AI st.bx (GB ns rv) c = some k → (c ∉ ns ∧ st.bx c = some k) ∨ (∃ m x, m < ns.length ∧ nm ns m = c ∧ rv[m]? = some x ∧ k = .vec x.1 x.2) := by
   intro c k hc
   by_cases hm : c ∈ ns
   ·obtain ⟨m, hm1, hm2⟩ := Jw hm
    have hrx : rv[m]? = some (rv[m]'(by omega)) := by simp [show m < rv.length from by omega]
    have := (hvg c).2 m _ hrx
    rw [hm2, hc] at this
    exact .inr ⟨m, _, hm1, hm2, hrx, by simpa using this⟩
   ·rw [(hvg c).1 hm] at hc; exact .inl ⟨hm, hc⟩
  have key : BM P X G2 ⟨st.env, AI st.bx (GB ns rv)⟩ a w' := by
   refine hs.frame ?_ hext hwS ?_ ?_ ?_ ?_ ?_ (hs.below.trans (.of (hbel.mono hle))) (fun b hb => by
    have : b ∉ ns := fun hm => by rw [hndl.2 b hm] at hb; cases hb
    simp only [G2]; rw [if_neg this, if_neg this, if_neg this]; exact ⟨rfl, rfl, rfl⟩)
   ·intro c hc
    have hm : c ∉ ns := fun hm => by rw [hnew' c hm] at hc; cases hc
    rw [(hvg c).1 hm]; exact hc
   ·intro c k hc
    rcases hblk c k hc with ⟨_, h1⟩ | ⟨m, x, h1, h2, h3, h4⟩
    ·exact .inl ⟨h1, fun β hr hβ => hbel.block β (hs.at_ok c k β h1 hr hβ).2.1⟩
    ·subst h4
     refine .inr ⟨?_, fun c hc => by cases hc⟩
     rw [← h2]
     exact (hvec m x h3).ren hvia h1 (fun c hc => by cases hc)
   ·intro c k β hc hr hβ
    rcases hblk c k hc with ⟨h0, h1⟩ | ⟨m, x, h1, h2, h3, h4⟩
    ·have hβ := (hext.has (by rw [h1]; rfl)).1 hβ
     have := hs.at_ok c k β h1 hr hβ
     refine ⟨this.1, by omega, fun h => ?_⟩
     rcases hS3 β h with h | h
     ·exact this.2.2 h
     ·omega
    ·rw [← h2, hvia.has h1] at hβ
     have := hvat m β (by omega) hβ
     exact ⟨.new (by omega), this.2.1, fun h => this.2.2 h.1⟩
   ·intro c c' k k' β hc hc' hr hr' hβ hβ'
    rcases hblk c k hc with ⟨h0, h1⟩ | ⟨m, x, h1, h2, h3, h4⟩ <;> rcases hblk c' k' hc' with ⟨h0', h1'⟩ | ⟨m', x', h1', h2', h3', h4'⟩
    ·have hβ := (hext.has (by rw [h1]; rfl)).1 hβ
     have hβ' := (hext.has (by rw [h1']; rfl)).1 hβ'
     exact hs.at_inj c c' k k' β h1 h1' hr hr' hβ hβ'
    ·have hβ := (hext.has (by rw [h1]; rfl)).1 hβ
     rw [← h2', hvia.has h1'] at hβ'
     have h5 := hvat m' β (by omega) hβ'
     have h6 := (hs.at_ok c k β h1 hr hβ).2.1
     omega
    ·have hβ' := (hext.has (by rw [h1']; rfl)).1 hβ'
     rw [← h2, hvia.has h1] at hβ
     have h5 := hvat m β (by omega) hβ
     have h6 := (hs.at_ok c' k' β h1' hr' hβ').2.1
     omega
    ·rw [← h2, hvia.has h1] at hβ
     rw [← h2', hvia.has h1'] at hβ'
     have := hvinj m m' β (by omega) (by omega) hβ hβ'
     rw [← h2, ← h2', this]
   ·intro β h
    rcases hS3 β h with h | h
    ·have := hs.S_lt β h; omega
    ·exact h.2
   ·intro β h
    rcases hS3 β h with h | h
    ·exact hs.S_src β h
    ·exact .inr (by omega)
  have hrn : ∀ b, b ∈ res.names → b < ns.length := fun b hb => by
   have := List.all_eq_true.1 hres b hb
   rw [hns]; simpa using this
  refine hK _ _ ⟨G2, key.put (some s) (some (res.ren (nm ns))) v (by intro t e; cases e; exact hn) ?_⟩
  rintro d ⟨⟩
  refine ⟨hres'.ren hvia hrn, fun b hb => ?_⟩
  obtain ⟨b0, h1, h2⟩ := GT hb
  have hrx : rv[b0]? = some (rv[b0]'(by have := hrn b0 h1; omega)) := by simp [show b0 < rv.length from by have := hrn b0 h1; omega]
  show (AI st.bx (GB ns rv) b).isSome = true
  rw [h2, (hvg b).2 b0 _ hrx]; rfl
end run
end Go.Lift
namespace Go.Lift
def Au (n : Int) : List T := [.val (.int .i64 n)]
def Er (n : Int) : List T := [.val (.int .u8 n)]
abbrev KP (n : Int) : T := .val (.int .i64 n)
abbrev tB (b : Bool) : T := .val (.bool b)
def eB (b : Bool) : List T := [.val (.bool b)]
def DH {α : Type} (f : α → List T) (xs : List α) : List T := [.sl (xs.map f)]
theorem L3 : O7 Au := ⟨by intro x y h; simpa [Au] using h⟩
theorem Tw : O7 Er := ⟨by intro x y h; simpa [Er] using h⟩
theorem T9 : O7 eB := ⟨by intro x y h; simpa [eB] using h⟩
theorem S4 {α : Type} {f : α → List T} (h : O7 f) : O7 (DH f) := ⟨by intro x y hx; simp only [DH, List.cons.injEq, T.sl.injEq, and_true] at hx; exact Il h.inj _ _ hx⟩
structure As where
 fc : Int
 ff : Int
 fk : Int
 fq : Bool
 fh : List (List Bool)
 fi : List (List Bool)
def AA (x : As) : List T := [.val (.int .i64 x.fc), .val (.int .i64 x.ff), .val (.int .i64 x.fk), .val (.bool x.fq), .sl (x.fh.map (DH eB)), .sl (x.fi.map (DH eB))]
structure Ae where
 fa : List Int
 fj : List Int
 fm : List Int
 fb : List As
def M9 (x : Ae) : List T := [.sl (x.fa.map Au), .sl (x.fj.map Au), .sl (x.fm.map Au), .sl (x.fb.map AA)]
structure Aa where
 fu : Int
 fr : Int
 ft : Int
def Ab (x : Aa) : List T := [.val (.int .i64 x.fu), .val (.int .i64 x.fr), .val (.int .i64 x.ft)]
theorem KF : O7 Ab := ⟨by
 rintro ⟨a1, a2, a3⟩ ⟨b1, b2, b3⟩ h
 simp only [Ab, List.cons.injEq, T.val.injEq, Value.int.injEq, and_true, true_and] at h
 obtain ⟨h1, h2, h3⟩ := h
 subst h1
 subst h2
 subst h3
 rfl⟩
def He (a b : Aa) : Bool := decide (a.fu = b.fu) && decide (a.fr = b.fr) && decide (a.ft = b.ft)
theorem JD {a b : Aa} (h : He a b = true) : a = b := by
 cases a; cases b; simp only [He, Bool.and_eq_true, decide_eq_true_eq] at h
 obtain ⟨⟨h1, h2⟩, h3⟩ := h
 subst h1
 subst h2
 subst h3
 rfl
structure Ar where
 fe : List Int
 fd : List Int
 fg : List Int
def FO (x : Ar) : List T := [.sl (x.fe.map Au), .sl (x.fd.map Au), .sl (x.fg.map Er)]
structure Am where
 fc : Int
 fo : Int
 fv : Int
def Av (x : Am) : List T := [.val (.int .i64 x.fc), .val (.int .i64 x.fo), .val (.int .i64 x.fv)]
theorem Kn : O7 Av := ⟨by
 rintro ⟨a1, a2, a3⟩ ⟨b1, b2, b3⟩ h
 simp only [Av, List.cons.injEq, T.val.injEq, Value.int.injEq, and_true, true_and] at h
 obtain ⟨h1, h2, h3⟩ := h
 subst h1
 subst h2
 subst h3
 rfl⟩
structure AD where
 fp : Ar
 ff : Int
 fw : Am
 fd : List Int
def AO (x : AD) : List T := [.sl (x.fp.fe.map Au), .sl (x.fp.fd.map Au), .sl (x.fp.fg.map Er), .val (.int .i64 x.ff), .val (.int .i64 x.fw.fc), .val (.int .i64 x.fw.fo), .val (.int .i64 x.fw.fv), .sl (x.fd.map Au)]
theorem M2 : O7 AO := ⟨by
 rintro ⟨⟨a1, a2, a3⟩, a4, ⟨a5, a6, a7⟩, a8⟩ ⟨⟨b1, b2, b3⟩, b4, ⟨b5, b6, b7⟩, b8⟩ h
 simp only [AO, List.cons.injEq, T.val.injEq, T.sl.injEq, Value.int.injEq, and_true, true_and] at h
 obtain ⟨h1, h2, h3, h4, h5, h6, h7, h8⟩ := h
 have h1 := Il L3.inj _ _ h1
 subst h1
 have h2 := Il L3.inj _ _ h2
 subst h2
 have h3 := Il Tw.inj _ _ h3
 subst h3
 subst h4
 subst h5
 subst h6
 subst h7
 have h8 := Il L3.inj _ _ h8
 subst h8
 rfl⟩
open IntKind renaming wrap → wI
def CO (_ : Nat) (p0 : As) : Option Bool :=
 BJ (fun (v1 : Bool) =>
  some v1)
 fun j1 =>
 AJ ((p0.fc == 3))
  (j1 true)
  (j1 (p0.fc == 4))
def Bs (N : Nat) (p0 : List (List Bool)) (p1 : Int) (p2 : Int) (j2 : Unit → Option Bool) : Nat → Int → Option Bool
 | 0, _ => none
 | n2 + 1, v2 =>
  AJ ((decide (v2 < p1)))
   ((BP p0 v2).bind fun v5 =>
   AJ (((v5.length : Int) != p2))
    (some false)
    (Bs N p0 p1 p2 j2 n2 (wI .i64 (v2 + 1))))
   (j2 ())
def Cc (N : Nat) (p0 : List (List Bool)) (p1 : Int) (p2 : Int) : Option Bool :=
 AJ (((p0.length : Int) != p1))
  (some false)
  (Bs N p0 p1 p2 (fun (_ : Unit) =>
   some true) N 0)
def Bg (N : Nat) (p1 : As) (j22 : Unit → Option Int) : Nat → Int → Option Int
 | 0, _ => none
 | n22 + 1, v22 =>
  AJ ((decide (v22 < (p1.fi.length : Int))))
   ((BP p1.fi v22).bind fun v25 =>
   (BP v25 v22).bind fun v26 =>
   AJ ((!v26))
    (some 1)
    (Bg N p1 j22 n22 (wI .i64 (v22 + 1))))
   (j22 ())
def CZ (N : Nat) (p0 : Ae) (p1 : As) : Option Int :=
 BJ (fun (v1 : Bool) =>
  AJ v1
   (some 1)
   (BJ (fun (v7 : Bool) =>
    AJ v7
     (some 4)
     ((BP p0.fa p1.ff).bind fun v12 =>
     (BP p0.fa p1.fk).bind fun v13 =>
     (Cc N p1.fh v12 v13).bind fun v14 =>
     AJ ((!v14))
      (some 6)
      (AJ ((p1.fc != 4))
       (AJ (((p1.fi.length : Int) != 0))
        (some 6)
        (some 0))
       ((BP p0.fa p1.ff).bind fun v18 =>
       (BP p0.fa p1.ff).bind fun v19 =>
       (Cc N p1.fi v18 v19).bind fun v20 =>
       AJ ((!v20))
        (some 6)
        (Bg N p1 (fun (_ : Unit) =>
         some 0) N 0)))))
   fun j7 =>
   AJ ((decide (p1.ff < 0)))
    (j7 true)
    (AJ ((decide ((p0.fa.length : Int) ≤ p1.ff)))
     (j7 true)
     (AJ ((decide (p1.fk < 0)))
      (j7 true)
      (j7 (decide ((p0.fa.length : Int) ≤ p1.fk)))))))
 fun j1 =>
 AJ ((decide (p1.fc < 1)))
  (j1 true)
  (AJ ((decide (4 < p1.fc)))
   (j1 true)
   (AJ p1.fq
    ((CO N p1).bind fun v5 =>
    j1 v5)
    (j1 false)))
def AS (N : Nat) (p0 : Ae) (j7 : Unit → Option Int) : Nat → Int → Option Int
 | 0, _ => none
 | n7 + 1, v7 =>
  AJ ((decide (v7 < (p0.fa.length : Int))))
   ((BP p0.fa v7).bind fun v10 =>
   BJ (fun (v11 : Bool) =>
    AJ v11
     (some 7)
     (AS N p0 j7 n7 (wI .i64 (v7 + 1))))
   fun j11 =>
   AJ ((decide (v10 < 1)))
    (j11 true)
    (AJ ((decide (6 < v10)))
     (j11 true)
     ((BP p0.fj v7).bind fun v14 =>
     AJ ((decide (v14 < 0)))
      (j11 true)
      ((BP p0.fj v7).bind fun v16 =>
      AJ ((decide (v10 ≤ v16)))
       (j11 true)
       ((BP p0.fm v7).bind fun v18 =>
       AJ ((decide (v18 < 0)))
        (j11 true)
        ((BP p0.fm v7).bind fun v20 =>
        j11 (decide (v10 ≤ v20))))))))
   (j7 ())
def AM (N : Nat) (p0 : Ae) (j22 : Unit → Option Int) : Nat → Int → Option Int
 | 0, _ => none
 | n22 + 1, v22 =>
  AJ ((decide (v22 < (p0.fb.length : Int))))
   ((BP p0.fb v22).bind fun v25 =>
   (CZ N p0 v25).bind fun v26 =>
   AJ ((v26 != 0))
    (some v26)
    (AM N p0 j22 n22 (wI .i64 (v22 + 1))))
   (j22 ())
def Bt (N : Nat) (p0 : Ae) : Option Int :=
 BJ (fun (v1 : Bool) =>
  AJ v1
   (some 3)
   (BJ (fun (v4 : Bool) =>
    AJ v4
     (some 6)
     (AS N p0 (fun (_ : Unit) =>
      AM N p0 (fun (_ : Unit) =>
       some 0) N 0) N 0))
   fun j4 =>
   AJ (((p0.fj.length : Int) != (p0.fa.length : Int)))
    (j4 true)
    (j4 ((p0.fm.length : Int) != (p0.fa.length : Int)))))
 fun j1 =>
 AJ ((decide (6 < (p0.fa.length : Int))))
  (j1 true)
  (j1 (decide (12 < (p0.fb.length : Int))))
def B0 (_ : Nat) : Option Ae :=
 some ((Ae.mk (([2, 2] : List Int)) (([0, 0] : List Int)) (([1, 1] : List Int)) (([(As.mk 1 0 1 false (([([true, false] : List Bool), ([false, true] : List Bool)] : List (List Bool))) (([] : List (List Bool))))] : List As))))
def CI (_ : Nat) (p0 : Int) (p1 : Int) : Option Bool :=
 BJ (fun (v1 : Bool) =>
  some v1)
 fun j1 =>
 AJ ((decide (0 ≤ p0)))
  (j1 (decide (p0 < p1)))
  (j1 false)
def EM (_ : Nat) (p0 : Int) (p1 : Bool) : Option Bool :=
 BJ (fun (v1 : Bool) =>
  some v1)
 fun j1 =>
 AJ ((p0 == 1))
  (j1 true)
  (AJ ((p0 == 2))
   (j1 true)
   (AJ ((p0 == 3))
    (j1 (!p1))
    (AJ ((p0 == 4))
     (j1 (!p1))
     (j1 false))))
def Cs (_ : Nat) (p0 : List Bool) (p1 : Int) : Option Bool :=
 some (((p0.length : Int) != p1))
def AX (N : Nat) (p0 : List (List Bool)) (p1 : (List Bool) → Option Bool) (j1 : Unit → Option Int) : Nat → Int → Option Int
 | 0, _ => none
 | n1 + 1, v1 =>
  AJ ((decide (v1 < (p0.length : Int))))
   ((BP p0 v1).bind fun v4 =>
   (p1 v4).bind fun v5 =>
   AJ v5
    (some v1)
    (AX N p0 p1 j1 n1 (wI .i64 (v1 + 1))))
   (j1 ())
def B9 (N : Nat) (p0 : List (List Bool)) (p1 : (List Bool) → Option Bool) : Option Int :=
 AX N p0 p1 (fun (_ : Unit) =>
  some ((-1))) N 0
def BL (N : Nat) (p0 : List (List Bool)) (p1 : (List Bool) → Option Bool) : Option Bool :=
 (B9 N p0 p1).bind fun v1 =>
 some ((decide (0 ≤ v1)))
def Dv (N : Nat) (p0 : List (List Bool)) (p1 : Int) (p2 : Int) : Option Bool :=
 BJ (fun (v1 : Bool) =>
  some v1)
 fun j1 =>
 AJ (((p0.length : Int) == p1))
  ((BL N p0 ((fun (x : List Bool) => Cs N x p2))).bind fun v3 =>
  j1 (!v3))
  (j1 false)
def BS (N : Nat) (p1 : As) (j19 : Unit → Option Int) : Nat → Int → Option Int
 | 0, _ => none
 | n19 + 1, v19 =>
  AJ ((decide (v19 < (p1.fi.length : Int))))
   ((BP p1.fi v19).bind fun v22 =>
   (BP v22 v19).bind fun v23 =>
   AJ ((!v23))
    (some 1)
    (BS N p1 j19 n19 (wI .i64 (v19 + 1))))
   (j19 ())
def En (N : Nat) (p0 : Ae) (p1 : As) : Option Int :=
 (EM N p1.fc p1.fq).bind fun v1 =>
 AJ ((!v1))
  (some 1)
  (BJ (fun (v3 : Bool) =>
   AJ v3
    (some 4)
    ((BP p0.fa p1.ff).bind fun v8 =>
    BJ (fun (v9 : Bool) =>
     AJ v9
      (some 6)
      (BS N p1 (fun (_ : Unit) =>
       some 0) N 0))
    fun j9 =>
    (BP p0.fa p1.fk).bind fun v10 =>
    (Dv N p1.fh v8 v10).bind fun v11 =>
    AJ ((!v11))
     (j9 true)
     (AJ ((p1.fc == 4))
      ((Dv N p1.fi v8 v8).bind fun v14 =>
      AJ ((!v14))
       (j9 true)
       (AJ ((!((p1.fc == 4))))
        (j9 (decide (0 < (p1.fi.length : Int))))
        (j9 false)))
      (AJ ((!((p1.fc == 4))))
       (j9 (decide (0 < (p1.fi.length : Int))))
       (j9 false)))))
  fun j3 =>
  (CI N p1.ff ((p0.fa.length : Int))).bind fun v4 =>
  AJ ((!v4))
   (j3 true)
   ((CI N p1.fk ((p0.fa.length : Int))).bind fun v6 =>
   j3 (!v6)))
def Bf (N : Nat) (p0 : Ae) (j7 : Unit → Option Int) : Nat → Int → Option Int
 | 0, _ => none
 | n7 + 1, v7 =>
  AJ ((decide (v7 < (p0.fa.length : Int))))
   ((BP p0.fa v7).bind fun v10 =>
   BJ (fun (v11 : Bool) =>
    AJ v11
     (some 7)
     (Bf N p0 j7 n7 (wI .i64 (v7 + 1))))
   fun j11 =>
   AJ ((decide (v10 < 1)))
    (j11 true)
    (AJ ((decide (6 < v10)))
     (j11 true)
     ((BP p0.fj v7).bind fun v14 =>
     (CI N v14 v10).bind fun v15 =>
     AJ ((!v15))
      (j11 true)
      ((BP p0.fm v7).bind fun v17 =>
      (CI N v17 v10).bind fun v18 =>
      j11 (!v18)))))
   (j7 ())
def Bd (N : Nat) (p0 : Ae) (j20 : Unit → Option Int) : Nat → Int → Option Int
 | 0, _ => none
 | n20 + 1, v20 =>
  AJ ((decide (v20 < (p0.fb.length : Int))))
   ((BP p0.fb v20).bind fun v23 =>
   (En N p0 v23).bind fun v24 =>
   AJ ((v24 != 0))
    (some v24)
    (Bd N p0 j20 n20 (wI .i64 (v20 + 1))))
   (j20 ())
def Bb (N : Nat) (p0 : Ae) : Option Int :=
 BJ (fun (v1 : Bool) =>
  AJ v1
   (some 3)
   (BJ (fun (v4 : Bool) =>
    AJ v4
     (some 6)
     (Bf N p0 (fun (_ : Unit) =>
      Bd N p0 (fun (_ : Unit) =>
       some 0) N 0) N 0))
   fun j4 =>
   AJ (((p0.fj.length : Int) != (p0.fa.length : Int)))
    (j4 true)
    (j4 ((p0.fm.length : Int) != (p0.fa.length : Int)))))
 fun j1 =>
 AJ ((decide (6 < (p0.fa.length : Int))))
  (j1 true)
  (j1 (decide (12 < (p0.fb.length : Int))))
def BK (N : Nat) (v1 : (List Aa) × Int) (v5 : (List Aa) × Int) (v8 : List Bool) (j9 : ((List Aa)) → Option ((List Aa))) : Nat → ((List Aa) × Int) → Option ((List Aa))
 | 0, _ => none
 | n9 + 1, v9 =>
  AJ ((decide (v9.2 < (v8.length : Int))))
   (BJ (fun (v12 : (List Aa)) =>
    BK N v1 v5 v8 j9 n9 (v12, (wI .i64 (v9.2 + 1))))
   fun j12 =>
   (BP v8 v9.2).bind fun v13 =>
   AJ ((!v13))
    ((ED (v9.1.length + (([(Aa.mk v1.2 v5.2 v9.2)] : List Aa)).length ≤ FD)).bind fun _ =>
    j12 (v9.1 ++ (([(Aa.mk v1.2 v5.2 v9.2)] : List Aa))))
    (j12 v9.1))
   (j9 v9.1)
def Bw (N : Nat) (v1 : (List Aa) × Int) (v4 : As) (j5 : ((List Aa)) → Option ((List Aa))) : Nat → ((List Aa) × Int) → Option ((List Aa))
 | 0, _ => none
 | n5 + 1, v5 =>
  AJ ((decide (v5.2 < (v4.fh.length : Int))))
   ((BP v4.fh v5.2).bind fun v8 =>
   BK N v1 v5 v8 (fun (v10 : (List Aa)) =>
    Bw N v1 v4 j5 n5 (v10, (wI .i64 (v5.2 + 1)))) N (v5.1, 0))
   (j5 v5.1)
def Bl (N : Nat) (p0 : Ae) (j1 : ((List Aa)) → Option ((List Aa))) : Nat → ((List Aa) × Int) → Option ((List Aa))
 | 0, _ => none
 | n1 + 1, v1 =>
  AJ ((decide (v1.2 < (p0.fb.length : Int))))
   ((BP p0.fb v1.2).bind fun v4 =>
   Bw N v1 v4 (fun (v6 : (List Aa)) =>
    Bl N p0 j1 n1 (v6, (wI .i64 (v1.2 + 1)))) N (v1.1, 0))
   (j1 v1.1)
def Cj (N : Nat) (p0 : Ae) : Option ((List Aa)) :=
 Bl N p0 (fun (v2 : (List Aa)) =>
  some v2) N (([] : List Aa), 0)
def Di (N : Nat) (p0 : Ae) : Option ((List Aa) × Int) :=
 (Bb N p0).bind fun v1 =>
 AJ ((v1 != 0))
  (some (([] : List Aa), v1))
  ((Cj N p0).bind fun v3 =>
  some (v3, 0))
def DX (N : Nat) (v5 : Aa) (v7 : (List (List Aa))) (j8 : ((List (List Aa))) → Option ((List (List Aa)))) : Nat → ((List (List Aa)) × Int) → Option ((List (List Aa)))
 | 0, _ => none
 | n8 + 1, v8 =>
  AJ ((decide (v8.2 < (v7.length : Int))))
   ((BP v7 v8.2).bind fun v11 =>
   (ED ((([v5] : List Aa)).length + v11.length ≤ FD)).bind fun _ =>
   (ED (v8.1.length + (([(([v5] : List Aa)) ++ v11] : List (List Aa))).length ≤ FD)).bind fun _ =>
   DX N v5 v7 j8 n8 (v8.1 ++ (([(([v5] : List Aa)) ++ v11] : List (List Aa))), (wI .i64 (v8.2 + 1))))
   (j8 v8.1)
def D0 (N : Nat) (p0 : List Aa) (p1 : Int) (rc : (List Aa) → Int → Option ((List (List Aa)))) (j2 : ((List (List Aa))) → Option ((List (List Aa)))) : Nat → ((List (List Aa)) × Int) → Option ((List (List Aa)))
 | 0, _ => none
 | n2 + 1, v2 =>
  AJ ((decide (v2.2 < (p0.length : Int))))
   ((BP p0 v2.2).bind fun v5 =>
   (ED ((0 : Int) ≤ (wI .i64 (v2.2 + 1)) ∧ ((wI .i64 (v2.2 + 1))).toNat ≤ p0.length ∧ p0.length ≤ p0.length)).bind fun _ =>
   (rc (((p0.drop ((wI .i64 (v2.2 + 1))).toNat).take (p0.length - ((wI .i64 (v2.2 + 1))).toNat))) ((wI .i64 (p1 - 1)))).bind fun v7 =>
   DX N v5 v7 (fun (v9 : (List (List Aa))) =>
    D0 N p0 p1 rc j2 n2 (v9, (wI .i64 (v2.2 + 1)))) N (v2.1, 0))
   (j2 v2.1)
def Fi (N : Nat) (rc : (List Aa) → Int → Option ((List (List Aa)))) (p0 : List Aa) (p1 : Int) : Option ((List (List Aa))) :=
 AJ ((p1 == 0))
  (some (([([] : List Aa)] : List (List Aa))))
  (D0 N p0 p1 rc (fun (v3 : (List (List Aa))) =>
   some v3) N (([] : List (List Aa)), 0))
def Ee (N : Nat) : Nat → (List Aa) → Int → Option ((List (List Aa)))
 | 0, _, _ => none
 | k + 1, p0, p1 => Fi N (Ee N k) p0 p1
def HP (N : Nat) (p0 : List Aa) (p1 : Int) : Option ((List (List Aa))) := Ee N N p0 p1
def AZ (_ : Nat) (p0 : List Int) : Option ((List Int)) :=
 (ED ((([] : List Int)).length + p0.length ≤ FD)).bind fun _ =>
 some ((([] : List Int)) ++ p0)
def CN (_ : Nat) (p0 : List (List Bool)) : Option ((List (List Bool))) :=
 (ED ((([] : List (List Bool))).length + p0.length ≤ FD)).bind fun _ =>
 some ((([] : List (List Bool))) ++ p0)
def Cn (_ : Nat) (p0 : List Bool) : Option ((List Bool)) :=
 (ED ((([] : List Bool)).length + p0.length ≤ FD)).bind fun _ =>
 some ((([] : List Bool)) ++ p0)
def DF (N : Nat) (v1 : (List (List Bool))) (j3 : ((List (List Bool))) → Option As) : Nat → ((List (List Bool)) × Int) → Option As
 | 0, _ => none
 | n3 + 1, v3 =>
  AJ ((decide (v3.2 < (v1.length : Int))))
   ((BP v3.1 v3.2).bind fun v6 =>
   (Cn N v6).bind fun v7 =>
   (BP v3.1 v3.2).bind fun _ =>
   (ED (((v3.2).toNat) + 1 = ((wI .i64 (v3.2 + 1))).toNat)).bind fun _ =>
   DF N v1 j3 n3 (v3.1.set ((v3.2).toNat) v7, (wI .i64 (v3.2 + 1))))
   ((ED ((v3.2).toNat = v3.1.length)).bind fun _ =>
   j3 v3.1)
def Do (N : Nat) (v2 : (List (List Bool))) (j11 : ((List (List Bool))) → Option As) : Nat → ((List (List Bool)) × Int) → Option As
 | 0, _ => none
 | n11 + 1, v11 =>
  AJ ((decide (v11.2 < (v2.length : Int))))
   ((BP v11.1 v11.2).bind fun v14 =>
   (Cn N v14).bind fun v15 =>
   (BP v11.1 v11.2).bind fun _ =>
   (ED (((v11.2).toNat) + 1 = ((wI .i64 (v11.2 + 1))).toNat)).bind fun _ =>
   Do N v2 j11 n11 (v11.1.set ((v11.2).toNat) v15, (wI .i64 (v11.2 + 1))))
   ((ED ((v11.2).toNat = v11.1.length)).bind fun _ =>
   j11 v11.1)
def Fe (N : Nat) (p0 : As) : Option As :=
 (CN N p0.fh).bind fun v1 =>
 (CN N p0.fi).bind fun v2 =>
 DF N v1 (fun (v4 : (List (List Bool))) =>
  Do N v2 (fun (v12 : (List (List Bool))) =>
   some ((As.mk p0.fc p0.ff p0.fk p0.fq v4 v12))) N (v2, 0)) N (v1, 0)
def Dl (N : Nat) (p0 : Ae) (j6 : ((List As)) → Option (Ae × Int)) : Nat → ((List As) × Int) → Option (Ae × Int)
 | 0, _ => none
 | n6 + 1, v6 =>
  AJ ((decide (v6.2 < (p0.fb.length : Int))))
   ((BP p0.fb v6.2).bind fun v9 =>
   (Fe N v9).bind fun v10 =>
   (ED (v6.1.length + (([v10] : List As)).length ≤ FD)).bind fun _ =>
   Dl N p0 j6 n6 (v6.1 ++ (([v10] : List As)), (wI .i64 (v6.2 + 1))))
   (j6 v6.1)
def E0 (N : Nat) (p0 : Ae) (p1 : List Int) (p2 : List Int) : Option (Ae × Int) :=
 (Bb N p0).bind fun v1 =>
 AJ ((v1 != 0))
  (some ((Ae.mk (([] : List Int)) (([] : List Int)) (([] : List Int)) (([] : List As))), v1))
  ((AZ N p0.fa).bind fun v3 =>
  (AZ N p1).bind fun v4 =>
  (AZ N p2).bind fun v5 =>
  Dl N p0 (fun (v7 : (List As)) =>
   (Bb N ((Ae.mk v3 v4 v5 v7))).bind fun v12 =>
   AJ ((v12 != 0))
    (some ((Ae.mk (([] : List Int)) (([] : List Int)) (([] : List Int)) (([] : List As))), v12))
    (some ((Ae.mk v3 v4 v5 v7), 0))) N (([] : List As), 0))
def DY (N : Nat) (p1 : List Aa) (j2 : ((List As)) → Option Ae) : Nat → ((List As) × Int) → Option Ae
 | 0, _ => none
 | n2 + 1, v2 =>
  AJ ((decide (v2.2 < (p1.length : Int))))
   ((BP p1 v2.2).bind fun v5 =>
   (BP v2.1 v5.fu).bind fun v6 =>
   (BP v6.fh v5.fr).bind fun v7 =>
   (BP v2.1 v5.fu).bind fun _ =>
   (BP v6.fh v5.fr).bind fun _ =>
   (BP v7 v5.ft).bind fun _ =>
   DY N p1 j2 n2 (v2.1.set ((v5.fu).toNat) ((As.mk v6.fc v6.ff v6.fk v6.fq (v6.fh.set ((v5.fr).toNat) (v7.set ((v5.ft).toNat) true)) v6.fi)), (wI .i64 (v2.2 + 1))))
   (j2 v2.1)
def F2 (N : Nat) (p0 : Ae) (p1 : List Aa) : Option Ae :=
 (E0 N p0 p0.fj p0.fm).bind fun v1 =>
 DY N p1 (fun (v3 : (List As)) =>
  some ((Ae.mk v1.1.fa v1.1.fj v1.1.fm v3))) N (v1.1.fb, 0)
def E2 (_ : Nat) (p0 : Int) (p1 : Int) : Option (Int × Int) :=
 some ((wI .u32 ((FW .u64 ((wI .u64 ((wI .u64 p0) * (wI .u64 p1)))) 32))), (wI .u32 ((wI .u64 ((wI .u64 p0) * (wI .u64 p1))))))
def E3 (_ : Nat) (p0 : Int) (p1 : Int) : Option (Int × Int) :=
 some ((wI .u64 ((wI .u64 ((wI .u64 ((FW .u64 p0 32) * (FW .u64 p1 32))) + (FW .u64 ((wI .u64 ((wI .u64 ((FW .u64 p0 32) * (Gz .u64 p1 4294967295))) + (FW .u64 ((wI .u64 ((Gz .u64 p0 4294967295) * (Gz .u64 p1 4294967295)))) 32)))) 32))) + (FW .u64 ((wI .u64 ((Gz .u64 ((wI .u64 ((wI .u64 ((FW .u64 p0 32) * (Gz .u64 p1 4294967295))) + (FW .u64 ((wI .u64 ((Gz .u64 p0 4294967295) * (Gz .u64 p1 4294967295)))) 32)))) 4294967295) + (wI .u64 ((Gz .u64 p0 4294967295) * (FW .u64 p1 32)))))) 32))), (wI .u64 (p0 * p1)))
def FF (N : Nat) (p0 : Int) (p1 : Int) : Option (Int × Int) :=
 AJ false
  ((E2 N ((wI .u32 p0)) ((wI .u32 p1))).bind fun v2 =>
  some ((wI .u64 v2.1), (wI .u64 v2.2)))
  ((E3 N p0 p1).bind fun v3 =>
  some (v3.1, v3.2))
def Cm (N : Nat) (j9 : ((List Int)) → Option ((List Int))) : Nat → ((List Int) × Int) → Option ((List Int))
 | 0, _ => none
 | n9 + 1, v9 =>
  AJ ((decide (v9.2 < (v9.1.length : Int))))
   ((ED ((0 : Int) ≤ v9.2 ∧ (v9.2).toNat ≤ v9.1.length ∧ v9.1.length ≤ v9.1.length)).bind fun _ =>
   (ED ((0 : Int) ≤ v9.2 ∧ 0 ≤ (v9.2).toNat ∧ (v9.2).toNat ≤ v9.1.length)).bind fun _ =>
   Cm N j9 n9 (EW v9.1 ((v9.2).toNat) ((((v9.1.drop 0).take ((v9.2).toNat))).take (Nat.min (((v9.1.drop 0).take ((v9.2).toNat))).length ((v9.1.length - (v9.2).toNat)))), (wI .i64 (v9.2 + (((Nat.min (((v9.1.drop 0).take ((v9.2).toNat))).length ((v9.1.length - (v9.2).toNat))) : Nat) : Int)))))
   (j9 v9.1)
def DI (N : Nat) (p0 : List Int) (p1 : Int) : Option ((List Int)) :=
 BJ (fun (_ : Unit) =>
  (FF N ((wI .u64 ((p0.length : Int)))) ((wI .u64 p1))).bind fun v3 =>
  BJ (fun (_ : Unit) =>
   (ED ((0 : Int) ≤ (wI .i64 v3.2) ∧ (wI .i64 v3.2) ≤ (wI .i64 v3.2) ∧ (wI .i64 v3.2) ≤ (FD : Int))).bind fun _ =>
   Cm N (fun (v10 : (List Int)) =>
    some v10) N (EW (List.replicate ((wI .i64 v3.2)).toNat ((0 : Int))) 0 (p0.take (Nat.min p0.length ((List.replicate ((wI .i64 v3.2)).toNat ((0 : Int))).length))), (((Nat.min p0.length ((List.replicate ((wI .i64 v3.2)).toNat ((0 : Int))).length)) : Nat) : Int)))
  fun j4 =>
  BJ (fun (v5 : Bool) =>
   AJ v5
    (none)
    (j4 ()))
  fun j5 =>
  AJ ((decide (0 < v3.1)))
   (j5 true)
   (j5 (decide (9223372036854775807 < v3.2))))
 fun j1 =>
 AJ ((decide (p1 < 0)))
  (none)
  (j1 ())
def EQ (_ : Nat) (p0 : As) : Option Bool :=
 BJ (fun (v1 : Bool) =>
  some v1)
 fun j1 =>
 AJ ((p0.fc == 3))
  (j1 true)
  (j1 (p0.fc == 4))
def ER (N : Nat) (p0 : Ae) (j6 : ((List Int)) → Option (Ar × Int)) : Nat → ((List Int) × Int) → Option (Ar × Int)
 | 0, _ => none
 | n6 + 1, v6 =>
  AJ ((decide (v6.2 < (p0.fb.length : Int))))
   (BJ (fun (v9 : (List Int)) =>
    ER N p0 j6 n6 (v9, (wI .i64 (v6.2 + 1))))
   fun j9 =>
   (BP p0.fb v6.2).bind fun v10 =>
   (EQ N v10).bind fun v11 =>
   AJ v11
    ((BP p0.fj v10.ff).bind fun v13 =>
    (ED (0 ≤ v13)).bind fun _ =>
    (BP v6.1 v6.2).bind fun _ =>
    j9 (v6.1.set ((v6.2).toNat) ((GG .u8 1 v13))))
    (j9 v6.1))
   (j6 v6.1)
def HJ (N : Nat) (p0 : Ae) : Option (Ar × Int) :=
 (Bb N p0).bind fun v1 =>
 AJ ((v1 != 0))
  (some ((Ar.mk (([] : List Int)) (([] : List Int)) (([] : List Int))), v1))
  ((AZ N p0.fj).bind fun v3 =>
  (DI N (([(-1)] : List Int)) ((p0.fj.length : Int))).bind fun v4 =>
  (ED ((0 : Int) ≤ (p0.fb.length : Int) ∧ (p0.fb.length : Int) ≤ (p0.fb.length : Int) ∧ (p0.fb.length : Int) ≤ (FD : Int))).bind fun _ =>
  ER N p0 (fun (v7 : (List Int)) =>
   some ((Ar.mk v3 v4 v7), 0)) N (List.replicate ((p0.fb.length : Int)).toNat ((0 : Int)), 0))
def Em (_ : Nat) (p0 : Ar) (p1 : Int) : Option Int :=
 (BP p0.fe p1).bind fun v1 =>
 (ED (0 ≤ v1)).bind fun _ =>
 BJ (fun (v3 : Int) =>
  some v3)
 fun j3 =>
 (BP p0.fd p1).bind fun v4 =>
 AJ ((decide (0 ≤ v4)))
  ((BP p0.fd p1).bind fun v6 =>
  (ED (0 ≤ v6)).bind fun _ =>
  j3 (Qy .u8 ((GG .u8 1 v1)) ((GG .u8 1 v6))))
  (j3 (GG .u8 1 v1))
def EV (N : Nat) (p0 : Ae) (p1 : Ar) (j7 : Unit → Option Int) : Nat → Int → Option Int
 | 0, _ => none
 | n7 + 1, v7 =>
  AJ ((decide (v7 < (p0.fa.length : Int))))
   ((BP p0.fa v7).bind fun v10 =>
   BJ (fun (v11 : Bool) =>
    AJ v11
     (some 7)
     ((BP p1.fe v7).bind fun v20 =>
     (BP p1.fd v7).bind fun v21 =>
     AJ ((v20 == v21))
      (some 1)
      (EV N p0 p1 j7 n7 (wI .i64 (v7 + 1)))))
   fun j11 =>
   (BP p1.fe v7).bind fun v12 =>
   AJ ((decide (v12 < 0)))
    (j11 true)
    ((BP p1.fe v7).bind fun v14 =>
    AJ ((decide (v10 ≤ v14)))
     (j11 true)
     ((BP p1.fd v7).bind fun v16 =>
     AJ ((decide (v16 < (-1))))
      (j11 true)
      ((BP p1.fd v7).bind fun v18 =>
      j11 (decide (v10 ≤ v18))))))
   (j7 ())
def Et (N : Nat) (p0 : Ae) (p1 : Ar) (j23 : Unit → Option Int) : Nat → Int → Option Int
 | 0, _ => none
 | n23 + 1, v23 =>
  AJ ((decide (v23 < (p0.fb.length : Int))))
   ((BP p0.fb v23).bind fun v26 =>
   BJ (fun (v27 : Int × Int) =>
    BJ (fun (v33 : Bool) =>
     AJ v33
      (some 1)
      (Et N p0 p1 j23 n23 (wI .i64 (v23 + 1))))
    fun j33 =>
    (BP p1.fg v23).bind fun v34 =>
    AJ (((Ht .u8 v27.1 v34) != 0))
     (j33 true)
     ((BP p1.fg v23).bind fun v36 =>
     j33 ((Ht .u8 v36 v27.2) != 0)))
   fun j27 =>
   (EQ N v26).bind fun v28 =>
   AJ v28
    ((Em N p1 v26.ff).bind fun v30 =>
    (BP p0.fa v26.ff).bind fun v31 =>
    (ED (0 ≤ v31)).bind fun _ =>
    j27 (v30, (wI .u8 ((GG .u8 1 v31) - 1))))
    (j27 (0, 0)))
   (j23 ())
def EB (N : Nat) (p0 : Ae) (p1 : Ar) : Option Int :=
 (Bb N p0).bind fun v1 =>
 AJ ((v1 != 0))
  (some v1)
  (BJ (fun (v3 : Bool) =>
   AJ v3
    (some 6)
    (EV N p0 p1 (fun (_ : Unit) =>
     Et N p0 p1 (fun (_ : Unit) =>
      some 0) N 0) N 0))
  fun j3 =>
  AJ (((p1.fe.length : Int) != (p0.fa.length : Int)))
   (j3 true)
   (AJ (((p1.fd.length : Int) != (p0.fa.length : Int)))
    (j3 true)
    (j3 ((p1.fg.length : Int) != (p0.fb.length : Int)))))
def BQ (_ : Nat) (p0 : List Int) : Option ((List Int)) :=
 (ED ((([] : List Int)).length + p0.length ≤ FD)).bind fun _ =>
 some ((([] : List Int)) ++ p0)
def EC (N : Nat) (p1 : Ar) (j3 : ((List Int)) → Option ((List Ar) × Int)) : Nat → ((List Int) × Int) → Option ((List Ar) × Int)
 | 0, _ => none
 | n3 + 1, v3 =>
  AJ ((decide (v3.2 < (p1.fd.length : Int))))
   (BJ (fun (v6 : (List Int)) =>
    EC N p1 j3 n3 (v6, (wI .i64 (v3.2 + 1))))
   fun j6 =>
   (BP p1.fd v3.2).bind fun v7 =>
   AJ ((decide (0 ≤ v7)))
    ((ED (v3.1.length + (([v3.2] : List Int)).length ≤ FD)).bind fun _ =>
    j6 (v3.1 ++ (([v3.2] : List Int))))
    (j6 v3.1))
   (j3 v3.1)
def D9 (N : Nat) (v4 : (List Int)) (v11 : (List Ar) × Int) (j17 : ((List Int)) → Option ((List Ar) × Int)) : Nat → ((List Int) × Int) → Option ((List Ar) × Int)
 | 0, _ => none
 | n17 + 1, v17 =>
  AJ ((decide (v17.2 < (v4.length : Int))))
   (BJ (fun (v20 : (List Int)) =>
    D9 N v4 v11 j17 n17 (v20, (wI .i64 (v17.2 + 1))))
   fun j20 =>
   (BP v4 v17.2).bind fun v21 =>
   (ED (0 ≤ v17.2)).bind fun _ =>
   AJ (((Gz .i64 ((FW .i64 v11.2 v17.2)) 1) == 1))
    ((BP v17.1 v21).bind fun _ =>
    j20 (v17.1.set ((v21).toNat) ((-1))))
    (j20 v17.1))
   (j17 v17.1)
def Eb (N : Nat) (p1 : Ar) (v4 : (List Int)) (j11 : ((List Ar)) → Option ((List Ar) × Int)) : Nat → ((List Ar) × Int) → Option ((List Ar) × Int)
 | 0, _ => none
 | n11 + 1, v11 =>
  AJ ((decide (v11.2 < (GG .i64 1 ((v4.length : Int))))))
   ((AZ N p1.fe).bind fun v14 =>
   (AZ N p1.fd).bind fun v15 =>
   (BQ N p1.fg).bind fun v16 =>
   D9 N v4 v11 (fun (v18 : (List Int)) =>
    (ED (v11.1.length + (([(Ar.mk v14 v18 v16)] : List Ar)).length ≤ FD)).bind fun _ =>
    Eb N p1 v4 j11 n11 (v11.1 ++ (([(Ar.mk v14 v18 v16)] : List Ar)), (wI .i64 (v11.2 + 1)))) N (v15, 0))
   (j11 v11.1)
def G7 (N : Nat) (p0 : Ae) (p1 : Ar) : Option ((List Ar) × Int) :=
 (EB N p0 p1).bind fun v1 =>
 AJ ((v1 != 0))
  (some (([] : List Ar), v1))
  (EC N p1 (fun (v4 : (List Int)) =>
   (ED (0 ≤ (v4.length : Int))).bind fun _ =>
   Eb N p1 v4 (fun (v12 : (List Ar)) =>
    some (v12, 0)) N (([] : List Ar), 0)) N (([] : List Int), 0))
def Dw (N : Nat) (v1 : (List Aa) × Int) (v4 : As) (v6 : Int) (v11 : (List Aa) × Int) (v17 : List Bool) (j18 : ((List Aa) × Bool) → Option ((List Aa))) : Nat → ((List Aa) × Bool × Int) → Option ((List Aa))
 | 0, _ => none
 | n18 + 1, v18 =>
  AJ ((decide (v18.2.2 < (v17.length : Int))))
   (BJ (fun (v21 : (List Aa) × Bool) =>
    Dw N v1 v4 v6 v11 v17 j18 n18 (v21.1, v21.2, (wI .i64 (v18.2.2 + 1))))
   fun j21 =>
   (BP v17 v18.2.2).bind fun v22 =>
   (ED (0 ≤ v18.2.2)).bind fun _ =>
   AJ (((Gz .u8 ((FW .u8 v6 v18.2.2)) 1) == 0))
    (j21 (v18.1, v18.2.1))
    (BJ (fun (v25 : Bool) =>
     BJ (fun (v27 : Bool) =>
      AJ v27
       ((ED (v18.1.length + (([(Aa.mk v1.2 v11.2 v18.2.2)] : List Aa)).length ≤ FD)).bind fun _ =>
       j21 (v18.1 ++ (([(Aa.mk v1.2 v11.2 v18.2.2)] : List Aa)), v25))
       (j21 (v18.1, v25)))
     fun j27 =>
     AJ ((!v22))
      (j27 (!v4.fq))
      (j27 false))
    fun j25 =>
    AJ v18.2.1
     (j25 true)
     (j25 v22)))
   (j18 (v18.1, v18.2.1))
def DD (N : Nat) (v1 : (List Aa) × Int) (v4 : As) (v6 : Int) (v7 : Int) (j11 : ((List Aa)) → Option ((List Aa))) : Nat → ((List Aa) × Int) → Option ((List Aa))
 | 0, _ => none
 | n11 + 1, v11 =>
  AJ ((decide (v11.2 < (v4.fh.length : Int))))
   (BJ (fun (v14 : (List Aa)) =>
    DD N v1 v4 v6 v7 j11 n11 (v14, (wI .i64 (v11.2 + 1))))
   fun j14 =>
   (ED (0 ≤ v11.2)).bind fun _ =>
   AJ (((Gz .u8 ((FW .u8 v7 v11.2)) 1) == 0))
    (j14 v11.1)
    ((BP v4.fh v11.2).bind fun v17 =>
    Dw N v1 v4 v6 v11 v17 (fun (v19 : (List Aa) × Bool) =>
     BJ (fun (v31 : Bool) =>
      AJ v31
       ((ED (v19.1.length + (([(Aa.mk v1.2 v11.2 ((-1)))] : List Aa)).length ≤ FD)).bind fun _ =>
       j14 (v19.1 ++ (([(Aa.mk v1.2 v11.2 ((-1)))] : List Aa))))
       (j14 v19.1))
     fun j31 =>
     AJ v4.fq
      (j31 (!v19.2))
      (j31 false)) N (v11.1, false, 0)))
   (j11 v11.1)
def DM (N : Nat) (p0 : Ae) (p1 : Ar) (j1 : ((List Aa)) → Option ((List Aa))) : Nat → ((List Aa) × Int) → Option ((List Aa))
 | 0, _ => none
 | n1 + 1, v1 =>
  AJ ((decide (v1.2 < (p0.fb.length : Int))))
   ((BP p0.fb v1.2).bind fun v4 =>
   (Em N p1 v4.ff).bind fun v5 =>
   (Em N p1 v4.fk).bind fun v6 =>
   BJ (fun (v7 : Int) =>
    DD N v1 v4 v6 v7 (fun (v12 : (List Aa)) =>
     DM N p0 p1 j1 n1 (v12, (wI .i64 (v1.2 + 1)))) N (v1.1, 0))
   fun j7 =>
   (EQ N v4).bind fun v8 =>
   AJ v8
    ((BP p1.fg v1.2).bind fun v10 =>
    j7 v10)
    (j7 v5))
   (j1 v1.1)
def FE (N : Nat) (p0 : Ae) (p1 : Ar) : Option ((List Aa)) :=
 DM N p0 p1 (fun (v2 : (List Aa)) =>
  some v2) N (([] : List Aa), 0)
def EU (N : Nat) (p0 : Ae) (v1 : (List Ar) × Int) (j3 : Unit → Option (Ar × Aa × Int)) : Nat → Int → Option (Ar × Aa × Int)
 | 0, _ => none
 | n3 + 1, v3 =>
  AJ ((decide (v3 < (v1.1.length : Int))))
   ((BP v1.1 v3).bind fun v6 =>
   (FE N p0 v6).bind fun v7 =>
   AJ ((decide (0 < (v7.length : Int))))
    ((BP v7 0).bind fun v9 =>
    some (v6, v9, 0))
    (EU N p0 v1 j3 n3 (wI .i64 (v3 + 1))))
   (j3 ())
def HG (N : Nat) (p0 : Ae) (p1 : Ar) : Option (Ar × Aa × Int) :=
 (G7 N p0 p1).bind fun v1 =>
 AJ ((v1.2 != 0))
  (some ((Ar.mk (([] : List Int)) (([] : List Int)) (([] : List Int))), (Aa.mk 0 0 0), v1.2))
  (EU N p0 v1 (fun (_ : Unit) =>
   some ((Ar.mk (([] : List Int)) (([] : List Int)) (([] : List Int))), (Aa.mk 0 0 0), 15)) N 0)
def FN (N : Nat) (p0 : Ae) (p1 : Ar) : Option (Bool × Int) :=
 (HG N p0 p1).bind fun v1 =>
 AJ ((v1.2.2 == 0))
  (some (false, 0))
  (AJ ((v1.2.2 == 15))
   (some (true, 0))
   (some (false, v1.2.2)))
def Fh (N : Nat) (p0 : Ar) (j2 : ((List Int)) → Option ByteArray) : Nat → ((List Int) × Int) → Option ByteArray
 | 0, _ => none
 | n2 + 1, v2 =>
  AJ ((decide (v2.2 < (p0.fe.length : Int))))
   ((BP p0.fe v2.2).bind fun v5 =>
   (BP p0.fd v2.2).bind fun v6 =>
   (ED (v2.1.length + (([(wI .u8 v5), (wI .u8 ((wI .i64 (v6 + 1))))] : List Int)).length ≤ FD)).bind fun _ =>
   Fh N p0 j2 n2 (v2.1 ++ (([(wI .u8 v5), (wI .u8 ((wI .i64 (v6 + 1))))] : List Int)), (wI .i64 (v2.2 + 1))))
   (j2 v2.1)
def Fu (N : Nat) (p0 : Ar) (j8 : ((List Int)) → Option ByteArray) : Nat → ((List Int) × Int) → Option ByteArray
 | 0, _ => none
 | n8 + 1, v8 =>
  AJ ((decide (v8.2 < (p0.fg.length : Int))))
   ((BP p0.fg v8.2).bind fun v11 =>
   (ED (v8.1.length + (([v11] : List Int)).length ≤ FD)).bind fun _ =>
   Fu N p0 j8 n8 (v8.1 ++ (([v11] : List Int)), (wI .i64 (v8.2 + 1))))
   (j8 v8.1)
def GU (N : Nat) (p0 : Ar) : Option ByteArray :=
 (ED ((0 : Int) ≤ 0 ∧ 0 ≤ (wI .i64 ((wI .i64 (2 * (p0.fe.length : Int))) + (p0.fg.length : Int))) ∧ (wI .i64 ((wI .i64 (2 * (p0.fe.length : Int))) + (p0.fg.length : Int))) ≤ (FD : Int))).bind fun _ =>
 Fh N p0 (fun (v3 : (List Int)) =>
  Fu N p0 (fun (v9 : (List Int)) =>
   some ((GO v9))) N (v3, 0)) N (List.replicate (0 : Int).toNat ((0 : Int)), 0)
def Fr (N : Nat) (v1 : (List Am) × Int) (v4 : Int) (j5 : ((List Am)) → Option ((List Am))) : Nat → ((List Am) × Int) → Option ((List Am))
 | 0, _ => none
 | n5 + 1, v5 =>
  AJ ((decide (v5.2 < v4)))
   ((ED (v5.1.length + (([(Am.mk 1 v1.2 v5.2)] : List Am)).length ≤ FD)).bind fun _ =>
   Fr N v1 v4 j5 n5 (v5.1 ++ (([(Am.mk 1 v1.2 v5.2)] : List Am)), (wI .i64 (v5.2 + 1))))
   (j5 v5.1)
def Ft (N : Nat) (p0 : Ae) (j1 : ((List Am)) → Option ((List Am))) : Nat → ((List Am) × Int) → Option ((List Am))
 | 0, _ => none
 | n1 + 1, v1 =>
  AJ ((decide (v1.2 < (p0.fa.length : Int))))
   ((BP p0.fa v1.2).bind fun v4 =>
   Fr N v1 v4 (fun (v6 : (List Am)) =>
    Ft N p0 j1 n1 (v6, (wI .i64 (v1.2 + 1)))) N (v1.1, 0))
   (j1 v1.1)
def Fd (N : Nat) (p0 : Ae) (j9 : ((List Am)) → Option ((List Am))) : Nat → ((List Am) × Int) → Option ((List Am))
 | 0, _ => none
 | n9 + 1, v9 =>
  AJ ((decide (v9.2 < (p0.fa.length : Int))))
   ((ED (v9.1.length + (([(Am.mk 2 v9.2 0)] : List Am)).length ≤ FD)).bind fun _ =>
   Fd N p0 j9 n9 (v9.1 ++ (([(Am.mk 2 v9.2 0)] : List Am)), (wI .i64 (v9.2 + 1))))
   (j9 v9.1)
def ES (N : Nat) (p0 : Ae) (j13 : ((List Am)) → Option ((List Am))) : Nat → ((List Am) × Int) → Option ((List Am))
 | 0, _ => none
 | n13 + 1, v13 =>
  AJ ((decide (v13.2 < (p0.fb.length : Int))))
   ((ED (v13.1.length + (([(Am.mk 3 v13.2 0)] : List Am)).length ≤ FD)).bind fun _ =>
   ES N p0 j13 n13 (v13.1 ++ (([(Am.mk 3 v13.2 0)] : List Am)), (wI .i64 (v13.2 + 1))))
   (j13 v13.1)
def Ie (N : Nat) (p0 : Ae) : Option ((List Am)) :=
 Ft N p0 (fun (v2 : (List Am)) =>
  Fd N p0 (fun (v10 : (List Am)) =>
   ES N p0 (fun (v14 : (List Am)) =>
    some v14) N (v10, 0)) N (v2, 0)) N (([] : List Am), 0)
def GF (N : Nat) (p0 : Ar) : Option Ar :=
 (AZ N p0.fe).bind fun v1 =>
 (AZ N p0.fd).bind fun v2 =>
 (BQ N p0.fg).bind fun v3 =>
 some ((Ar.mk v1 v2 v3))
def Fn (_ : Nat) (p0 : As) : Option Bool :=
 BJ (fun (v1 : Bool) =>
  some v1)
 fun j1 =>
 AJ ((p0.fc == 3))
  (j1 true)
  (j1 (p0.fc == 4))
def Ey (N : Nat) (p0 : Ae) (p2 : Am) (j7 : ((List Int)) → Option (Bool × (List Int) × (List Int))) : Nat → ((List Int) × Int) → Option (Bool × (List Int) × (List Int))
 | 0, _ => none
 | n7 + 1, v7 =>
  AJ ((decide (v7.2 < (p0.fb.length : Int))))
   (BJ (fun (v10 : (List Int)) =>
    Ey N p0 p2 j7 n7 (v10, (wI .i64 (v7.2 + 1))))
   fun j10 =>
   (BP p0.fb v7.2).bind fun v11 =>
   BJ (fun (v12 : Bool) =>
    AJ v12
     ((BP v7.1 v7.2).bind fun v16 =>
     (ED (0 ≤ p2.fv)).bind fun _ =>
     (BP v7.1 v7.2).bind fun _ =>
     j10 (v7.1.set ((v7.2).toNat) ((Qy .u8 v16 ((GG .u8 1 p2.fv))))))
     (j10 v7.1))
   fun j12 =>
   AJ ((v11.ff == p2.fo))
    ((Fn N v11).bind fun v14 =>
    j12 v14)
    (j12 false))
   (j7 v7.1)
def Hf (N : Nat) (p0 : Ae) (p1 : Ar) (p2 : Am) : Option (Bool × (List Int) × (List Int)) :=
 BJ (fun (v1 : Bool) =>
  AJ v1
   (some (false, p1.fd, p1.fg))
   ((BP p1.fd p2.fo).bind fun _ =>
   Ey N p0 p2 (fun (v8 : (List Int)) =>
    some (true, p1.fd.set ((p2.fo).toNat) p2.fv, v8)) N (p1.fg, 0)))
 fun j1 =>
 (BP p1.fd p2.fo).bind fun v2 =>
 AJ ((decide (0 ≤ v2)))
  (j1 true)
  ((BP p1.fe p2.fo).bind fun v4 =>
  j1 (v4 == p2.fv))
def F5 (_ : Nat) (p0 : Ar) (p1 : Int) : Option Int :=
 (BP p0.fe p1).bind fun v1 =>
 (ED (0 ≤ v1)).bind fun _ =>
 BJ (fun (v3 : Int) =>
  some v3)
 fun j3 =>
 (BP p0.fd p1).bind fun v4 =>
 AJ ((decide (0 ≤ v4)))
  ((BP p0.fd p1).bind fun v6 =>
  (ED (0 ≤ v6)).bind fun _ =>
  j3 (Qy .u8 ((GG .u8 1 v1)) ((GG .u8 1 v6))))
  (j3 (GG .u8 1 v1))
def Da (_ : Nat) (p0 : Int) : Option Int :=
 (Qt ((⟨⟨(List.append (List.append [8, 0, 1, 0, 2, 0, 1, 0, 3, 0, 1, 0, 2, 0, 1, 0, 4, 0, 1, 0, 2, 0, 1, 0, 3, 0, 1, 0, 2, 0, 1, 0, 5, 0, 1, 0, 2, 0, 1, 0, 3, 0, 1, 0, 2, 0, 1, 0, 4, 0, 1, 0, 2, 0, 1, 0, 3, 0, 1, 0, 2, 0, 1, 0] [6, 0, 1, 0, 2, 0, 1, 0, 3, 0, 1, 0, 2, 0, 1, 0, 4, 0, 1, 0, 2, 0, 1, 0, 3, 0, 1, 0, 2, 0, 1, 0, 5, 0, 1, 0, 2, 0, 1, 0, 3, 0, 1, 0, 2, 0, 1, 0, 4, 0, 1, 0, 2, 0, 1, 0, 3, 0, 1, 0, 2, 0, 1, 0]) (List.append [7, 0, 1, 0, 2, 0, 1, 0, 3, 0, 1, 0, 2, 0, 1, 0, 4, 0, 1, 0, 2, 0, 1, 0, 3, 0, 1, 0, 2, 0, 1, 0, 5, 0, 1, 0, 2, 0, 1, 0, 3, 0, 1, 0, 2, 0, 1, 0, 4, 0, 1, 0, 2, 0, 1, 0, 3, 0, 1, 0, 2, 0, 1, 0] [6, 0, 1, 0, 2, 0, 1, 0, 3, 0, 1, 0, 2, 0, 1, 0, 4, 0, 1, 0, 2, 0, 1, 0, 3, 0, 1, 0, 2, 0, 1, 0, 5, 0, 1, 0, 2, 0, 1, 0, 3, 0, 1, 0, 2, 0, 1, 0, 4, 0, 1, 0, 2, 0, 1, 0, 3, 0, 1, 0, 2, 0, 1, 0]))⟩⟩ : ByteArray)) p0).bind fun v1 =>
 some ((wI .i64 v1))
def Dn (N : Nat) (p0 : As) (p2 : Int) (j1 : Unit → Option Bool) : Nat → Int → Option Bool
 | 0, _ => none
 | n1 + 1, v1 =>
  AJ ((v1 != 0))
   ((Da N v1).bind fun v4 =>
   (BP p0.fi v4).bind fun v5 =>
   (BP v5 p2).bind fun v6 =>
   AJ ((!v6))
    (some false)
    (Dn N p0 p2 j1 n1 (Gz .u8 v1 ((wI .u8 (v1 - 1))))))
   (j1 ())
def EY (N : Nat) (p0 : As) (p1 : Int) (p2 : Int) : Option Bool :=
 Dn N p0 p2 (fun (_ : Unit) =>
  some true) N p1
def Hc (N : Nat) (p0 : Ae) (p1 : Ar) (p2 : Int) : Option (Bool × (List Int)) :=
 (BP p0.fb p2).bind fun v1 =>
 (Fn N v1).bind fun v2 =>
 AJ ((!v2))
  (some (false, p1.fg))
  ((F5 N p1 v1.ff).bind fun v4 =>
  (BP p1.fg p2).bind fun v5 =>
  BJ (fun (v6 : Bool) =>
   AJ v6
    (some (false, p1.fg))
    ((BP p1.fg p2).bind fun _ =>
    some (true, p1.fg.set ((p2).toNat) v4)))
  fun j6 =>
  (BP p1.fg p2).bind fun v7 =>
  AJ ((v7 == v4))
   (j6 true)
   (AJ ((v1.fc == 4))
    ((BP p1.fe v1.ff).bind fun v10 =>
    (EY N v1 ((Ht .u8 v5 v4)) v10).bind fun v11 =>
    j6 (!v11))
    (j6 false)))
def FM (N : Nat) (p0 : Ae) (p1 : Ar) (p2 : Am) : Option (Ar × Bool) :=
 (GF N p1).bind fun v1 =>
 AJ ((p2.fc == 1))
  ((Hf N p0 v1 p2).bind fun v3 =>
  some ((Ar.mk v1.fe v3.2.1 v3.2.2), v3.1))
  (AJ ((p2.fc == 3))
   ((Hc N p0 v1 p2.fo).bind fun v5 =>
   some ((Ar.mk v1.fe v1.fd v5.2), v5.1))
   ((BP v1.fd p2.fo).bind fun v6 =>
   AJ ((decide (v6 < 0)))
    (some (v1, false))
    ((BP v1.fd p2.fo).bind fun _ =>
    BJ (fun (v9 : (List Int)) =>
     some ((Ar.mk v9 (v1.fd.set ((p2.fo).toNat) ((-1))) v1.fg), true))
    fun j9 =>
    AJ ((p2.fc == 2))
     ((BP v1.fe p2.fo).bind fun _ =>
     j9 (v1.fe.set ((p2.fo).toNat) v6))
     (j9 v1.fe))))
def DB (N : Nat) (p0 : Am) (p1 : List Int) (p2 : List Int) (p3 : List Int) (p4 : List As) (p5 : List Int) (p6 : List Int) (p7 : List Int) : Option Bool :=
 (FM N ((Ae.mk p1 p2 p3 p4)) ((Ar.mk p5 p6 p7)) p0).bind fun v1 =>
 some ((!v1.2))
def Bk (N : Nat) (p0 : List Am) (p1 : Am → Option Bool) (j1 : Unit → Option Int) : Nat → Int → Option Int
 | 0, _ => none
 | n1 + 1, v1 =>
  AJ ((decide (v1 < (p0.length : Int))))
   ((BP p0 v1).bind fun v4 =>
   (p1 v4).bind fun v5 =>
   AJ v5
    (some v1)
    (Bk N p0 p1 j1 n1 (wI .i64 (v1 + 1))))
   (j1 ())
def BV (N : Nat) (p0 : List Am) (p1 : Am → Option Bool) : Option Int :=
 Bk N p0 p1 (fun (_ : Unit) =>
  some ((-1))) N 0
def Bi (N : Nat) (p1 : Am → Option Bool) (j3 : ((List Am) × Int) → Option (Nat × (List Am))) : Nat → ((List Am) × Int × Int) → Option (Nat × (List Am))
 | 0, _ => none
 | n3 + 1, v3 =>
  AJ ((decide (v3.2.2 < (v3.1.length : Int))))
   (BJ (fun (v6 : (List Am) × Int) =>
    Bi N p1 j3 n3 (v6.1, v6.2, (wI .i64 (v3.2.2 + 1))))
   fun j6 =>
   (BP v3.1 v3.2.2).bind fun v7 =>
   (p1 v7).bind fun v8 =>
   AJ ((!v8))
    ((BP v3.1 v3.2.1).bind fun _ =>
    j6 (v3.1.set ((v3.2.1).toNat) v7, (wI .i64 (v3.2.1 + 1))))
    (j6 (v3.1, v3.2.1)))
   (j3 (v3.1, v3.2.1))
def BT (N : Nat) (p0 : List Am) (p1 : Am → Option Bool) : Option (Nat × (List Am)) :=
 (BV N p0 p1).bind fun v1 =>
 AJ ((v1 == (-1)))
  (some (p0.length, p0))
  (Bi N p1 (fun (v4 : (List Am) × Int) =>
   (ED ((0 : Int) ≤ v4.2 ∧ (v4.2).toNat ≤ v4.1.length ∧ v4.1.length ≤ v4.1.length)).bind fun _ =>
   (ED ((0 : Int) ≤ v4.2 ∧ 0 ≤ (v4.2).toNat ∧ (v4.2).toNat ≤ (EW v4.1 ((v4.2).toNat) (List.replicate ((v4.1.length - (v4.2).toNat)) ((Am.mk 0 0 0)))).length)).bind fun _ =>
   some ((v4.2).toNat, EW v4.1 ((v4.2).toNat) (List.replicate ((v4.1.length - (v4.2).toNat)) ((Am.mk 0 0 0))))) N (p0, v1, (wI .i64 (v1 + 1))))
def F3 (N : Nat) (p0 : Ae) (p1 : Ar) : Option ((List Am) × Int) :=
 (EB N p0 p1).bind fun v1 =>
 AJ ((v1 != 0))
  (some (([] : List Am), v1))
  ((Ie N p0).bind fun v3 =>
  (BT N v3 ((fun (x : Am) => DB N x p0.fa p0.fj p0.fm p0.fb p1.fe p1.fd p1.fg))).bind fun v4 =>
  (ED (v4.1 ≤ v4.2.length)).bind fun _ =>
  some (v4.2.take v4.1, 0))
def Hb (_ : Nat) (p0 : Am) : Option Bool :=
 BJ (fun (v1 : Bool) =>
  AJ v1
   (some false)
   (BJ (fun (v5 : Bool) =>
    some v5)
   fun j5 =>
   AJ ((p0.fc == 1))
    (j5 true)
    (j5 (p0.fv == 0))))
 fun j1 =>
 AJ ((decide ((Qp p0.fo p0.fv) < 0)))
  (j1 true)
  (AJ ((decide (p0.fc < 1)))
   (j1 true)
   (j1 (decide (4 < p0.fc))))
def Gu (_ : Nat) (p0 : Ae) (p1 : Am) : Option Bool :=
 AJ ((p1.fc == 3))
  (some ((decide (p1.fo < (p0.fb.length : Int)))))
  (BJ (fun (v2 : Bool) =>
   some v2)
  fun j2 =>
  AJ ((decide (p1.fo < (p0.fa.length : Int))))
   (AJ ((p1.fc != 1))
    (j2 true)
    ((BP p0.fa p1.fo).bind fun v5 =>
    j2 (decide (p1.fv < v5))))
   (j2 false))
def G5 (N : Nat) (p0 : Ae) (p1 : Ar) (p2 : Am) : Option (Ar × Int) :=
 (Hb N p2).bind fun v1 =>
 AJ ((!v1))
  (some ((Ar.mk (([] : List Int)) (([] : List Int)) (([] : List Int))), 1))
  ((Gu N p0 p2).bind fun v3 =>
  AJ ((!v3))
   (some ((Ar.mk (([] : List Int)) (([] : List Int)) (([] : List Int))), 4))
   ((FM N p0 p1 p2).bind fun v5 =>
   AJ ((!v5.2))
    (some ((Ar.mk (([] : List Int)) (([] : List Int)) (([] : List Int))), 11))
    (some (v5.1, 0))))
def G8 (N : Nat) (p0 : Ae) (p1 : Ar) (p2 : Am) : Option (Ar × Int) :=
 (EB N p0 p1).bind fun v1 =>
 AJ ((v1 != 0))
  (some ((Ar.mk (([] : List Int)) (([] : List Int)) (([] : List Int))), v1))
  ((G5 N p0 p1 p2).bind fun v3 =>
  some (v3.1, v3.2))
def Ea (N : Nat) (p0 : Ae) (v2 : (List AD) × (List (ByteArray × Int)) × Int) (v6 : (List Am) × Int) (j8 : ((List AD) × (List (ByteArray × Int))) → Option ((List AD) × Int)) : Nat → ((List AD) × (List (ByteArray × Int)) × Int) → Option ((List AD) × Int)
 | 0, _ => none
 | n8 + 1, v8 =>
  AJ ((decide (v8.2.2 < (v6.1.length : Int))))
   ((BP v6.1 v8.2.2).bind fun v11 =>
   (BP v8.1 v2.2.2).bind fun v12 =>
   (G8 N p0 ((Ar.mk v12.fp.fe v12.fp.fd v12.fp.fg)) v11).bind fun v13 =>
   AJ ((v13.2 != 0))
    (some (([] : List AD), v13.2))
    ((GU N v13.1).bind fun v15 =>
    BJ (fun (v16 : (List AD) × (List (ByteArray × Int)) × Int) =>
     BJ (fun (v24 : (List AD)) =>
      AJ ((decide (20000 < (v24.length : Int))))
       (some (([] : List AD), 3))
       (Ea N p0 v2 v6 j8 n8 (v24, v16.2.1, (wI .i64 (v8.2.2 + 1)))))
     fun j24 =>
     AJ ((decide (0 ≤ v16.2.2)))
      ((BP v16.1 v2.2.2).bind fun v26 =>
      (ED (v26.fd.length + (([v16.2.2] : List Int)).length ≤ FD)).bind fun _ =>
      (BP v16.1 v2.2.2).bind fun v28 =>
      j24 (v16.1.set ((v2.2.2).toNat) ((AD.mk ((Ar.mk v28.fp.fe v28.fp.fd v28.fp.fg)) v28.ff ((Am.mk v28.fw.fc v28.fw.fo v28.fw.fv)) (v26.fd ++ (([v16.2.2] : List Int)))))))
      (j24 v16.1))
    fun j16 =>
    AJ ((!((IR v15 v8.2.1).isSome)))
     (BJ (fun (v18 : (List AD) × Int) =>
      j16 (v18.1, Jy v15 v18.2 v8.2.1, v18.2))
     fun j18 =>
     (FN N p0 v13.1).bind fun v19 =>
     BJ (fun (v20 : Bool) =>
      AJ v20
       (j18 (v8.1, (-1)))
       ((ED (v8.1.length + (([(AD.mk v13.1 v2.2.2 v11 (([] : List Int)))] : List AD)).length ≤ FD)).bind fun _ =>
       j18 (v8.1 ++ (([(AD.mk v13.1 v2.2.2 v11 (([] : List Int)))] : List AD)), (v8.1.length : Int))))
     fun j20 =>
     AJ ((v19.2 != 0))
      (j20 true)
      (j20 (!v19.1)))
     (j16 (v8.1, v8.2.1, ((IR v15 v8.2.1).getD 0)))))
   (j8 (v8.1, v8.2.1))
def Eg (N : Nat) (p0 : Ae) (j2 : ((List AD)) → Option ((List AD) × Int)) : Nat → ((List AD) × (List (ByteArray × Int)) × Int) → Option ((List AD) × Int)
 | 0, _ => none
 | n2 + 1, v2 =>
  AJ ((decide (v2.2.2 < (v2.1.length : Int))))
   ((BP v2.1 v2.2.2).bind fun v5 =>
   (F3 N p0 ((Ar.mk v5.fp.fe v5.fp.fd v5.fp.fg))).bind fun v6 =>
   AJ ((v6.2 != 0))
    (some (([] : List AD), v6.2))
    (Ea N p0 v2 v6 (fun (v9 : (List AD) × (List (ByteArray × Int))) =>
     Eg N p0 j2 n2 (v9.1, v9.2, (wI .i64 (v2.2.2 + 1)))) N (v2.1, v2.2.1, 0)))
   (j2 v2.1)
def Gt (N : Nat) (p0 : Ae) (p1 : Ar) : Option ((List AD) × Int) :=
 (GU N p1).bind fun v1 =>
 Eg N p0 (fun (v3 : (List AD)) =>
  some (v3, 0)) N (([(AD.mk p1 ((-1)) ((Am.mk 0 0 0)) (([] : List Int)))] : List AD), Jy v1 0 (([] : List (ByteArray × Int))), 0)
def Cw (N : Nat) (p0 : List Int) (p1 : List Int) (j2 : Unit → Option Bool) : Nat → Int → Option Bool
 | 0, _ => none
 | n2 + 1, v2 =>
  AJ ((decide (v2 < (p0.length : Int))))
   ((BP p0 v2).bind fun v5 =>
   (BP p1 v2).bind fun v6 =>
   AJ ((v5 != v6))
    (some false)
    (Cw N p0 p1 j2 n2 (wI .i64 (v2 + 1))))
   (j2 ())
def DQ (N : Nat) (p0 : List Int) (p1 : List Int) : Option Bool :=
 AJ (((p0.length : Int) != (p1.length : Int)))
  (some false)
  (Cw N p0 p1 (fun (_ : Unit) =>
   some true) N 0)
def BZ (N : Nat) (p0 : List Int) (p1 : Int → Option Bool) (j1 : Unit → Option Int) : Nat → Int → Option Int
 | 0, _ => none
 | n1 + 1, v1 =>
  AJ ((decide (v1 < (p0.length : Int))))
   ((BP p0 v1).bind fun v4 =>
   (p1 v4).bind fun v5 =>
   AJ v5
    (some v1)
    (BZ N p0 p1 j1 n1 (wI .i64 (v1 + 1))))
   (j1 ())
def Db (N : Nat) (p0 : List Int) (p1 : Int → Option Bool) : Option Int :=
 BZ N p0 p1 (fun (_ : Unit) =>
  some ((-1))) N 0
def CT (N : Nat) (p0 : List Int) (p1 : Int → Option Bool) : Option Bool :=
 (Db N p0 p1).bind fun v1 =>
 some ((decide (0 ≤ v1)))
def FT (_ : Nat) (p0 : Int) : Option Bool :=
 some ((decide (0 ≤ p0)))
def HW (N : Nat) (p0 : Ae) (p1 : Ar) : Option Bool :=
 BJ (fun (v1 : Bool) =>
  some v1)
 fun j1 =>
 (EB N p0 p1).bind fun v2 =>
 AJ ((v2 == 0))
  ((DQ N p1.fe p0.fm).bind fun v4 =>
  AJ v4
   ((CT N p1.fd ((fun (x : Int) => FT N x))).bind fun v6 =>
   j1 (!v6))
   (j1 false))
  (j1 false)
def Es (N : Nat) (p0 : AD) (p1 : List Int) (p2 : List Int) (p3 : List Int) (p4 : List As) : Option Bool :=
 (HW N ((Ae.mk p1 p2 p3 p4)) ((Ar.mk p0.fp.fe p0.fp.fd p0.fp.fg))).bind fun v1 =>
 some v1
def Be (N : Nat) (p0 : List AD) (p1 : AD → Option Bool) (j1 : Unit → Option Int) : Nat → Int → Option Int
 | 0, _ => none
 | n1 + 1, v1 =>
  AJ ((decide (v1 < (p0.length : Int))))
   ((BP p0 v1).bind fun v4 =>
   (p1 ((AD.mk ((Ar.mk v4.fp.fe v4.fp.fd v4.fp.fg)) v4.ff ((Am.mk v4.fw.fc v4.fw.fo v4.fw.fv)) v4.fd))).bind fun v5 =>
   AJ v5
    (some v1)
    (Be N p0 p1 j1 n1 (wI .i64 (v1 + 1))))
   (j1 ())
def BN (N : Nat) (p0 : List AD) (p1 : AD → Option Bool) : Option Int :=
 Be N p0 p1 (fun (_ : Unit) =>
  some ((-1))) N 0
def Bq (N : Nat) (j1 : ((List Am)) → Option ((List Am))) : Nat → ((List Am) × Int × Int) → Option ((List Am))
 | 0, _ => none
 | n1 + 1, v1 =>
  AJ ((decide (v1.2.1 < v1.2.2)))
   ((BP v1.1 v1.2.2).bind fun v4 =>
   (BP v1.1 v1.2.1).bind fun v5 =>
   (BP v1.1 v1.2.1).bind fun _ =>
   (BP (v1.1.set ((v1.2.1).toNat) v4) v1.2.2).bind fun _ =>
   Bq N j1 n1 ((v1.1.set ((v1.2.1).toNat) v4).set ((v1.2.2).toNat) v5, (wI .i64 (v1.2.1 + 1)), (wI .i64 (v1.2.2 - 1))))
   (j1 v1.1)
def Cd (N : Nat) (p0 : List Am) : Option ((List Am)) :=
 Bq N (fun (v2 : (List Am)) =>
  some v2) N (p0, 0, (wI .i64 ((p0.length : Int) - 1)))
def Fm (N : Nat) (p0 : List AD) (j1 : ((List Am)) → Option ((List Am))) : Nat → (Int × (List Am)) → Option ((List Am))
 | 0, _ => none
 | n1 + 1, v1 =>
  (BP p0 v1.1).bind fun v3 =>
  AJ ((decide (0 ≤ v3.ff)))
   ((BP p0 v1.1).bind fun v5 =>
   (ED (v1.2.length + (([(Am.mk v5.fw.fc v5.fw.fo v5.fw.fv)] : List Am)).length ≤ FD)).bind fun _ =>
   (BP p0 v1.1).bind fun v7 =>
   Fm N p0 j1 n1 (v7.ff, v1.2 ++ (([(Am.mk v5.fw.fc v5.fw.fo v5.fw.fv)] : List Am))))
   (j1 v1.2)
def H8 (N : Nat) (p0 : List AD) (p1 : Int) : Option ((List Am)) :=
 Fm N p0 (fun (v2 : (List Am)) =>
  (Cd N v2).bind fun v8 =>
  some v8) N (p1, ([] : List Am))
def Hu (N : Nat) (p0 : Ae) (p1 : Ar) : Option ((List Am) × Int) :=
 (FN N p0 p1).bind fun v1 =>
 AJ ((v1.2 != 0))
  (some (([] : List Am), v1.2))
  (AJ ((!v1.1))
   (some (([] : List Am), 13))
   ((Gt N p0 p1).bind fun v4 =>
   AJ ((v4.2 != 0))
    (some (([] : List Am), v4.2))
    ((BN N v4.1 ((fun (x : AD) => Es N x p0.fa p0.fj p0.fm p0.fb))).bind fun v6 =>
    AJ ((decide (v6 < 0)))
     (some (([] : List Am), 14))
     ((H8 N v4.1 v6).bind fun v8 =>
     some (v8, 0)))))
def Hv (N : Nat) (p0 : Ae) : Option ((List Am) × Int) :=
 (HJ N p0).bind fun v1 =>
 AJ ((v1.2 != 0))
  (some (([] : List Am), v1.2))
  ((Hu N p0 v1.1).bind fun v3 =>
  some (v3.1, v3.2))
def Dk (N : Nat) (p0 : Ae) (p1 : List Aa) : Option (Bool × Int) :=
 (F2 N p0 p1).bind fun v1 =>
 (Hv N v1).bind fun v2 =>
 AJ ((v2.2 == 3))
  (some (false, v2.2))
  (some ((v2.2 == 0), 0))
def Ef (N : Nat) (p0 : Ae) (v7 : (List (List Aa))) (j8 : ((List (List Aa))) → Option ((List (List Aa)) × Int)) : Nat → ((List (List Aa)) × Int) → Option ((List (List Aa)) × Int)
 | 0, _ => none
 | n8 + 1, v8 =>
  AJ ((decide (v8.2 < (v7.length : Int))))
   (BJ (fun (v11 : (List (List Aa))) =>
    Ef N p0 v7 j8 n8 (v11, (wI .i64 (v8.2 + 1))))
   fun j11 =>
   (BP v7 v8.2).bind fun v12 =>
   (Dk N p0 v12).bind fun v13 =>
   AJ ((v13.2 != 0))
    (some (([] : List (List Aa)), v13.2))
    (AJ v13.1
     ((ED (v8.1.length + (([v12] : List (List Aa))).length ≤ FD)).bind fun _ =>
     j11 (v8.1 ++ (([v12] : List (List Aa)))))
     (j11 v8.1)))
   (j8 v8.1)
def Ed (N : Nat) (p0 : Ae) (j4 : Unit → Option ((List (List Aa)) × Int)) : Nat → ((List Aa) × Int) → Option ((List (List Aa)) × Int)
 | 0, _ => none
 | n4 + 1, v4 =>
  AJ ((decide (v4.2 ≤ 3)))
   ((HP N v4.1 v4.2).bind fun v7 =>
   Ef N p0 v7 (fun (v9 : (List (List Aa))) =>
    AJ ((decide (0 < (v9.length : Int))))
     (some (v9, 0))
     (Ed N p0 j4 n4 (v4.1, (wI .i64 (v4.2 + 1))))) N (([] : List (List Aa)), 0))
   (j4 ())
def Cv (N : Nat) (p0 : Ae) : Option ((List (List Aa)) × Int) :=
 (Di N p0).bind fun v1 =>
 AJ ((v1.2 != 0))
  (some (([] : List (List Aa)), v1.2))
  (AJ ((decide (24 < (v1.1.length : Int))))
   (some (([] : List (List Aa)), 3))
   (Ed N p0 (fun (_ : Unit) =>
    some (([] : List (List Aa)), 14)) N (v1.1, 0)))
def AE (N : Nat) (p0 : List Aa) (p1 : Aa) (j1 : Unit → Option Int) : Nat → Int → Option Int
 | 0, _ => none
 | n1 + 1, v1 =>
  AJ ((decide (v1 < (p0.length : Int))))
   ((BP p0 v1).bind fun v4 =>
   AJ (((p1.fu == v4.fu) && ((p1.fr == v4.fr) && ((p1.ft == v4.ft) && true))))
    (some v1)
    (AE N p0 p1 j1 n1 (wI .i64 (v1 + 1))))
   (j1 ())
def Bh (N : Nat) (p0 : List Aa) (p1 : Aa) : Option Int :=
 AE N p0 p1 (fun (_ : Unit) =>
  some ((-1))) N 0
def AR (N : Nat) (p0 : List Aa) (p1 : Aa) : Option Bool :=
 (Bh N p0 p1).bind fun v1 =>
 some ((decide (0 ≤ v1)))
def CC (N : Nat) (p1 : List Aa) (v3 : (List Aa)) (j4 : Unit → Option Int) : Nat → Int → Option Int
 | 0, _ => none
 | n4 + 1, v4 =>
  AJ ((decide (v4 < (p1.length : Int))))
   ((BP p1 v4).bind fun v7 =>
   (AR N v3 v7).bind fun v8 =>
   AJ ((!v8))
    (some 4)
    (CC N p1 v3 j4 n4 (wI .i64 (v4 + 1))))
   (j4 ())
def DR (N : Nat) (p0 : Ae) (p1 : List Aa) : Option Int :=
 (Bb N p0).bind fun v1 =>
 AJ ((v1 != 0))
  (some v1)
  ((Cj N p0).bind fun v3 =>
  CC N p1 v3 (fun (_ : Unit) =>
   some 0) N 0)
def AK (_ : Nat) (p0 : List Aa) : Option ((List Aa)) :=
 (ED ((([] : List Aa)).length + p0.length ≤ FD)).bind fun _ =>
 some ((([] : List Aa)) ++ p0)
def Ba (_ : Nat) (p0 : List Aa) (p1 : (Aa × Aa) → Option Int) : Option (List Aa) := Od p1 He p0
def Ez (_ : Nat) (p0 : Int) : Option Bool :=
 some ((p0 != p0))
def Df (N : Nat) (p0 : Int) (p1 : Int) : Option Int :=
 (Ez N p0).bind fun v1 =>
 (Ez N p1).bind fun v2 =>
 AJ v1
  (AJ v2
   (some 0)
   (some ((-1))))
  (AJ v2
   (some 1)
   (AJ ((decide (p0 < p1)))
    (some ((-1)))
    (AJ ((decide (p1 < p0)))
     (some 1)
     (some 0))))
def Ew (N : Nat) (p0 : List Int) (j1 : Unit → Option Int) : Nat → Int → Option Int
 | 0, _ => none
 | n1 + 1, v1 =>
  AJ ((decide (v1 < (p0.length : Int))))
   ((BP p0 v1).bind fun v4 =>
   AJ ((v4 != 0))
    (some v4)
    (Ew N p0 j1 n1 (wI .i64 (v1 + 1))))
   (j1 ())
def Ha (N : Nat) (p0 : List Int) : Option Int :=
 Ew N p0 (fun (_ : Unit) =>
  some 0) N 0
def Ci (N : Nat) (p0 : Aa) (p1 : Aa) : Option Int :=
 (Df N p0.fu p1.fu).bind fun v1 =>
 (Df N p0.fr p1.fr).bind fun v2 =>
 (Df N p0.ft p1.ft).bind fun v3 =>
 (Ha N (([v1, v2, v3] : List Int))).bind fun v4 =>
 some v4
def A4 (N : Nat) (p0 : List Aa) (v2 : Int) (j10 : ((List Aa) × Int) → Option (Nat × (List Aa))) : Nat → ((List Aa) × Int × Int) → Option (Nat × (List Aa))
 | 0, _ => none
 | n10 + 1, v10 =>
  AJ ((decide (v10.2.2 < ((((p0.length - (v2).toNat)) : Nat) : Int))))
   (BJ (fun (v13 : (List Aa) × Int) =>
    A4 N p0 v2 j10 n10 (v13.1, v13.2, (wI .i64 (v10.2.2 + 1))))
   fun j13 =>
   (ED (((v2).toNat) + ((p0.length - (v2).toNat)) ≤ v10.1.length)).bind fun _ =>
   (BP (((v10.1.drop ((v2).toNat)).take ((p0.length - (v2).toNat)))) v10.2.2).bind fun v14 =>
   (BP (((v10.1.drop ((v2).toNat)).take ((p0.length - (v2).toNat)))) ((wI .i64 (v10.2.2 - 1)))).bind fun v16 =>
   AJ ((!((v14.fu == v16.fu) && ((v14.fr == v16.fr) && ((v14.ft == v16.ft) && true)))))
    ((BP (((v10.1.drop ((v2).toNat)).take ((p0.length - (v2).toNat)))) v10.2.2).bind fun v18 =>
    (BP v10.1 v10.2.1).bind fun _ =>
    j13 (v10.1.set ((v10.2.1).toNat) v18, (wI .i64 (v10.2.1 + 1))))
    (j13 (v10.1, v10.2.1)))
   (j10 (v10.1, v10.2.1))
def A7 (N : Nat) (p0 : List Aa) (j2 : Unit → Option (Nat × (List Aa))) : Nat → Int → Option (Nat × (List Aa))
 | 0, _ => none
 | n2 + 1, v2 =>
  AJ ((decide (v2 < (p0.length : Int))))
   ((BP p0 v2).bind fun v5 =>
   (BP p0 ((wI .i64 (v2 - 1)))).bind fun v6 =>
   AJ (((v5.fu == v6.fu) && ((v5.fr == v6.fr) && ((v5.ft == v6.ft) && true))))
    ((ED ((0 : Int) ≤ v2 ∧ (v2).toNat ≤ p0.length ∧ p0.length ≤ p0.length)).bind fun _ =>
    A4 N p0 v2 (fun (v11 : (List Aa) × Int) =>
     (ED ((0 : Int) ≤ v11.2 ∧ (v11.2).toNat ≤ v11.1.length ∧ v11.1.length ≤ v11.1.length)).bind fun _ =>
     (ED ((0 : Int) ≤ v11.2 ∧ 0 ≤ (v11.2).toNat ∧ (v11.2).toNat ≤ (EW v11.1 ((v11.2).toNat) (List.replicate ((v11.1.length - (v11.2).toNat)) ((Aa.mk 0 0 0)))).length)).bind fun _ =>
     some ((v11.2).toNat, EW v11.1 ((v11.2).toNat) (List.replicate ((v11.1.length - (v11.2).toNat)) ((Aa.mk 0 0 0))))) N (p0, v2, 1))
    (A7 N p0 j2 n2 (wI .i64 (v2 + 1))))
   (j2 ())
def AT (N : Nat) (p0 : List Aa) : Option (Nat × (List Aa)) :=
 AJ ((decide ((p0.length : Int) < 2)))
  (some (p0.length, p0))
  (A7 N p0 (fun (_ : Unit) =>
   some (p0.length, p0)) N 1)
def BB (_ : Nat) (p0 : List Aa) (p1 : Int) (p2 : Int) : Option (Nat × (List Aa)) :=
 (ED ((0 : Int) ≤ p1 ∧ (p1).toNat ≤ (p2).toNat ∧ 0 ≤ p2 ∧ (p2).toNat ≤ ((p0.length : Int)).toNat ∧ 0 ≤ (p0.length : Int) ∧ ((p0.length : Int)).toNat ≤ p0.length)).bind fun _ =>
 AJ ((p1 == p2))
  (some (p0.length, p0))
  ((ED ((0 : Int) ≤ p1 ∧ 0 ≤ (p1).toNat ∧ (p1).toNat ≤ p0.length)).bind fun _ =>
  (ED ((0 : Int) ≤ p2 ∧ (p2).toNat ≤ p0.length ∧ p0.length ≤ p0.length)).bind fun _ =>
  (ED ((p1).toNat + (((p0.drop ((p2).toNat)).take ((p0.length - (p2).toNat)))).length ≤ p0.length)).bind fun _ =>
  (ED ((0 : Int) ≤ (((((p1).toNat + (((p0.drop ((p2).toNat)).take ((p0.length - (p2).toNat)))).length)) : Nat) : Int) ∧ (0 : Int) ≤ (p0.length : Int) ∧ ((((((p1).toNat + (((p0.drop ((p2).toNat)).take ((p0.length - (p2).toNat)))).length)) : Nat) : Int)).toNat ≤ ((p0.length : Int)).toNat ∧ ((p0.length : Int)).toNat ≤ (EW p0 (0 + ((p1).toNat)) (((p0.drop ((p2).toNat)).take ((p0.length - (p2).toNat))))).length)).bind fun _ =>
  some (((p1).toNat + (((p0.drop ((p2).toNat)).take ((p0.length - (p2).toNat)))).length), EW (EW p0 (0 + ((p1).toNat)) (((p0.drop ((p2).toNat)).take ((p0.length - (p2).toNat))))) (((((((p1).toNat + (((p0.drop ((p2).toNat)).take ((p0.length - (p2).toNat)))).length)) : Nat) : Int)).toNat) (List.replicate ((((p0.length : Int)).toNat - ((((((p1).toNat + (((p0.drop ((p2).toNat)).take ((p0.length - (p2).toNat)))).length)) : Nat) : Int)).toNat)) ((Aa.mk 0 0 0)))))
def Dd (N : Nat) (p0 : Ae) (v5 : Nat × (List Aa)) (j14 : Bool → Option (Bool × Int)) : Nat → (Bool × Int) → Option (Bool × Int)
 | 0, _ => none
 | n14 + 1, v14 =>
  AJ ((decide (v14.2 < ((v5.2.take v5.1).length : Int))))
   (BJ (fun (v17 : Bool) =>
    Dd N p0 v5 j14 n14 (v17, (wI .i64 (v14.2 + 1))))
   fun j17 =>
   (AK N (v5.2.take v5.1)).bind fun v18 =>
   (BB N v18 v14.2 ((wI .i64 (v14.2 + 1)))).bind fun v19 =>
   (ED (v19.1 ≤ v19.2.length)).bind fun _ =>
   (Dk N p0 (((v19.2.drop 0).take v19.1))).bind fun v22 =>
   AJ ((v22.2 != 0))
    (some (false, v22.2))
    (AJ v14.1
     (j17 (!v22.1))
     (j17 false)))
   (j14 v14.1)
def Cg (N : Nat) (p0 : Ae) (p1 : List Aa) : Option (Bool × Int) :=
 (DR N p0 p1).bind fun v1 =>
 AJ ((v1 != 0))
  (some (false, v1))
  ((AK N p1).bind fun v3 =>
  (Ba N v3 ((fun (x : Aa × Aa) => Ci N x.1 x.2))).bind fun v4 =>
  (AT N v4).bind fun v5 =>
  (ED (v5.1 ≤ v5.2.length)).bind fun _ =>
  BJ (fun (v8 : Bool) =>
   AJ v8
    (some (false, 3))
    ((Dk N p0 (v5.2.take v5.1)).bind fun v12 =>
    AJ ((v12.2 != 0))
     (some (false, v12.2))
     (Dd N p0 v5 (fun (v15 : Bool) =>
      some (v15, 0)) N (v12.1, 0))))
  fun j8 =>
  (Cj N p0).bind fun v9 =>
  AJ ((decide (24 < (v9.length : Int))))
   (j8 true)
   (j8 (decide (3 < ((v5.2.take v5.1).length : Int)))))
def CU (N : Nat) (p0 : Ae) : Option ((List Aa) × Int) :=
 (Cv N p0).bind fun v1 =>
 AJ ((v1.2 != 0))
  (some (([] : List Aa), v1.2))
  ((BP v1.1 0).bind fun v3 =>
  some (v3, 0))
def C1 (N : Nat) : Option Bool :=
 (B0 N).bind fun v1 =>
 (Cv N v1).bind fun v2 =>
 (B0 N).bind fun v3 =>
 (Di N v3).bind fun v4 =>
 (B0 N).bind fun v5 =>
 (Cg N v5 v4.1).bind fun v6 =>
 (B0 N).bind fun v7 =>
 (CU N v7).bind fun v8 =>
 BJ (fun (v9 : Bool) =>
  some v9)
 fun j9 =>
 AJ ((v2.2 == 0))
  (AJ ((v4.2 == 0))
   (AJ ((v6.2 == 0))
    (AJ ((v8.2 == 0))
     (AJ (((v2.1.length : Int) == 2))
      (AJ (((v4.1.length : Int) == 2))
       ((BP v4.1 0).bind fun v16 =>
       AJ (((v16.fu == 0) && ((v16.fr == 0) && ((v16.ft == 1) && true))))
        (AJ ((!v6.1))
         (AJ (((v8.1.length : Int) == 1))
          ((BP v8.1 0).bind fun v20 =>
          j9 ((v20.fu == 0) && ((v20.fr == 0) && ((v20.ft == 1) && true))))
          (j9 false))
         (j9 false))
        (j9 false))
       (j9 false))
      (j9 false))
     (j9 false))
    (j9 false))
   (j9 false))
  (j9 false)
def Br (N : Nat) (p0 : Ae) (v6 : Int) (j14 : Unit → Option Bool) : Nat → Int → Option Bool
 | 0, _ => none
 | n14 + 1, v14 =>
  (BP p0.fb v6).bind fun v16 =>
  AJ ((decide (v14 < (v16.fh.length : Int))))
   ((BP p0.fb v6).bind fun v18 =>
   (BP v18.fh v14).bind fun v19 =>
   AJ ((decide (8 < (v19.length : Int))))
    (some false)
    (Br N p0 v6 j14 n14 (wI .i64 (v14 + 1))))
   (j14 ())
def Bo (N : Nat) (p0 : Ae) (v6 : Int) (j21 : Unit → Option Bool) : Nat → Int → Option Bool
 | 0, _ => none
 | n21 + 1, v21 =>
  (BP p0.fb v6).bind fun v23 =>
  AJ ((decide (v21 < (v23.fi.length : Int))))
   ((BP p0.fb v6).bind fun v25 =>
   (BP v25.fi v21).bind fun v26 =>
   AJ ((decide (8 < (v26.length : Int))))
    (some false)
    (Bo N p0 v6 j21 n21 (wI .i64 (v21 + 1))))
   (j21 ())
def Cb (N : Nat) (p0 : Ae) (j6 : Unit → Option Bool) : Nat → Int → Option Bool
 | 0, _ => none
 | n6 + 1, v6 =>
  AJ ((decide (v6 < (p0.fb.length : Int))))
   (BJ (fun (v9 : Bool) =>
    AJ v9
     (some false)
     (Br N p0 v6 (fun (_ : Unit) =>
      Bo N p0 v6 (fun (_ : Unit) =>
       Cb N p0 j6 n6 (wI .i64 (v6 + 1))) N 0) N 0))
   fun j9 =>
   (BP p0.fb v6).bind fun v10 =>
   AJ ((decide (8 < (v10.fh.length : Int))))
    (j9 true)
    ((BP p0.fb v6).bind fun v12 =>
    j9 (decide (8 < (v12.fi.length : Int)))))
   (j6 ())
def Dg (N : Nat) (p0 : Ae) : Option Bool :=
 BJ (fun (v1 : Bool) =>
  AJ v1
   (some false)
   (Cb N p0 (fun (_ : Unit) =>
    some true) N 0))
 fun j1 =>
 AJ ((decide (8 < (p0.fa.length : Int))))
  (j1 true)
  (AJ ((decide (8 < (p0.fj.length : Int))))
   (j1 true)
   (AJ ((decide (8 < (p0.fm.length : Int))))
    (j1 true)
    (j1 (decide (14 < (p0.fb.length : Int))))))
def Bn (N : Nat) (p0 : Ae) (v1 : (List Aa) × Int) (v4 : (List Aa) × Int) (j8 : ((List Aa)) → Option ((List Aa))) : Nat → ((List Aa) × Int) → Option ((List Aa))
 | 0, _ => none
 | n8 + 1, v8 =>
  (BP p0.fb v1.2).bind fun v10 =>
  (BP v10.fh v4.2).bind fun v11 =>
  AJ ((decide (v8.2 < (v11.length : Int))))
   (BJ (fun (v13 : (List Aa)) =>
    Bn N p0 v1 v4 j8 n8 (v13, (wI .i64 (v8.2 + 1))))
   fun j13 =>
   (BP p0.fb v1.2).bind fun v14 =>
   (BP v14.fh v4.2).bind fun v15 =>
   (BP v15 v8.2).bind fun v16 =>
   AJ ((!v16))
    ((ED (v8.1.length + (([(Aa.mk v1.2 v4.2 v8.2)] : List Aa)).length ≤ FD)).bind fun _ =>
    j13 (v8.1 ++ (([(Aa.mk v1.2 v4.2 v8.2)] : List Aa))))
    (j13 v8.1))
   (j8 v8.1)
def Bc (N : Nat) (p0 : Ae) (v1 : (List Aa) × Int) (j4 : ((List Aa)) → Option ((List Aa))) : Nat → ((List Aa) × Int) → Option ((List Aa))
 | 0, _ => none
 | n4 + 1, v4 =>
  (BP p0.fb v1.2).bind fun v6 =>
  AJ ((decide (v4.2 < (v6.fh.length : Int))))
   (Bn N p0 v1 v4 (fun (v9 : (List Aa)) =>
    Bc N p0 v1 j4 n4 (v9, (wI .i64 (v4.2 + 1)))) N (v4.1, 0))
   (j4 v4.1)
def A1 (N : Nat) (p0 : Ae) (j1 : ((List Aa)) → Option ((List Aa))) : Nat → ((List Aa) × Int) → Option ((List Aa))
 | 0, _ => none
 | n1 + 1, v1 =>
  AJ ((decide (v1.2 < (p0.fb.length : Int))))
   (Bc N p0 v1 (fun (v5 : (List Aa)) =>
    A1 N p0 j1 n1 (v5, (wI .i64 (v1.2 + 1)))) N (v1.1, 0))
   (j1 v1.1)
def Cx (N : Nat) (p0 : Ae) : Option ((List Aa)) :=
 A1 N p0 (fun (v2 : (List Aa)) =>
  some v2) N (([] : List Aa), 0)
def C9 (N : Nat) (p0 : Ae) : Option ((List Aa) × Int) :=
 (Bt N p0).bind fun v1 =>
 AJ ((v1 != 0))
  (some (([] : List Aa), v1))
  ((Cx N p0).bind fun v3 =>
  some (v3, 0))
def BC (_ : Nat) (p0 : Int) : Option ((List Aa)) :=
 BJ (fun (_ : Unit) =>
  BJ (fun (v3 : (List Aa)) =>
   some v3)
  fun j3 =>
  AJ ((decide (0 < (wI .i64 (p0 - (wI .i64 (0 - ((0 : Nat) : Int))))))))
   ((ED (0 < (wI .i64 (p0 - (wI .i64 (0 - ((0 : Nat) : Int))))) ∧ (wI .i64 (p0 - (wI .i64 (0 - ((0 : Nat) : Int))))) ≤ FD)).bind fun _ =>
   (ED ((0 : Int) ≤ ((0 : Nat) : Int) ∧ 0 ≤ (((0 : Nat) : Int)).toNat ∧ (((0 : Nat) : Int)).toNat ≤ (List.replicate ((wI .i64 (p0 - (wI .i64 (0 - ((0 : Nat) : Int)))))).toNat ((Aa.mk 0 0 0))).length)).bind fun _ =>
   j3 ((List.replicate ((wI .i64 (p0 - (wI .i64 (0 - ((0 : Nat) : Int)))))).toNat ((Aa.mk 0 0 0))).take ((((0 : Nat) : Int)).toNat)))
   (j3 ([] : List Aa)))
 fun j1 =>
 AJ ((decide (p0 < 0)))
  (none)
  (j1 ())
def A8 (N : Nat) (p0 : List (List Aa)) (j1 : Int → Option ((List Aa))) : Nat → (Int × Int) → Option ((List Aa))
 | 0, _ => none
 | n1 + 1, v1 =>
  AJ ((decide (v1.2 < (p0.length : Int))))
   (BJ (fun (v4 : Int) =>
    A8 N p0 j1 n1 (v4, (wI .i64 (v1.2 + 1))))
   fun j4 =>
   (BP p0 v1.2).bind fun v5 =>
   AJ ((decide ((wI .i64 (v1.1 + (v5.length : Int))) < 0)))
    (none)
    (j4 (wI .i64 (v1.1 + (v5.length : Int)))))
   (j1 v1.1)
def A9 (N : Nat) (p0 : List (List Aa)) (j8 : ((List Aa)) → Option ((List Aa))) : Nat → ((List Aa) × Int) → Option ((List Aa))
 | 0, _ => none
 | n8 + 1, v8 =>
  AJ ((decide (v8.2 < (p0.length : Int))))
   ((BP p0 v8.2).bind fun v11 =>
   (ED (v8.1.length + v11.length ≤ FD)).bind fun _ =>
   A9 N p0 j8 n8 (v8.1 ++ v11, (wI .i64 (v8.2 + 1))))
   (j8 v8.1)
def BD (N : Nat) (p0 : List (List Aa)) : Option ((List Aa)) :=
 A8 N p0 (fun (v2 : Int) =>
  (BC N v2).bind fun v7 =>
  A9 N p0 (fun (v9 : (List Aa)) =>
   some v9) N (v7, 0)) N (0, 0)
def C5 (N : Nat) (p0 : Ae) : Option ((List Aa) × Int) :=
 (Cv N p0).bind fun v1 =>
 AJ ((v1.2 != 0))
  (some (([] : List Aa), v1.2))
  ((BD N v1.1).bind fun v3 =>
  (Ba N v3 ((fun (x : Aa × Aa) => Ci N x.1 x.2))).bind fun v4 =>
  (AT N v4).bind fun v5 =>
  (ED (v5.1 ≤ v5.2.length)).bind fun _ =>
  some (v5.2.take v5.1, 0))
def BH (N : Nat) (p0 : Ae) : Option Bool :=
 (Bt N p0).bind fun v1 =>
 BJ (fun (v2 : Bool) =>
  AJ v2
   ((C1 N).bind fun v7 =>
   some v7)
   (BJ (fun (v8 : Int) =>
    AJ ((v8 == 0))
     (some true)
     ((Cv N p0).bind fun v14 =>
     (CU N p0).bind fun v15 =>
     (C5 N p0).bind fun v16 =>
     (Cg N p0 (([] : List Aa))).bind fun v17 =>
     BJ (fun (v18 : Bool) =>
      some v18)
     fun j18 =>
     AJ ((v14.2 == v8))
      (AJ ((v15.2 == v8))
       (AJ ((v16.2 == v8))
        (AJ ((v17.2 == v8))
         (AJ (((wI .i64 ((wI .i64 ((v14.1.length : Int) + (v15.1.length : Int))) + (v16.1.length : Int))) == 0))
          (j18 (!v17.1))
          (j18 false))
         (j18 false))
        (j18 false))
       (j18 false))
      (j18 false)))
   fun j8 =>
   (C9 N p0).bind fun v9 =>
   BJ (fun (v10 : Bool) =>
    AJ v10
     (j8 3)
     (j8 v1))
   fun j10 =>
   AJ ((v9.2 == 0))
    (j10 (decide (24 < (v9.1.length : Int))))
    (j10 false)))
 fun j2 =>
 (C1 N).bind fun v3 =>
 AJ ((!v3))
  (j2 true)
  ((Dg N p0).bind fun v5 =>
  j2 (!v5))
def O0 {α : Type} (w : α → Prop) (xs : List α) : Prop := ∀ x, x ∈ xs → w x
def MX (n : Int) : Prop := (Lit.int .i64 n).wf = true
def Jv (x : As) : Prop := MX x.fc ∧ MX x.ff ∧ MX x.fk ∧ (fun _ => True) x.fq ∧ (O0 (O0 (fun _ => True))) x.fh ∧ (O0 (O0 (fun _ => True))) x.fi ∧ True
def H7 (x : Ae) : Prop := (O0 MX) x.fa ∧ (O0 MX) x.fj ∧ (O0 MX) x.fm ∧ (O0 Jv) x.fb ∧ True
open Go.RowKit
open Go.Proofs
abbrev Bu (x : As) : List C := [iC x.fc, iC x.ff, iC x.fk, .pure (.val (.bool x.fq)), sC (x.fh.map (DH eB)), sC (x.fi.map (DH eB))]
abbrev Ah (x : Ae) : List C := [sC (x.fa.map Au), sC (x.fj.map Au), sC (x.fm.map Au), sC (x.fb.map AA)]
abbrev DC (x : Aa) : List C := [iC x.fu, iC x.fr, iC x.ft]
abbrev A2 (x : Ar) : List C := [sC (x.fe.map Au), sC (x.fd.map Au), sC (x.fg.map Er)]
abbrev Dy (x : Am) : List C := [iC x.fc, iC x.fo, iC x.fv]
abbrev OE (x : AD) : List C := [sC (x.fp.fe.map Au), sC (x.fp.fd.map Au), sC (x.fp.fg.map Er), iC x.ff, iC x.fw.fc, iC x.fw.fo, iC x.fw.fv, sC (x.fd.map Au)]
theorem Aw : Tryz.prog.follows .mixedOrders = true := by kernel_rfl
theorem wq {X : F4} {y : Code} {id : Nat} {ops : Array Oper} {dr : Bool} {Q : Exit → St → Prop} {st : St} {n : Nat} (hn : ops.size = n) (h : AH Tryz.prog X ops dr (fun st' => W Tryz.prog X y Q st') n 0 st []) : W Tryz.prog X (.seq (.region id ops dr) y) Q st := Uz Aw hn h
theorem wp {X : F4} {y z : Code} {id : Nat} {ops : Array Oper} {dr : Bool} {Q : Exit → St → Prop} {st : St} {n : Nat} (hn : ops.size = n) (h : AH Tryz.prog X ops dr (fun st' => W Tryz.prog X y (LT (W Tryz.prog X z Q) Q) st') n 0 st []) : W Tryz.prog X (.seq (.seq (.region id ops dr) y) z) Q st := AC (Uz Aw hn h)
theorem F9 : DL Tryz.prog 101 true = true := by kernel_rfl
theorem S8 : DL Tryz.prog 103 true = true := by kernel_rfl
theorem BG : DL Tryz.prog 26 false = true := by kernel_rfl
theorem Fc : DL Tryz.prog 27 false = true := by kernel_rfl
theorem CD : DL Tryz.prog 29 true = true := by kernel_rfl
theorem CR : DL Tryz.prog 3 false = true := by kernel_rfl
theorem Qk : DL Tryz.prog 33 false = true := by kernel_rfl
theorem Ql : DL Tryz.prog 4 false = true := by kernel_rfl
theorem GI : DL Tryz.prog 45 true = true := by kernel_rfl
theorem JA : DL Tryz.prog 62 false = true := by kernel_rfl
theorem C7 : DL Tryz.prog 64 true = true := by kernel_rfl
theorem EF : DL Tryz.prog 74 false = true := by kernel_rfl
theorem G4 : DL Tryz.prog 76 true = true := by kernel_rfl
theorem Jp : DL Tryz.prog 77 false = true := by kernel_rfl
theorem NM : DL Tryz.prog 94 false = true := by kernel_rfl
theorem SR : Mb Tryz.prog 22 = true := by kernel_rfl
theorem Mf : C6 Tryz.prog 101 24 = true := by kernel_rfl
theorem RF : C6 Tryz.prog 103 128 = true := by kernel_rfl
theorem Qn : C6 Tryz.prog 3 8 = true := by kernel_rfl
theorem Rg : C6 Tryz.prog 33 24 = true := by kernel_rfl
theorem Uv : C6 Tryz.prog 4 1 = true := by kernel_rfl
theorem JV : C6 Tryz.prog 45 24 = true := by kernel_rfl
theorem RL : C6 Tryz.prog 5 1 = true := by kernel_rfl
theorem S1 : C6 Tryz.prog 64 72 = true := by kernel_rfl
theorem TD : C6 Tryz.prog 76 80 = true := by kernel_rfl
theorem S7 : C6 Tryz.prog 77 24 = true := by kernel_rfl
theorem Rh : C6 Tryz.prog 94 1 = true := by kernel_rfl
theorem Gp : Ch Tryz.prog 101 0 0 = true := by kernel_rfl
theorem D3 : Ch Tryz.prog 101 1 1 = true := by kernel_rfl
theorem Hm : Ch Tryz.prog 101 2 2 = true := by kernel_rfl
theorem KO : Ch Tryz.prog 103 0 0 = true := by kernel_rfl
theorem MT : Ch Tryz.prog 103 1 3 = true := by kernel_rfl
theorem PZ : Ch Tryz.prog 103 2 4 = true := by kernel_rfl
theorem MQ : Ch Tryz.prog 103 3 7 = true := by kernel_rfl
theorem B8 : Ch Tryz.prog 29 0 0 = true := by kernel_rfl
theorem FQ : Ch Tryz.prog 29 1 1 = true := by kernel_rfl
theorem GK : Ch Tryz.prog 29 2 2 = true := by kernel_rfl
theorem BE : Ch Tryz.prog 29 3 3 = true := by kernel_rfl
theorem Mr : Ch Tryz.prog 45 0 0 = true := by kernel_rfl
theorem Mk : Ch Tryz.prog 45 1 1 = true := by kernel_rfl
theorem Mh : Ch Tryz.prog 45 2 2 = true := by kernel_rfl
theorem DZ : Ch Tryz.prog 64 0 0 = true := by kernel_rfl
theorem Dp : Ch Tryz.prog 64 1 1 = true := by kernel_rfl
theorem Ex : Ch Tryz.prog 64 2 2 = true := by kernel_rfl
theorem ET : Ch Tryz.prog 76 0 0 = true := by kernel_rfl
theorem Ec : Ch Tryz.prog 76 1 1 = true := by kernel_rfl
theorem Ij : Ch Tryz.prog 76 2 2 = true := by kernel_rfl
theorem Kd : Ch Tryz.prog 76 3 3 = true := by kernel_rfl
theorem DE : Ch Tryz.prog 76 4 4 = true := by kernel_rfl
theorem Dm : Ch Tryz.prog 76 5 5 = true := by kernel_rfl
theorem Re : Ay Tryz.prog 107 = true := by kernel_rfl
theorem Tx : Ay Tryz.prog 109 = true := by kernel_rfl
theorem SN : Ay Tryz.prog 11 = true := by kernel_rfl
theorem SI : Ay Tryz.prog 110 = true := by kernel_rfl
theorem Rs : Ay Tryz.prog 111 = true := by kernel_rfl
theorem Ti : Ay Tryz.prog 12 = true := by kernel_rfl
theorem Sz : Ay Tryz.prog 121 = true := by kernel_rfl
theorem Tr : Ay Tryz.prog 122 = true := by kernel_rfl
theorem Ta : Ay Tryz.prog 123 = true := by kernel_rfl
theorem Sv : Ay Tryz.prog 124 = true := by kernel_rfl
theorem S3 : Ay Tryz.prog 125 = true := by kernel_rfl
theorem S5 : Ay Tryz.prog 126 = true := by kernel_rfl
theorem Tc : Ay Tryz.prog 127 = true := by kernel_rfl
theorem Rw : Ay Tryz.prog 128 = true := by kernel_rfl
theorem SF : Ay Tryz.prog 129 = true := by kernel_rfl
theorem TN : Ay Tryz.prog 13 = true := by kernel_rfl
theorem Qe : Ay Tryz.prog 130 = true := by kernel_rfl
theorem Td : Ay Tryz.prog 131 = true := by kernel_rfl
theorem Rx : Ay Tryz.prog 138 = true := by kernel_rfl
theorem Rr : Ay Tryz.prog 139 = true := by kernel_rfl
theorem SK : Ay Tryz.prog 14 = true := by kernel_rfl
theorem Tb : Ay Tryz.prog 140 = true := by kernel_rfl
theorem SC : Ay Tryz.prog 141 = true := by kernel_rfl
theorem Rj : Ay Tryz.prog 146 = true := by kernel_rfl
theorem SV : Ay Tryz.prog 147 = true := by kernel_rfl
theorem Sy : Ay Tryz.prog 148 = true := by kernel_rfl
theorem TF : Ay Tryz.prog 149 = true := by kernel_rfl
theorem Tf : Ay Tryz.prog 15 = true := by kernel_rfl
theorem SG : Ay Tryz.prog 150 = true := by kernel_rfl
theorem TE : Ay Tryz.prog 151 = true := by kernel_rfl
theorem Ty : Ay Tryz.prog 152 = true := by kernel_rfl
theorem SX : Ay Tryz.prog 154 = true := by kernel_rfl
theorem RB : Ay Tryz.prog 156 = true := by kernel_rfl
theorem SM : Ay Tryz.prog 157 = true := by kernel_rfl
theorem Tk : Ay Tryz.prog 158 = true := by kernel_rfl
theorem S6 : Ay Tryz.prog 161 = true := by kernel_rfl
theorem Uo : Ay Tryz.prog 17 = true := by kernel_rfl
theorem Ul : Ay Tryz.prog 19 = true := by kernel_rfl
theorem SU : Ay Tryz.prog 21 = true := by kernel_rfl
theorem Q6 : Ay Tryz.prog 24 = true := by kernel_rfl
theorem TZ : Ay Tryz.prog 25 = true := by kernel_rfl
theorem Ua : Ay Tryz.prog 28 = true := by kernel_rfl
theorem To : Ay Tryz.prog 31 = true := by kernel_rfl
theorem QG : Ay Tryz.prog 34 = true := by kernel_rfl
theorem T8 : Ay Tryz.prog 35 = true := by kernel_rfl
theorem TX : Ay Tryz.prog 36 = true := by kernel_rfl
theorem Ut : Ay Tryz.prog 37 = true := by kernel_rfl
theorem SY : Ay Tryz.prog 38 = true := by kernel_rfl
theorem Ts : Ay Tryz.prog 39 = true := by kernel_rfl
theorem Tu : Ay Tryz.prog 40 = true := by kernel_rfl
theorem Se : Ay Tryz.prog 41 = true := by kernel_rfl
theorem R7 : Ay Tryz.prog 42 = true := by kernel_rfl
theorem Ud : Ay Tryz.prog 44 = true := by kernel_rfl
theorem T5 : Ay Tryz.prog 47 = true := by kernel_rfl
theorem ON : Ay Tryz.prog 48 = true := by kernel_rfl
theorem SZ : Ay Tryz.prog 51 = true := by kernel_rfl
theorem Un : Ay Tryz.prog 54 = true := by kernel_rfl
theorem Us : Ay Tryz.prog 55 = true := by kernel_rfl
theorem T1 : Ay Tryz.prog 57 = true := by kernel_rfl
theorem M1 : Ay Tryz.prog 60 = true := by kernel_rfl
theorem T4 : Ay Tryz.prog 61 = true := by kernel_rfl
theorem RD : Ay Tryz.prog 62 = true := by kernel_rfl
theorem SQ : Ay Tryz.prog 63 = true := by kernel_rfl
theorem TS : Ay Tryz.prog 64 = true := by kernel_rfl
theorem TV : Ay Tryz.prog 65 = true := by kernel_rfl
theorem Uw : Ay Tryz.prog 66 = true := by kernel_rfl
theorem TM : Ay Tryz.prog 67 = true := by kernel_rfl
theorem T6 : Ay Tryz.prog 68 = true := by kernel_rfl
theorem TY : Ay Tryz.prog 69 = true := by kernel_rfl
theorem T2 : Ay Tryz.prog 72 = true := by kernel_rfl
theorem R4 : Ay Tryz.prog 73 = true := by kernel_rfl
theorem Ui : Ay Tryz.prog 75 = true := by kernel_rfl
theorem Q4 : Ay Tryz.prog 76 = true := by kernel_rfl
theorem TT : Ay Tryz.prog 77 = true := by kernel_rfl
theorem Up : Ay Tryz.prog 82 = true := by kernel_rfl
theorem SJ : Ay Tryz.prog 83 = true := by kernel_rfl
theorem Uj : Ay Tryz.prog 86 = true := by kernel_rfl
theorem Uc : Ay Tryz.prog 87 = true := by kernel_rfl
theorem Tj : Ay Tryz.prog 88 = true := by kernel_rfl
theorem Ub : Ay Tryz.prog 89 = true := by kernel_rfl
theorem Uh : Ay Tryz.prog 90 = true := by kernel_rfl
theorem QR : Ay Tryz.prog 91 = true := by kernel_rfl
theorem TR : Ay Tryz.prog 92 = true := by kernel_rfl
theorem T3 : Ay Tryz.prog 93 = true := by kernel_rfl
theorem TW : Ay Tryz.prog 94 = true := by kernel_rfl
theorem Uq : Ay Tryz.prog 95 = true := by kernel_rfl
theorem Uf : Ay Tryz.prog 96 = true := by kernel_rfl
theorem N5 : Lb Tryz.prog 109 .u64 = true := by kernel_rfl
theorem Oh : Lb Tryz.prog 140 .u32 = true := by kernel_rfl
theorem Rv : Lb Tryz.prog 142 .u64 = true := by kernel_rfl
theorem Ux : Lb Tryz.prog 3 .i64 = true := by kernel_rfl
theorem Uy : Lb Tryz.prog 5 .u8 = true := by kernel_rfl
theorem TU : Tryz.prog.underlying 3 = some (.int .i64) := by kernel_rfl
theorem RH : Tryz.prog.underlying 9 = some .string := by kernel_rfl
theorem Mp : Tryz.prog.underlying 125 = some (.map 9 3) := by kernel_rfl
theorem PY : Ge Tryz.prog 101 = some [(0, 1), (1, 1), (2, 1)] := by kernel_rfl
theorem RA : Ge Tryz.prog 103 = some [(0, 3), (3, 1), (4, 3), (7, 1)] := by kernel_rfl
theorem QL : Ge Tryz.prog 29 = some [(0, 1), (1, 1), (2, 1), (3, 1)] := by kernel_rfl
theorem NP : Ge Tryz.prog 45 = some [(0, 1), (1, 1), (2, 1)] := by kernel_rfl
theorem Lm : Ge Tryz.prog 64 = some [(0, 1), (1, 1), (2, 1)] := by kernel_rfl
theorem Uu : Ge Tryz.prog 76 = some [(0, 1), (1, 1), (2, 1), (3, 1), (4, 1), (5, 1)] := by kernel_rfl
theorem Nh : Pk Tryz.prog 45 = some [0, 0, 0] := by kernel_rfl
theorem K6 : sliceB Tryz.prog 148 64 = true := by kernel_rfl
theorem KL : sliceB Tryz.prog 22 5 = true := by kernel_rfl
theorem AG : sliceB Tryz.prog 26 3 = true := by kernel_rfl
theorem Co : sliceB Tryz.prog 27 76 = true := by kernel_rfl
theorem A5 : sliceB Tryz.prog 33 45 = true := by kernel_rfl
theorem DT : sliceB Tryz.prog 37 101 = true := by kernel_rfl
theorem Fv : sliceB Tryz.prog 54 33 = true := by kernel_rfl
theorem FC : sliceB Tryz.prog 62 94 = true := by kernel_rfl
theorem CH : sliceB Tryz.prog 74 77 = true := by kernel_rfl
theorem E8 : sliceB Tryz.prog 77 4 = true := by kernel_rfl
theorem F6 : sliceB Tryz.prog 96 103 = true := by kernel_rfl
theorem P7 : (Tryz.prog.underlying 109).isSome = true := by kernel_rfl
theorem N6 : (Tryz.prog.underlying 140).isSome = true := by kernel_rfl
theorem Rt : (Tryz.prog.underlying 142).isSome = true := by kernel_rfl
theorem TK : (Tryz.prog.underlying 3).isSome = true := by kernel_rfl
theorem UB : (Tryz.prog.underlying 5).isSome = true := by kernel_rfl
theorem Tt : LO Tryz.prog 9 = true := by kernel_rfl
theorem CA : EJ Tryz.prog 101 3 = true := by kernel_rfl
theorem HN : EJ Tryz.prog 103 8 = true := by kernel_rfl
theorem TP : EJ Tryz.prog 26 1 = true := by kernel_rfl
theorem Ur : EJ Tryz.prog 27 1 = true := by kernel_rfl
theorem Ce : EJ Tryz.prog 29 4 = true := by kernel_rfl
theorem EH : EJ Tryz.prog 3 1 = true := by kernel_rfl
theorem Lk : EJ Tryz.prog 33 1 = true := by kernel_rfl
theorem O9 : EJ Tryz.prog 4 1 = true := by kernel_rfl
theorem BW : EJ Tryz.prog 45 3 = true := by kernel_rfl
theorem Tl : EJ Tryz.prog 5 1 = true := by kernel_rfl
theorem BF : EJ Tryz.prog 64 3 = true := by kernel_rfl
theorem TA : EJ Tryz.prog 74 1 = true := by kernel_rfl
theorem C2 : EJ Tryz.prog 76 6 = true := by kernel_rfl
theorem Hd : EJ Tryz.prog 77 1 = true := by kernel_rfl
theorem It : EJ Tryz.prog 94 1 = true := by kernel_rfl
theorem GS : CG Tryz.prog 101 = some (.agg #[.int .i64 0, .int .i64 0, .int .i64 0]) := by kernel_rfl
theorem MR : CG Tryz.prog 103 = some (.agg #[.slice none 0 0, .slice none 0 0, .slice none 0 0, .int .i64 0, .int .i64 0, .int .i64 0, .int .i64 0, .slice none 0 0]) := by kernel_rfl
theorem Ml : CG Tryz.prog 29 = some (.agg #[.slice none 0 0, .slice none 0 0, .slice none 0 0, .slice none 0 0]) := by kernel_rfl
theorem OO : CG Tryz.prog 3 = some (.int .i64 0) := by kernel_rfl
theorem Pp : CG Tryz.prog 33 = some (.slice none 0 0) := by kernel_rfl
theorem TI : CG Tryz.prog 4 = some (.bool false) := by kernel_rfl
theorem Fq : CG Tryz.prog 45 = some (.agg #[.int .i64 0, .int .i64 0, .int .i64 0]) := by kernel_rfl
theorem Su : CG Tryz.prog 5 = some (.int .u8 0) := by kernel_rfl
theorem FG : CG Tryz.prog 64 = some (.agg #[.slice none 0 0, .slice none 0 0, .slice none 0 0]) := by kernel_rfl
theorem I0 : CG Tryz.prog 76 = some (.agg #[.int .i64 0, .int .i64 0, .int .i64 0, .bool false, .slice none 0 0, .slice none 0 0]) := by kernel_rfl
theorem Sc : CG Tryz.prog 77 = some (.slice none 0 0) := by kernel_rfl
theorem Sd : CG Tryz.prog 94 = some (.int .u8 0) := by kernel_rfl
set_option maxRecDepth 10000
theorem If (N : Nat) (p0 : As) (r : Bool) (h : CO N p0 = some r) : Ao Tryz.prog 57 [.e (.agg (Bu p0))] [] (bD r) := by
 unfold CO at h
 refine cw (n := 11) (rs := [.tmp 2]) Tryz.func57 fun w0 S0 => ?_
 refine wq rfl (qb rfl (qe rfl ?_))
 refine AN h (fun v1 => mk [(2, bD v1)] []) (fun j1 h => ?_) (fun v1 h => ?_)
 ·refine Aj Aw rfl (qf ET rfl (ql CR rfl (BO rfl (qm rfl ?_))))
  refine D2 6 h rfl (fun h => ?_) fun h => ?_
  ·refine qw 3 rfl (qp rfl (qe rfl ?_))
   exact sn [] h
  ·refine qf ET rfl (ql CR rfl (BO rfl (qp rfl (qe rfl ?_))))
   exact sn [] h
 ·obtain rfl := sj h
  refine Ag (sm [] [(2, bD v1)] [] rfl rfl) (Ap ?_)
  exact ⟨⟨[_], tm, rfl⟩, tv⟩
theorem FV (N : Nat) (p0 : List (List Bool)) (p1 : Int) (p2 : Int) (r : Bool) (h : Cc N p0 p1 p2 = some r) : Ao Tryz.prog 83 [pD (.sl (p0.map (DH eB))), iD p1, iD p2] [] (bD r) := by
 unfold Cc at h
 refine cw (n := 24) (rs := [.tmp 6]) Tryz.func83 fun w0 S0 => ?_
 refine wq rfl (qa rfl (Ac (wp rfl (qm rfl (AB CH rfl (qm rfl (BU rfl (Ac ?_))))))))
 refine Bm h (fun h => ?_) fun h => ?_
 ·refine wq rfl (qe rfl ?_)
  obtain rfl := sj h
  refine Ag (sm [] [(6, bD false)] [] rfl rfl) (Ap ?_)
  exact ⟨⟨[_], tm, rfl⟩, tv⟩
 ·refine Al (wp rfl (qe rfl ?_))
  refine Az (L := Bs N p0 p1 p2) h (fun v2 => mk [(0, pD (.sl (p0.map (DH eB)))), (1, iD p1), (2, iD p2), (7, iD v2)] []) (fun v3 => mk [] []) (fun _ _ => rfl) (sm [] _ _ rfl rfl) (fun j2 n2 v2 h => ?_) (fun v3 s h hs => ?_)
  ·unfold Bs at h
   refine wp rfl (qw 2 rfl (AV rfl (Ac ?_)))
   refine Bm h (fun h => ?_) fun h => ?_
   ·refine Al (AC (AF (wq rfl (qw 2 rfl ?_))))
    refine B6 h fun v5 a5 b5 h => qi CH Hd a5 (Ai b5) rfl (qk Jp rfl (AB E8 rfl (qm rfl (BU rfl (Ac ?_)))))
    refine Bm h (fun h => ?_) fun h => ?_
    ·refine wq rfl (qe rfl ?_)
     obtain rfl := sj h
     refine Ag (sm [] [(6, bD false)] [] rfl rfl) (Ap ?_)
     exact ⟨⟨[_], tm, rfl⟩, tv⟩
    ·refine Al (Aj Aw rfl (qm rfl (A6 rfl (qe rfl ?_))))
     exact sn [] h
   ·refine AP ?_
    exact sn [] h
  ·refine Ag hs (wq rfl (qe rfl ?_))
   obtain rfl := sj h
   refine Ag (sm [] [(6, bD true)] [] rfl rfl) (Ap ?_)
   exact ⟨⟨[_], tm, rfl⟩, tv⟩
theorem Iw (N : Nat) (p0 : Ae) (p1 : As) (r : Int) (h : CZ N p0 p1 = some r) : Ao Tryz.prog 55 [.e (.agg (Ah p0)), .e (.agg (Bu p1))] [] (iD r) := by
 unfold CZ at h
 refine cw (n := 101) (rs := [.tmp 4]) Tryz.func55 fun w0 S0 => ?_
 refine wq rfl (qb rfl (qb rfl (qa rfl (Ac (AC ?_)))))
 refine AN h (fun v1 => mk [(2, oD (.ptr 2 0)), (3, oD (.ptr 3 0)), (22, bD v1)] [(2, .box (Ah p0)), (3, .box (Bu p1))]) (fun j1 h => ?_) (fun v1 h => ?_)
 ·refine Aj Aw rfl (qf ET rfl (ql CR rfl (AV rfl (qm rfl ?_))))
  refine D2 10 h rfl (fun h => ?_) fun h => ?_
  ·refine qw 3 rfl (qp rfl (qw 4 rfl (qu rfl (qu rfl (qn rfl (qp rfl (Ac ?_)))))))
   exact sn [] h
  ·refine qf ET rfl (ql CR rfl (Dx rfl (qp rfl (qm rfl ?_))))
   refine D2 15 h rfl (fun h => ?_) fun h => ?_
   ·refine qw 3 rfl (qu rfl (qu rfl (qn rfl (qp rfl (Ac ?_)))))
    exact sn [] h
   ·refine qf Kd rfl (ql Ql rfl (qm rfl ?_))
    refine D2 18 h rfl (fun h => ?_) fun h => ?_
    ·refine qL G4 C2 rfl ?_
     refine B5 h fun v5 a5 h => Ax [] (If N p1 v5 a5) T1 rfl (qp rfl (qp rfl (Ac ?_)))
     exact sn [] h
    ·refine qw 2 rfl (qp rfl (qp rfl (Ac ?_)))
     exact sn [] h
 ·refine Bm h (fun h => ?_) fun h => ?_
  ·refine wq rfl (qe rfl ?_)
   obtain rfl := sj h
   refine Ag (sm [] [(4, iD 1)] [] rfl rfl) (Ap ?_)
   exact ⟨⟨[_], tm, rfl⟩, tv⟩
  ·refine Al (wq rfl (qf B8 rfl (ql BG rfl (AB AG rfl (qa rfl (Ac (AC ?_)))))))
   refine AN h (fun v7 => mk [(2, oD (.ptr 2 0)), (3, oD (.ptr 3 0)), (45, bD v7)] [(2, .box (Ah p0)), (3, .box (Bu p1))]) (fun j7 h => ?_) (fun v7 h => ?_)
   ·refine Aj Aw rfl (qf Ec rfl (ql CR rfl (AV rfl (qm rfl ?_))))
    refine D2 29 h rfl (fun h => ?_) fun h => ?_
    ·refine qw 4 rfl (qp rfl (qw 4 rfl (qp rfl (qw 5 rfl (qp rfl (Ac ?_))))))
     exact sn [] h
    ·refine qf Ec rfl (ql CR rfl (qm rfl (FY rfl (qp rfl (qm rfl ?_)))))
     refine D2 35 h rfl (fun h => ?_) fun h => ?_
     ·refine qw 3 rfl (qp rfl (qw 5 rfl (qp rfl (Ac ?_))))
      exact sn [] h
     ·refine qf Ij rfl (ql CR rfl (AV rfl (qp rfl (qm rfl ?_))))
      refine D2 40 h rfl (fun h => ?_) fun h => ?_
      ·refine qw 4 rfl (qp rfl (Ac ?_))
       exact sn [] h
      ·refine qf Ij rfl (ql CR rfl (qm rfl (FY rfl (qp rfl (Ac ?_)))))
       exact sn [] h
   ·refine Bm h (fun h => ?_) fun h => ?_
    ·refine wq rfl (qe rfl ?_)
     obtain rfl := sj h
     refine Ag (sm [] [(4, iD 4)] [] rfl rfl) (Ap ?_)
     exact ⟨⟨[_], tm, rfl⟩, tv⟩
    ·refine Al (wp rfl (qf DE rfl (ql EF rfl (qf B8 rfl (ql BG rfl (qf Ec rfl (ql CR rfl ?_)))))))
     refine B6 h fun v12 a12 b12 h => qi AG EH a12 (Ai b12) rfl (qk CR rfl (qf B8 rfl (ql BG rfl (qf Ij rfl (ql CR rfl ?_)))))
     refine B6 h fun v13 a13 b13 h => qi AG EH a13 (Ai b13) rfl (qk CR rfl ?_)
     refine B5 h fun v14 a14 h => Ax [] (FV N p1.fh v12 v13 v14 a14) SJ rfl (Cr rfl (AY (by kernel_rfl) ?_))
     refine Bm h (fun h => ?_) fun h => ?_
     ·refine wq rfl (qe rfl ?_)
      obtain rfl := sj h
      refine Ag (sm [] [(4, iD 6)] [] rfl rfl) (Ap ?_)
      exact ⟨⟨[_], tm, rfl⟩, tv⟩
     ·refine Al (wp rfl (qf ET rfl (ql CR rfl (BU rfl (Ac ?_)))))
      refine Bm h (fun h => ?_) fun h => ?_
      ·refine wp rfl (qf Dm rfl (ql EF rfl (AB CH rfl (BU rfl (Ac ?_)))))
       refine Bm h (fun h => ?_) fun h => ?_
       ·refine wq rfl (qe rfl ?_)
        obtain rfl := sj h
        refine Ag (sm [] [(4, iD 6)] [] rfl rfl) (Ap ?_)
        exact ⟨⟨[_], tm, rfl⟩, tv⟩
       ·refine Al (wq rfl (qe rfl ?_))
        obtain rfl := sj h
        refine Ag (sm [] [(4, iD 0)] [] rfl rfl) (Ap ?_)
        exact ⟨⟨[_], tm, rfl⟩, tv⟩
      ·refine Al (wp rfl (qf Dm rfl (ql EF rfl (qf B8 rfl (ql BG rfl (qf Ec rfl (ql CR rfl ?_)))))))
       refine B6 h fun v18 a18 b18 h => qi AG EH a18 (Ai b18) rfl (qk CR rfl (qf B8 rfl (ql BG rfl (qf Ec rfl (ql CR rfl ?_)))))
       refine B6 h fun v19 a19 b19 h => qi AG EH a19 (Ai b19) rfl (qk CR rfl ?_)
       refine B5 h fun v20 a20 h => Ax [] (FV N p1.fi v18 v19 v20 a20) SJ rfl (Cr rfl (AY (by kernel_rfl) ?_))
       refine Bm h (fun h => ?_) fun h => ?_
       ·refine wq rfl (qe rfl ?_)
        obtain rfl := sj h
        refine Ag (sm [] [(4, iD 6)] [] rfl rfl) (Ap ?_)
        exact ⟨⟨[_], tm, rfl⟩, tv⟩
       ·refine Al (wp rfl (qe rfl ?_))
        refine Az (L := Bg N p1) h (fun v22 => mk [(3, oD (.ptr 3 0)), (6, iD v22)] [(3, .box (Bu p1))]) (fun v23 => mk [] []) (fun _ _ => rfl) (sm [] _ _ rfl rfl) (fun j22 n22 v22 h => ?_) (fun v23 s h hs => ?_)
        ·unfold Bg at h
         refine wp rfl (qm rfl (qf Dm rfl (ql EF rfl (AB CH rfl (AV rfl (Ac ?_))))))
         refine Bm h (fun h => ?_) fun h => ?_
         ·refine Al (AC (AF (wq rfl (qf Dm rfl (ql EF rfl (qm rfl ?_))))))
          refine B6 h fun v25 a25 b25 h => qi CH Hd a25 (Ai b25) rfl (qk Jp rfl (qm rfl ?_))
          refine B6 h fun v26 a26 b26 h => qi E8 O9 a26 (Ai b26) rfl (qk Ql rfl (Cr rfl (Ac ?_)))
          refine Bm h (fun h => ?_) fun h => ?_
          ·refine wq rfl (qe rfl ?_)
           obtain rfl := sj h
           refine Ag (sm [] [(4, iD 1)] [] rfl rfl) (Ap ?_)
           exact ⟨⟨[_], tm, rfl⟩, tv⟩
          ·refine Al (Aj Aw rfl (qm rfl (A6 rfl (qe rfl ?_))))
           exact sn [] h
         ·refine AP ?_
          exact sn [] h
        ·refine Ag hs (wq rfl (qe rfl ?_))
         obtain rfl := sj h
         refine Ag (sm [] [(4, iD 0)] [] rfl rfl) (Ap ?_)
         exact ⟨⟨[_], tm, rfl⟩, tv⟩
theorem Eh (N : Nat) (p0 : Ae) (r : Int) (h : Bt N p0 = some r) : Ao Tryz.prog 31 [.e (.agg (Ah p0))] [] (iD r) := by
 unfold Bt at h
 refine cw (n := 102) (rs := [.tmp 2]) Tryz.func31 fun w0 S0 => ?_
 refine wq rfl (qb rfl (qa rfl (Ac (AC ?_))))
 refine AN h (fun v1 => mk [(1, oD (.ptr 1 0)), (16, bD v1)] [(1, .box (Ah p0))]) (fun j1 h => ?_) (fun v1 h => ?_)
 ·refine Aj Aw rfl (qf B8 rfl (ql BG rfl (AB AG rfl (Dx rfl (qm rfl ?_)))))
  refine D2 11 h rfl (fun h => ?_) fun h => ?_
  ·refine qw 4 rfl (qp rfl (Ac ?_))
   exact sn [] h
  ·refine qf BE rfl (ql Fc rfl (AB Co rfl (Dx rfl (qp rfl (Ac ?_)))))
   exact sn [] h
 ·refine Bm h (fun h => ?_) fun h => ?_
  ·refine wq rfl (qe rfl ?_)
   obtain rfl := sj h
   refine Ag (sm [] [(2, iD 3)] [] rfl rfl) (Ap ?_)
   exact ⟨⟨[_], tm, rfl⟩, tv⟩
  ·refine Al (AC ?_)
   refine AN h (fun v4 => mk [(1, oD (.ptr 1 0)), (32, bD v4)] [(1, .box (Ah p0))]) (fun j4 h => ?_) (fun v4 h => ?_)
   ·refine Aj Aw rfl (qf FQ rfl (ql BG rfl (AB AG rfl (qf B8 rfl (ql BG rfl (AB AG rfl (BU rfl (qm rfl ?_))))))))
    refine D2 24 h rfl (fun h => ?_) fun h => ?_
    ·refine qw 7 rfl (qp rfl (Ac ?_))
     exact sn [] h
    ·refine qf GK rfl (ql BG rfl (AB AG rfl (qf B8 rfl (ql BG rfl (AB AG rfl (BU rfl (qp rfl (Ac ?_))))))))
     exact sn [] h
   ·refine Bm h (fun h => ?_) fun h => ?_
    ·refine wq rfl (qe rfl ?_)
     obtain rfl := sj h
     refine Ag (sm [] [(2, iD 6)] [] rfl rfl) (Ap ?_)
     exact ⟨⟨[_], tm, rfl⟩, tv⟩
    ·refine Al (wp rfl (qe rfl ?_))
     refine Az (L := AS N p0) h (fun v7 => mk [(1, oD (.ptr 1 0)), (3, iD v7)] [(1, .box (Ah p0))]) (fun v8 => mk [(1, oD (.ptr 1 0))] [(1, .box (Ah p0))]) (fun _ _ => rfl) (sm [] _ _ rfl rfl) (fun j7 n7 v7 h => ?_) (fun v8 s h hs => ?_)
     ·unfold AS at h
      refine wp rfl (qm rfl (qf B8 rfl (ql BG rfl (AB AG rfl (AV rfl (Ac ?_))))))
      refine Bm h (fun h => ?_) fun h => ?_
      ·refine Al (AC (AF (wq rfl (qf B8 rfl (ql BG rfl (qm rfl ?_))))))
       refine B6 h fun v10 a10 b10 h => qi AG EH a10 (Ai b10) rfl (qk CR rfl (qe rfl ?_))
       refine AN h (fun v11 => mk [(1, oD (.ptr 1 0)), (3, iD v7), (84, bD v11)] [(1, .box (Ah p0))]) (fun j11 h => ?_) (fun v11 h => ?_)
       ·refine Aj Aw rfl (qm rfl (AV rfl (qm rfl ?_)))
        refine D2 47 h rfl (fun h => ?_) fun h => ?_
        ·refine qw 2 rfl (qp rfl (qw 7 rfl (qp rfl (qw 8 rfl (qp rfl (qw 7 rfl (qp rfl (qw 8 rfl (qp rfl (Ac ?_))))))))))
         exact sn [] h
        ·refine qm rfl (Dx rfl (qp rfl (qm rfl ?_)))
         refine D2 51 h rfl (fun h => ?_) fun h => ?_
         ·refine qw 6 rfl (qp rfl (qw 8 rfl (qp rfl (qw 7 rfl (qp rfl (qw 8 rfl (qp rfl (Ac ?_))))))))
          exact sn [] h
         ·refine qf FQ rfl (ql BG rfl (qm rfl ?_))
          refine B6 h fun v14 a14 b14 h => qi AG EH a14 (Ai b14) rfl (qk CR rfl (AV rfl (qp rfl (qm rfl ?_))))
          refine D2 59 h rfl (fun h => ?_) fun h => ?_
          ·refine qw 7 rfl (qp rfl (qw 7 rfl (qp rfl (qw 8 rfl (qp rfl (Ac ?_))))))
           exact sn [] h
          ·refine qf FQ rfl (ql BG rfl (qm rfl ?_))
           refine B6 h fun v16 a16 b16 h => qi AG EH a16 (Ai b16) rfl (qk CR rfl (qm rfl (FY rfl (qp rfl (qm rfl ?_)))))
           refine D2 68 h rfl (fun h => ?_) fun h => ?_
           ·refine qw 6 rfl (qp rfl (qw 8 rfl (qp rfl (Ac ?_))))
            exact sn [] h
           ·refine qf GK rfl (ql BG rfl (qm rfl ?_))
            refine B6 h fun v18 a18 b18 h => qi AG EH a18 (Ai b18) rfl (qk CR rfl (AV rfl (qp rfl (qm rfl ?_))))
            refine D2 76 h rfl (fun h => ?_) fun h => ?_
            ·refine qw 7 rfl (qp rfl (Ac ?_))
             exact sn [] h
            ·refine qf GK rfl (ql BG rfl (qm rfl ?_))
             refine B6 h fun v20 a20 b20 h => qi AG EH a20 (Ai b20) rfl (qk CR rfl (qm rfl (FY rfl (qp rfl (Ac ?_)))))
             exact sn [] h
       ·refine Bm h (fun h => ?_) fun h => ?_
        ·refine wq rfl (qe rfl ?_)
         obtain rfl := sj h
         refine Ag (sm [] [(2, iD 7)] [] rfl rfl) (Ap ?_)
         exact ⟨⟨[_], tm, rfl⟩, tv⟩
        ·refine Al (Aj Aw rfl (qm rfl (A6 rfl (qe rfl ?_))))
         exact sn [] h
      ·refine AP ?_
       exact sn [] h
     ·refine Ag hs (wp rfl (qe rfl ?_))
      refine Az (L := AM N p0) h (fun v22 => mk [(1, oD (.ptr 1 0)), (5, iD v22)] [(1, .box (Ah p0))]) (fun v23 => mk [] []) (fun _ _ => rfl) (sm [] _ _ rfl rfl) (fun j22 n22 v22 h => ?_) (fun v23 s h hs => ?_)
      ·unfold AM at h
       refine wp rfl (qm rfl (qf BE rfl (ql Fc rfl (AB Co rfl (AV rfl (Ac ?_))))))
       refine Bm h (fun h => ?_) fun h => ?_
       ·refine Al (AC (AF (wq rfl (qL CD Ce rfl (qf BE rfl (ql Fc rfl (qm rfl ?_)))))))
        refine B6 h fun v25 a25 b25 h => qi Co C2 a25 (Ai b25) rfl (qK G4 C2 rfl ?_)
        refine B5 h fun v26 a26 h => Ax [] (Iw N p0 v25 v26 a26) Us rfl (qa rfl (AY (by kernel_rfl) (wq rfl (qm rfl (BU rfl (Ac ?_))))))
        refine Bm h (fun h => ?_) fun h => ?_
        ·refine wq rfl (qm rfl (qe rfl ?_))
         obtain rfl := sj h
         refine Ag (sm [] [(2, iD v26)] [] rfl rfl) (Ap ?_)
         exact ⟨⟨[_], tm, rfl⟩, tv⟩
        ·refine Al (Aj Aw rfl (qm rfl (A6 rfl (qe rfl ?_))))
         exact sn [] h
       ·refine AP ?_
        exact sn [] h
      ·refine Ag hs (wq rfl (qe rfl ?_))
       obtain rfl := sj h
       refine Ag (sm [] [(2, iD 0)] [] rfl rfl) (Ap ?_)
       exact ⟨⟨[_], tm, rfl⟩, tv⟩
theorem Dq (N : Nat) (r : Ae) (h : B0 N = some r) : Ao Tryz.prog 34 [] [(1, r.fa.map Au), (1, r.fj.map Au), (1, r.fm.map Au), (6, r.fb.map AA)] (.e (.agg [.own 0, .own 1, .own 2, .own 3])) := by
 unfold B0 at h
 refine cw (n := 12) (rs := [.cell 0 29]) Tryz.func34 fun w0 S0 => ?_
 refine wq rfl (qz Ml rfl (Ac (wq rfl (EZ E8 O9 TI rfl (EZ E8 O9 TI rfl (DU (Cz 2 _ _ rfl rfl) (DU (Cz 3 _ _ rfl rfl) (EZ CH Hd Sc rfl (B3 I0 Uu rfl (qz I0 rfl (qs C2 rfl (Ac (wq rfl (EZ AG EH OO rfl (EZ AG EH OO rfl (EZ AG EH OO rfl (qL G4 C2 rfl (DU (Cz 4 _ _ rfl rfl) (EZ Co C2 I0 rfl (B3 Ml QL rfl (qs Ce rfl (Ac ?_))))))))))))))))))))))
 obtain rfl := sj h
 refine Ag (sm [(1000, 6), (1001, 7), (1002, 8), (1003, 10)] [(0, oD (.ptr 0 0))] [(0, .box [.own 1000, .own 1001, .own 1002, .own 1003]), (1000, .vec 1 ((([2, 2] : List Int)).map Au)), (1001, .vec 1 ((([0, 0] : List Int)).map Au)), (1002, .vec 1 ((([1, 1] : List Int)).map Au)), (1003, .vec 6 ((([(As.mk 1 0 1 false (([([true, false] : List Bool), ([false, true] : List Bool)] : List (List Bool))) (([] : List (List Bool))))] : List As)).map AA))] rfl rfl) (Ap ?_)
 exact ⟨⟨[_], ⟨.cellN _ _ _ _ _ _ _ rfl rfl CD Ce rfl rfl (J8 rfl), tv⟩, rfl⟩, ⟨rfl, rfl, rfl, rfl, tv⟩⟩
theorem Fz (N : Nat) (p0 : Int) (p1 : Int) (r : Bool) (h : CI N p0 p1 = some r) : Ao Tryz.prog 76 [iD p0, iD p1] [] (bD r) := by
 unfold CI at h
 refine cw (n := 12) (rs := [.tmp 4]) Tryz.func76 fun w0 S0 => ?_
 refine wq rfl (qe rfl ?_)
 refine AN h (fun v1 => mk [(4, bD v1)] []) (fun j1 h => ?_) (fun v1 h => ?_)
 ·refine Aj Aw rfl (qm rfl (FY rfl (qm rfl ?_)))
  refine D2 7 h rfl (fun h => ?_) fun h => ?_
  ·refine qw 2 rfl (AV rfl (qp rfl (qe rfl ?_)))
   exact sn [] h
  ·refine qw 3 rfl (qp rfl (qe rfl ?_))
   exact sn [] h
 ·obtain rfl := sj h
  refine Ag (sm [] [(4, bD v1)] [] rfl rfl) (Ap ?_)
  exact ⟨⟨[_], tm, rfl⟩, tv⟩
theorem MI (N : Nat) (p0 : Int) (p1 : Bool) (r : Bool) (h : EM N p0 p1 = some r) : Ao Tryz.prog 110 [iD p0, bD p1] [] (bD r) := by
 unfold EM at h
 refine cw (n := 23) (rs := [.tmp 4]) Tryz.func110 fun w0 S0 => ?_
 refine wq rfl (qe rfl ?_)
 refine AN h (fun v1 => mk [(4, bD v1)] []) (fun j1 h => ?_) (fun v1 h => ?_)
 ·refine Aj Aw rfl (qm rfl (BO rfl (qm rfl ?_)))
  refine D2 7 h rfl (fun h => ?_) fun h => ?_
  ·refine qw 2 rfl (qp rfl (qw 4 rfl (qu rfl (qu rfl (qw 2 rfl (qu rfl (qu rfl (qn rfl (qp rfl (qe rfl ?_))))))))))
   exact sn [] h
  ·refine qm rfl (BO rfl (qp rfl (qm rfl ?_)))
   refine D2 11 h rfl (fun h => ?_) fun h => ?_
   ·refine qw 3 rfl (qu rfl (qu rfl (qw 2 rfl (qu rfl (qu rfl (qn rfl (qp rfl (qe rfl ?_))))))))
    exact sn [] h
   ·refine qm rfl (BO rfl (qm rfl ?_))
    refine D2 14 h rfl (fun h => ?_) fun h => ?_
    ·refine qw 2 rfl (qp rfl (qw 2 rfl (Cr rfl (qp rfl (qp rfl (qe rfl ?_))))))
     exact sn [] h
    ·refine qm rfl (BO rfl (qp rfl (qm rfl ?_)))
     refine D2 18 h rfl (fun h => ?_) fun h => ?_
     ·refine qm rfl (Cr rfl (qp rfl (qp rfl (qe rfl ?_))))
      exact sn [] h
     ·refine qw 2 rfl (qp rfl (qp rfl (qe rfl ?_)))
      exact sn [] h
 ·obtain rfl := sj h
  refine Ag (sm [] [(4, bD v1)] [] rfl rfl) (Ap ?_)
  exact ⟨⟨[_], tm, rfl⟩, tv⟩
theorem JG (N : Nat) (p0 : List Bool) (p1 : Int) (r : Bool) (h : Cs N p0 p1 = some r) : Ao Tryz.prog 141 [pD (.sl (p0.map eB)), oD (.rop [.val (.int .i64 p1)])] [] (bD r) := by
 unfold Cs at h
 refine cw (n := 8) (rs := [.tmp 3]) Tryz.func141 fun w0 S0 => ?_
 refine wq rfl (qa rfl (Ac (wq rfl (qm rfl (AB E8 rfl (qk CR rfl (BU rfl (qe rfl ?_))))))))
 obtain rfl := sj h
 refine Ag (sm [] [(3, bD (((p0.length : Int) != p1)))] [] rfl rfl) (Ap ?_)
 exact ⟨⟨[_], tm, rfl⟩, tv⟩
theorem F1 (N : Nat) (p0 : List (List Bool)) (p1 : (List Bool) → Option Bool) (r : Int) (h : B9 N p0 p1 = some r) : Ao Tryz.prog 154 [pD (.sl (p0.map (DH eB))), oD (.clo (Gn (Kb false (DH eB)) tB p1))] [] (iD r) := by
 unfold B9 at h
 refine cw (n := 19) (rs := [.tmp 4]) Tryz.func154 fun w0 S0 => ?_
 refine wq rfl (qa rfl (Ac (wp rfl (qm rfl (AB CH rfl (qm rfl (Ac ?_)))))))
 refine Az (L := AX N p0 p1) h (fun v1 => mk [(0, pD (.sl (p0.map (DH eB)))), (1, oD (.clo (Gn (Kb false (DH eB)) tB p1))), (7, iD ((p0.length : Int))), (8, iD v1)] []) (fun v2 => mk [] []) (fun _ _ => rfl) (sm [] _ _ rfl rfl) (fun j1 n1 v1 h => ?_) (fun v2 s h hs => ?_)
 ·unfold AX at h
  refine wq rfl (AV rfl (Ac (AC ?_)))
  refine Bm h (fun h => ?_) fun h => ?_
  ·refine Al (AC (AF (wq rfl (qm rfl (qa rfl (Ac (wq rfl (qw 3 rfl ?_))))))))
   refine B6 h fun v4 a4 b4 h => qi CH Hd a4 (Ai b4) rfl (qk Jp rfl ?_)
   refine B5 h fun v5 a5 h => Je (ds0 := [_]) (ar := (Kb false (DH eB)) v4) (.p rfl) rfl rfl ⟨rfl, tv⟩ rfl rfl rfl (In (I7 _ _ (S4 T9)) a5) ?_
   refine Ac ?_
   refine Bm h (fun h => ?_) fun h => ?_
   ·refine wq rfl (qm rfl (qe rfl ?_))
    obtain rfl := sj h
    refine Ag (sm [] [(4, iD v1)] [] rfl rfl) (Ap ?_)
    exact ⟨⟨[_], tm, rfl⟩, tv⟩
   ·refine Al (Aj Aw rfl (A6 rfl (qm rfl (Ac ?_))))
    exact sn [] h
  ·refine AP ?_
   exact sn [] h
 ·refine Ag hs (wq rfl (qe rfl ?_))
  obtain rfl := sj h
  refine Ag (sm [] [(4, iD ((-1)))] [] rfl rfl) (Ap ?_)
  exact ⟨⟨[_], tm, rfl⟩, tv⟩
theorem FB (N : Nat) (p0 : List (List Bool)) (p1 : (List Bool) → Option Bool) (r : Bool) (h : BL N p0 p1 = some r) : Ao Tryz.prog 140 [pD (.sl (p0.map (DH eB))), oD (.clo (Gn (Kb false (DH eB)) tB p1))] [] (bD r) := by
 unfold BL at h
 refine cw (n := 9) (rs := [.tmp 4]) Tryz.func140 fun w0 S0 => ?_
 refine wq rfl (qa rfl (Ac (wq rfl (qw 2 rfl ?_))))
 refine B5 h fun v1 a1 h => Ax [] (F1 N p0 p1 v1 a1) SX rfl (FY rfl (qe rfl ?_))
 obtain rfl := sj h
 refine Ag (sm [] [(4, bD ((decide (0 ≤ v1))))] [] rfl rfl) (Ap ?_)
 exact ⟨⟨[_], tm, rfl⟩, tv⟩
theorem H9 (N : Nat) (p0 : List (List Bool)) (p1 : Int) (p2 : Int) (r : Bool) (h : Dv N p0 p1 p2 = some r) : Ao Tryz.prog 111 [pD (.sl (p0.map (DH eB))), iD p1, iD p2] [] (bD r) := by
 unfold Dv at h
 refine cw (n := 17) (rs := [.tmp 6]) Tryz.func111 fun w0 S0 => ?_
 refine wq rfl (qb rfl (qe rfl ?_))
 refine AN h (fun v1 => mk [(6, bD v1)] []) (fun j1 h => ?_) (fun v1 h => ?_)
 ·refine Aj Aw rfl (qm rfl (AB CH rfl (qm rfl (BO rfl (qm rfl ?_)))))
  refine D2 11 h rfl (fun h => ?_) fun h => ?_
  ·refine qm rfl (DU (Ja 5 [.val (.int .i64 p2)] rfl rfl) ?_)
   refine IM (capD := [_]) (Gn (Kb false (DH eB)) tB ((fun (x : List Bool) => Cs N x p2))) (.g rfl rfl) SC rfl ⟨rfl, tv⟩ rfl (fun ar t ht => by obtain ⟨x, r, rfl, hq, rfl⟩ := Gi ht; exact JG N x p2 r hq) ?_
   refine B5 h fun v3 a3 h => Ax [] (FB N p0 ((fun (x : List Bool) => Cs N x p2)) v3 a3) Tb rfl (Cr rfl (qp rfl (qe rfl ?_)))
   exact sn [] h
  ·refine qw 4 rfl (qp rfl (qe rfl ?_))
   exact sn [] h
 ·obtain rfl := sj h
  refine Ag (sm [] [(6, bD v1)] [] rfl rfl) (Ap ?_)
  exact ⟨⟨[_], tm, rfl⟩, tv⟩
theorem Lq (N : Nat) (p0 : Ae) (p1 : As) (r : Int) (h : En N p0 p1 = some r) : Ao Tryz.prog 77 [.e (.agg (Ah p0)), .e (.agg (Bu p1))] [] (iD r) := by
 unfold En at h
 refine cw (n := 87) (rs := [.tmp 4]) Tryz.func77 fun w0 S0 => ?_
 refine wq rfl (qb rfl (qb rfl (qa rfl (Ac (wp rfl (qf ET rfl (ql CR rfl (qf Kd rfl (ql Ql rfl ?_)))))))))
 refine B5 h fun v1 a1 h => Ax [] (MI N p1.fc p1.fq v1 a1) SI rfl (Cr rfl (Ac ?_))
 refine Bm h (fun h => ?_) fun h => ?_
 ·refine wq rfl (qe rfl ?_)
  obtain rfl := sj h
  refine Ag (sm [] [(4, iD 1)] [] rfl rfl) (Ap ?_)
  exact ⟨⟨[_], tm, rfl⟩, tv⟩
 ·refine Al (AC ?_)
  refine AN h (fun v3 => mk [(2, oD (.ptr 2 0)), (3, oD (.ptr 3 0)), (29, bD v3)] [(2, .box (Ah p0)), (3, .box (Bu p1))]) (fun j3 h => ?_) (fun v3 h => ?_)
  ·refine Aj Aw rfl (qf Ec rfl (ql CR rfl (qf B8 rfl (ql BG rfl (AB AG rfl ?_)))))
   refine B5 h fun v4 a4 h => Ax [] (Fz N p1.ff ((p0.fa.length : Int)) v4 a4) Q4 rfl (Cr rfl (qm rfl ?_))
   refine D2 21 h rfl (fun h => ?_) fun h => ?_
   ·refine qw 7 rfl (qp rfl (Ac ?_))
    exact sn [] h
   ·refine qf Ij rfl (ql CR rfl (qf B8 rfl (ql BG rfl (AB AG rfl ?_))))
    refine B5 h fun v6 a6 h => Ax [] (Fz N p1.fk ((p0.fa.length : Int)) v6 a6) Q4 rfl (Cr rfl (qp rfl (Ac ?_)))
    exact sn [] h
  ·refine Bm h (fun h => ?_) fun h => ?_
   ·refine wq rfl (qe rfl ?_)
    obtain rfl := sj h
    refine Ag (sm [] [(4, iD 4)] [] rfl rfl) (Ap ?_)
    exact ⟨⟨[_], tm, rfl⟩, tv⟩
   ·refine Al (wq rfl (qf B8 rfl (ql BG rfl (qf Ec rfl (ql CR rfl ?_)))))
    refine B6 h fun v8 a8 b8 h => qi AG EH a8 (Ai b8) rfl (qk CR rfl (qa rfl (Ac (wq rfl (qf ET rfl (ql CR rfl (BO rfl (qa rfl (Ac (AC ?_))))))))))
    refine AN h (fun v9 => mk [(3, oD (.ptr 3 0)), (70, bD v9)] [(3, .box (Bu p1))]) (fun j9 h => ?_) (fun v9 h => ?_)
    ·refine Aj Aw rfl (qf DE rfl (ql EF rfl (qm rfl (qf B8 rfl (ql BG rfl (qf Ij rfl (ql CR rfl ?_)))))))
     refine B6 h fun v10 a10 b10 h => qi AG EH a10 (Ai b10) rfl (qk CR rfl ?_)
     refine B5 h fun v11 a11 h => Ax [] (H9 N p1.fh v8 v10 v11 a11) Rs rfl (Cr rfl (qm rfl ?_))
     refine D2 50 h rfl (fun h => ?_) fun h => ?_
     ·refine qw 2 rfl (qu rfl (qu rfl (qu rfl (qu rfl (qu rfl (qu rfl (qn rfl (qp rfl (qw 4 rfl (qu rfl (qu rfl (qu rfl (qu rfl (qn rfl (qp rfl (AY (by kernel_rfl) ?_))))))))))))))))
      exact sn [] h
     ·refine qw 2 rfl ?_
      refine D2 52 h rfl (fun h => ?_) fun h => ?_
      ·refine qf Dm rfl (ql EF rfl (qw 2 rfl ?_))
       refine B5 h fun v14 a14 h => Ax [] (H9 N p1.fi v8 v8 v14 a14) Rs rfl (Cr rfl (qp rfl (qp rfl (qm rfl ?_))))
       refine D2 61 h rfl (fun h => ?_) fun h => ?_
       ·refine qw 3 rfl (qu rfl (qu rfl (qu rfl (qu rfl (qn rfl (qp rfl (AY (by kernel_rfl) ?_)))))))
        exact sn [] h
       ·refine qm rfl (Cr rfl (qm rfl ?_))
        refine D2 64 h rfl (fun h => ?_) fun h => ?_
        ·refine qf Dm rfl (ql EF rfl (AB CH rfl (Dx rfl (qp rfl (qp rfl (AY (by kernel_rfl) ?_))))))
         exact sn [] h
        ·refine qw 4 rfl (qp rfl (qp rfl (AY (by kernel_rfl) ?_)))
         exact sn [] h
      ·refine qw 6 rfl (qp rfl (qp rfl (qw 2 rfl (Cr rfl (qm rfl ?_)))))
       refine D2 64 h rfl (fun h => ?_) fun h => ?_
       ·refine qf Dm rfl (ql EF rfl (AB CH rfl (Dx rfl (qp rfl (qp rfl (AY (by kernel_rfl) ?_))))))
        exact sn [] h
       ·refine qw 4 rfl (qp rfl (qp rfl (AY (by kernel_rfl) ?_)))
        exact sn [] h
    ·refine Bm h (fun h => ?_) fun h => ?_
     ·refine wq rfl (qe rfl ?_)
      obtain rfl := sj h
      refine Ag (sm [] [(4, iD 6)] [] rfl rfl) (Ap ?_)
      exact ⟨⟨[_], tm, rfl⟩, tv⟩
     ·refine Al (wp rfl (qf Dm rfl (ql EF rfl (AB CH rfl (qm rfl (Ac ?_))))))
      refine Az (L := BS N p1) h (fun v19 => mk [(3, oD (.ptr 3 0)), (73, iD ((p1.fi.length : Int))), (74, iD v19)] [(3, .box (Bu p1))]) (fun v20 => mk [] []) (fun _ _ => rfl) (sm [] _ _ rfl rfl) (fun j19 n19 v19 h => ?_) (fun v20 s h hs => ?_)
      ·unfold BS at h
       refine wq rfl (AV rfl (Ac (AC ?_)))
       refine Bm h (fun h => ?_) fun h => ?_
       ·refine Al (AC (AF (wq rfl (qm rfl (qa rfl (Ac (wq rfl (qf Dm rfl (ql EF rfl (qm rfl ?_))))))))))
        refine B6 h fun v22 a22 b22 h => qi CH Hd a22 (Ai b22) rfl (qk Jp rfl (qm rfl ?_))
        refine B6 h fun v23 a23 b23 h => qi E8 O9 a23 (Ai b23) rfl (qk Ql rfl (Cr rfl (Ac ?_)))
        refine Bm h (fun h => ?_) fun h => ?_
        ·refine wq rfl (qe rfl ?_)
         obtain rfl := sj h
         refine Ag (sm [] [(4, iD 1)] [] rfl rfl) (Ap ?_)
         exact ⟨⟨[_], tm, rfl⟩, tv⟩
        ·refine Al (Aj Aw rfl (A6 rfl (qm rfl (Ac ?_))))
         exact sn [] h
       ·refine AP ?_
        exact sn [] h
      ·refine Ag hs (wq rfl (qe rfl ?_))
       obtain rfl := sj h
       refine Ag (sm [] [(4, iD 0)] [] rfl rfl) (Ap ?_)
       exact ⟨⟨[_], tm, rfl⟩, tv⟩
theorem Cl (N : Nat) (p0 : Ae) (r : Int) (h : Bb N p0 = some r) : Ao Tryz.prog 48 [.e (.agg (Ah p0))] [] (iD r) := by
 unfold Bb at h
 refine cw (n := 81) (rs := [.tmp 2]) Tryz.func48 fun w0 S0 => ?_
 refine wq rfl (qb rfl (qa rfl (Ac (wq rfl (qf B8 rfl (ql BG rfl (AB AG rfl (qa rfl (Ac (AC ?_))))))))))
 refine AN h (fun v1 => mk [(1, oD (.ptr 1 0)), (3, iD ((p0.fa.length : Int))), (19, bD v1)] [(1, .box (Ah p0))]) (fun j1 h => ?_) (fun v1 h => ?_)
 ·refine Aj Aw rfl (qm rfl (Dx rfl (qm rfl ?_)))
  refine D2 14 h rfl (fun h => ?_) fun h => ?_
  ·refine qw 4 rfl (qp rfl (Ac ?_))
   exact sn [] h
  ·refine qf BE rfl (ql Fc rfl (AB Co rfl (Dx rfl (qp rfl (Ac ?_)))))
   exact sn [] h
 ·refine Bm h (fun h => ?_) fun h => ?_
  ·refine wq rfl (qe rfl ?_)
   obtain rfl := sj h
   refine Ag (sm [] [(2, iD 3)] [] rfl rfl) (Ap ?_)
   exact ⟨⟨[_], tm, rfl⟩, tv⟩
  ·refine Al (AC ?_)
   refine AN h (fun v4 => mk [(1, oD (.ptr 1 0)), (31, bD v4)] [(1, .box (Ah p0))]) (fun j4 h => ?_) (fun v4 h => ?_)
   ·refine Aj Aw rfl (qf FQ rfl (ql BG rfl (AB AG rfl (qm rfl (BU rfl (qm rfl ?_))))))
    refine D2 25 h rfl (fun h => ?_) fun h => ?_
    ·refine qw 5 rfl (qp rfl (Ac ?_))
     exact sn [] h
    ·refine qf GK rfl (ql BG rfl (AB AG rfl (qm rfl (BU rfl (qp rfl (Ac ?_))))))
     exact sn [] h
   ·refine Bm h (fun h => ?_) fun h => ?_
    ·refine wq rfl (qe rfl ?_)
     obtain rfl := sj h
     refine Ag (sm [] [(2, iD 6)] [] rfl rfl) (Ap ?_)
     exact ⟨⟨[_], tm, rfl⟩, tv⟩
    ·refine Al (wp rfl (qf B8 rfl (ql BG rfl (AB AG rfl (qm rfl (Ac ?_))))))
     refine Az (L := Bf N p0) h (fun v7 => mk [(1, oD (.ptr 1 0)), (33, pD (.sl (p0.fa.map Au))), (34, iD ((p0.fa.length : Int))), (35, iD v7)] [(1, .box (Ah p0))]) (fun v8 => mk [(1, oD (.ptr 1 0))] [(1, .box (Ah p0))]) (fun _ _ => rfl) (sm [] _ _ rfl rfl) (fun j7 n7 v7 h => ?_) (fun v8 s h hs => ?_)
     ·unfold Bf at h
      refine wq rfl (AV rfl (Ac (AC ?_)))
      refine Bm h (fun h => ?_) fun h => ?_
      ·refine Al (AC (AF (wq rfl (qm rfl ?_))))
       refine B6 h fun v10 a10 b10 h => qi AG EH a10 (Ai b10) rfl (qk CR rfl (qa rfl (qe rfl ?_)))
       refine AN h (fun v11 => mk [(1, oD (.ptr 1 0)), (33, pD (.sl (p0.fa.map Au))), (34, iD ((p0.fa.length : Int))), (35, iD v7), (65, bD v11)] [(1, .box (Ah p0))]) (fun j11 h => ?_) (fun v11 h => ?_)
       ·refine Aj Aw rfl (qm rfl (AV rfl (qm rfl ?_)))
        refine D2 42 h rfl (fun h => ?_) fun h => ?_
        ·refine qw 2 rfl (qp rfl (qw 9 rfl (qp rfl (qw 9 rfl (qp rfl (Ac ?_))))))
         exact sn [] h
        ·refine qm rfl (Dx rfl (qp rfl (qm rfl ?_)))
         refine D2 46 h rfl (fun h => ?_) fun h => ?_
         ·refine qw 8 rfl (qp rfl (qw 9 rfl (qp rfl (Ac ?_))))
          exact sn [] h
         ·refine qf FQ rfl (ql BG rfl (qm rfl ?_))
          refine B6 h fun v14 a14 b14 h => qi AG EH a14 (Ai b14) rfl (qk CR rfl (qm rfl ?_))
          refine B5 h fun v15 a15 h => Ax [] (Fz N v14 v10 v15 a15) Q4 rfl (Cr rfl (qp rfl (qm rfl ?_)))
          refine D2 56 h rfl (fun h => ?_) fun h => ?_
          ·refine qw 8 rfl (qp rfl (Ac ?_))
           exact sn [] h
          ·refine qf GK rfl (ql BG rfl (qm rfl ?_))
           refine B6 h fun v17 a17 b17 h => qi AG EH a17 (Ai b17) rfl (qk CR rfl (qm rfl ?_))
           refine B5 h fun v18 a18 h => Ax [] (Fz N v17 v10 v18 a18) Q4 rfl (Cr rfl (qp rfl (Ac ?_)))
           exact sn [] h
       ·refine Bm h (fun h => ?_) fun h => ?_
        ·refine wq rfl (qe rfl ?_)
         obtain rfl := sj h
         refine Ag (sm [] [(2, iD 7)] [] rfl rfl) (Ap ?_)
         exact ⟨⟨[_], tm, rfl⟩, tv⟩
        ·refine Al (Aj Aw rfl (A6 rfl (qm rfl (Ac ?_))))
         exact sn [] h
      ·refine AP ?_
       exact sn [] h
     ·refine Ag hs (wp rfl (qf BE rfl (ql Fc rfl (AB Co rfl (qm rfl (Ac ?_))))))
      refine Az (L := Bd N p0) h (fun v20 => mk [(1, oD (.ptr 1 0)), (68, pD (.sl (p0.fb.map AA))), (69, iD ((p0.fb.length : Int))), (70, iD v20)] [(1, .box (Ah p0))]) (fun v21 => mk [] []) (fun _ _ => rfl) (sm [] _ _ rfl rfl) (fun j20 n20 v20 h => ?_) (fun v21 s h hs => ?_)
      ·unfold Bd at h
       refine wq rfl (AV rfl (Ac (AC ?_)))
       refine Bm h (fun h => ?_) fun h => ?_
       ·refine Al (AC (AF (wq rfl ?_)))
        refine B6 h fun v23 a23 b23 h => qi Co C2 a23 (Ai b23) rfl (qK G4 C2 rfl (qz I0 rfl (qs C2 rfl (Ac (wq rfl (qL CD Ce rfl (qL G4 C2 rfl ?_)))))))
        refine B5 h fun v24 a24 h => Ax [] (Lq N p0 v23 v24 a24) TT rfl (qa rfl (Ac (wq rfl (qm rfl (BU rfl (Ac ?_))))))
        refine Bm h (fun h => ?_) fun h => ?_
        ·refine wq rfl (qm rfl (qe rfl ?_))
         obtain rfl := sj h
         refine Ag (sm [] [(2, iD v24)] [] rfl rfl) (Ap ?_)
         exact ⟨⟨[_], tm, rfl⟩, tv⟩
        ·refine Al (Aj Aw rfl (A6 rfl (qm rfl (Ac ?_))))
         exact sn [] h
       ·refine AP ?_
        exact sn [] h
      ·refine Ag hs (wq rfl (qe rfl ?_))
       obtain rfl := sj h
       refine Ag (sm [] [(2, iD 0)] [] rfl rfl) (Ap ?_)
       exact ⟨⟨[_], tm, rfl⟩, tv⟩
theorem Fg (N : Nat) (p0 : Ae) (r : (List Aa)) (h : Cj N p0 = some r) : Ao Tryz.prog 41 [.e (.agg (Ah p0))] [(3, r.map Ab)] (oD (.own 0)) := by
 unfold Cj at h
 refine cw (n := 46) (rs := [.tmp 2]) Tryz.func41 fun w0 S0 => ?_
 refine wq rfl (qb rfl (qa rfl (Ac (wq rfl (qa rfl (Ac (wp rfl (qf BE rfl (ql Fc rfl (AB Co rfl (qm rfl (Ac ?_))))))))))))
 refine Az (L := Bl N p0) h (fun v1 => mk [(3, oD (.own 2001)), (11, pD (.sl (p0.fb.map AA))), (12, iD ((p0.fb.length : Int))), (13, iD v1.2)] [(2001, .vec 3 (v1.1.map Ab))]) (fun v2 => mk [(3, oD (.own 2002))] [(2002, .vec 3 (v2.map Ab))]) (fun _ _ => rfl) ((AW 3 2008 3 rfl rfl rfl).trans (sm [(2001, 2008)] _ _ rfl rfl)) (fun j1 n1 v1 h => ?_) (fun v2 s h hs => ?_)
 ·unfold Bl at h
  refine wq rfl (AV rfl (Ac (AC ?_)))
  refine Bm h (fun h => ?_) fun h => ?_
  ·refine Al (AC (AF (wq rfl (qm rfl ?_))))
   refine B6 h fun v4 a4 b4 h => qi Co C2 a4 (Ai b4) rfl (qK G4 C2 rfl (qz I0 rfl (qa rfl (qs C2 rfl (Ac (wq rfl (qf DE rfl (ql EF rfl (AB CH rfl (qm rfl (Ac ?_)))))))))))
   refine Az (L := Bw N v1 v4) h (fun v5 => mk [(3, oD (.own 2003)), (4, iD v1.2), (11, pD (.sl (p0.fb.map AA))), (12, iD ((p0.fb.length : Int))), (13, iD v1.2), (19, pD (.sl (v4.fh.map (DH eB)))), (20, iD ((v4.fh.length : Int))), (21, iD v5.2)] [(2003, .vec 3 (v5.1.map Ab))]) (fun v6 => mk [(3, oD (.own 2004)), (11, pD (.sl (p0.fb.map AA))), (12, iD ((p0.fb.length : Int))), (13, iD v1.2)] [(2004, .vec 3 (v6.map Ab))]) (fun _ _ => rfl) (sm [(2003, 2001)] _ _ rfl rfl) (fun j5 n5 v5 h => ?_) (fun v6 s h hs => ?_)
   ·unfold Bw at h
    refine wq rfl (AV rfl (Ac (AC ?_)))
    refine Bm h (fun h => ?_) fun h => ?_
    ·refine Al (AC (AF (wq rfl (qm rfl ?_))))
     refine B6 h fun v8 a8 b8 h => qi CH Hd a8 (Ai b8) rfl (qk Jp rfl (qa rfl (qa rfl (Ac (wq rfl (qm rfl (AB E8 rfl (qm rfl (Ac ?_)))))))))
     refine Az (L := BK N v1 v5 v8) h (fun v9 => mk [(3, oD (.own 2005)), (4, iD v1.2), (6, iD v5.2), (11, pD (.sl (p0.fb.map AA))), (12, iD ((p0.fb.length : Int))), (13, iD v1.2), (19, pD (.sl (v4.fh.map (DH eB)))), (20, iD ((v4.fh.length : Int))), (21, iD v5.2), (26, pD (.sl (v8.map eB))), (27, iD ((v8.length : Int))), (28, iD v9.2)] [(2005, .vec 3 (v9.1.map Ab))]) (fun v10 => mk [(3, oD (.own 2006)), (4, iD v1.2), (11, pD (.sl (p0.fb.map AA))), (12, iD ((p0.fb.length : Int))), (13, iD v1.2), (19, pD (.sl (v4.fh.map (DH eB)))), (20, iD ((v4.fh.length : Int))), (21, iD v5.2)] [(2006, .vec 3 (v10.map Ab))]) (fun _ _ => rfl) (sm [(2005, 2003)] _ _ rfl rfl) (fun j9 n9 v9 h => ?_) (fun v10 s h hs => ?_)
     ·unfold BK at h
      refine wq rfl (AV rfl (Ac (AC ?_)))
      refine Bm h (fun h => ?_) fun h => ?_
      ·refine Al ?_
       refine AN h (fun v12 => mk [(3, oD (.own 2007)), (4, iD v1.2), (6, iD v5.2), (11, pD (.sl (p0.fb.map AA))), (12, iD ((p0.fb.length : Int))), (13, iD v1.2), (19, pD (.sl (v4.fh.map (DH eB)))), (20, iD ((v4.fh.length : Int))), (21, iD v5.2), (26, pD (.sl (v8.map eB))), (27, iD ((v8.length : Int))), (28, iD v9.2)] [(2007, .vec 3 (v12.map Ab))]) (fun j12 h => ?_) (fun v12 h => ?_)
       ·refine AF (wq rfl (qm rfl ?_))
        refine B6 h fun v13 a13 b13 h => qi E8 O9 a13 (Ai b13) rfl (qk Ql rfl (qa rfl (qa rfl (Ac (wq rfl (qm rfl (Cr rfl (Ac ?_))))))))
        refine Bm h (fun h => ?_) fun h => ?_
        ·refine Aj Aw rfl (qw 4 rfl (B3 Fq NP rfl (EZ A5 BW Fq rfl ?_)))
         refine GH h fun c15 h => E4 (f := Ab) A5 A5 BW JV Fq c15 rfl (qe rfl ?_)
         exact sn [(2007, 41)] h
        ·refine Al ?_
         exact sn [(2007, 2005)] h
       ·refine Aj Aw rfl (A6 rfl (qm rfl (Ac ?_)))
        exact sn [(2005, 2007)] h
      ·refine AP ?_
       exact sn [(2006, 2005)] h
     ·refine Ag hs (Aj Aw rfl (A6 rfl (qm rfl (Ac ?_))))
      exact sn [(2003, 2006)] h
    ·refine AP ?_
     exact sn [(2004, 2003)] h
   ·refine Ag hs (Aj Aw rfl (A6 rfl (qm rfl (Ac ?_))))
    exact sn [(2001, 2004)] h
  ·refine AP ?_
   exact sn [(2002, 2001)] h
 ·refine Ag hs (wq rfl (qm rfl (qe rfl ?_)))
  obtain rfl := sj h
  refine Ag (sm [(1000, 2002)] [(2, oD (.own 1000))] [(1000, .vec 3 (v2.map Ab))] rfl rfl) (Ap ?_)
  exact ⟨⟨[_], tm, rfl⟩, ⟨rfl, tv⟩⟩
theorem GM (N : Nat) (p0 : Ae) (r : (List Aa) × Int) (h : Di N p0 = some r) : Ao Tryz.prog 21 [.e (.agg (Ah p0))] [(3, r.1.map Ab)] (.tup [.one (.own 0), .one (iC r.2)]) := by
 unfold Di at h
 refine cw (n := 12) (rs := [.tmp 2, .tmp 3]) Tryz.func21 fun w0 S0 => ?_
 refine wq rfl (qb rfl (qa rfl (qa rfl (Ac (wp rfl (qL CD Ce rfl ?_))))))
 refine B5 h fun v1 a1 h => Ax [] (Cl N p0 v1 a1) ON rfl (qa rfl (Ac (wq rfl (qm rfl (BU rfl (Ac ?_))))))
 refine Bm h (fun h => ?_) fun h => ?_
 ·refine wq rfl (qm rfl (qa rfl (qe rfl ?_)))
  obtain rfl := sj h
  refine Ag ((AW 2 2001 3 rfl rfl rfl).trans (sm [(1000, 2001)] [(2, oD (.own 1000)), (3, iD v1)] [(1000, .vec 3 ((([] : List Aa)).map Ab))] rfl rfl)) (Ap ?_)
  exact ⟨⟨[_, _], ⟨.tmp _ _ rfl, tm⟩, rfl⟩, ⟨rfl, tv⟩⟩
 ·refine Al (wq rfl (qL CD Ce rfl ?_))
  refine B5 h fun v3 a3 h => Ax [2002] (Fg N p0 v3 a3) Se rfl (qa rfl (qe rfl ?_))
  obtain rfl := sj h
  refine Ag (sm [(1000, 2002)] [(2, oD (.own 1000)), (3, iD 0)] [(1000, .vec 3 (v3.map Ab))] rfl rfl) (Ap ?_)
  exact ⟨⟨[_, _], ⟨.tmp _ _ rfl, tm⟩, rfl⟩, ⟨rfl, tv⟩⟩
theorem JN (N : Nat) (rc : (List Aa) → Int → Option ((List (List Aa)))) (hrc : ∀ (p0 : List Aa) (p1 : Int) (r : (List (List Aa))), rc p0 p1 = some r → Ao Tryz.prog 51 [pD (.sl (p0.map Ab)), iD p1] [(1, r.map (DH Ab))] (oD (.own 0))) (p0 : List Aa) (p1 : Int) (r : (List (List Aa))) (h : Fi N rc p0 p1 = some r) : Ao Tryz.prog 51 [pD (.sl (p0.map Ab)), iD p1] [(1, r.map (DH Ab))] (oD (.own 0)) := by
 unfold Fi at h
 refine cw (n := 42) (rs := [.tmp 4]) Tryz.func51 fun w0 S0 => ?_
 refine wq rfl (qa rfl (Ac (wp rfl (qm rfl (BO rfl (Ac ?_))))))
 refine Bm h (fun h => ?_) fun h => ?_
 ·refine wq rfl (EZ Fv Lk Pp rfl (qe rfl ?_))
  obtain rfl := sj h
  refine Ag (sm [(1000, 12)] [(4, oD (.own 1000))] [(1000, .vec 1 ((([([] : List Aa)] : List (List Aa))).map (DH Ab)))] rfl rfl) (Ap ?_)
  exact ⟨⟨[_], tm, rfl⟩, ⟨rfl, tv⟩⟩
 ·refine Al (wq rfl (qa rfl (Ac (wp rfl (qm rfl (AB A5 rfl (qm rfl (Ac ?_))))))))
  refine Az (L := D0 N p0 p1 rc) h (fun v2 => mk [(0, pD (.sl (p0.map Ab))), (1, iD p1), (5, oD (.own 2001)), (13, pD (.sl (p0.map Ab))), (14, iD ((p0.length : Int))), (15, iD v2.2)] [(2001, .vec 1 (v2.1.map (DH Ab)))]) (fun v3 => mk [(5, oD (.own 2002))] [(2002, .vec 1 (v3.map (DH Ab)))]) (fun _ _ => rfl) ((AW 5 2007 1 rfl rfl rfl).trans (sm [(2001, 2007)] _ _ rfl rfl)) (fun j2 n2 v2 h => ?_) (fun v3 s h hs => ?_)
  ·unfold D0 at h
   refine wq rfl (AV rfl (Ac (AC ?_)))
   refine Bm h (fun h => ?_) fun h => ?_
   ·refine Al (AC (AF (wq rfl (qm rfl ?_))))
    refine B6 h fun v5 a5 b5 h => qi A5 BW a5 (Ai b5) rfl (qK GI BW rfl (qz Fq rfl (qa rfl (qs BW rfl (Ac (wq rfl (qw 2 rfl (A6 rfl ?_))))))))
    refine GH h fun c6 h => QM (.p rfl) rfl A5 BW (Ks (f := Ab) (n := 3) (fun _ => rfl) _) (.some _ _ _ _ c6.1) (.none _) ⟨rfl, tv⟩ tv (by have := c6.2.1; (try simp only [List.length_map]); omega) (by have := c6.2.2; (try simp only [List.length_map]); omega) (PE Ab p0 _ _ (p0.length - ((wI .i64 (v2.2 + 1))).toNat) (by rw [List.length_map])) ?_
    refine qm rfl (IY rfl ?_)
    refine B5 h fun v7 a7 h => Ax [2003] (hrc (((p0.drop ((wI .i64 (v2.2 + 1))).toNat).take (p0.length - ((wI .i64 (v2.2 + 1))).toNat))) ((wI .i64 (p1 - 1))) v7 a7) SZ rfl (C0 Fv rfl (qm rfl (Ac ?_)))
    refine Az (L := DX N v5 v7) h (fun v8 => mk [(0, pD (.sl (p0.map Ab))), (1, iD p1), (5, oD (.own 2004)), (7, oD (.ptr 7 0)), (13, pD (.sl (p0.map Ab))), (14, iD ((p0.length : Int))), (15, iD v2.2), (26, oD (.own 2005)), (27, iD ((v7.length : Int))), (28, iD v8.2)] [(7, .box (DC v5)), (2004, .vec 1 (v8.1.map (DH Ab))), (2005, .vec 1 (v7.map (DH Ab)))]) (fun v9 => mk [(0, pD (.sl (p0.map Ab))), (1, iD p1), (5, oD (.own 2006)), (13, pD (.sl (p0.map Ab))), (14, iD ((p0.length : Int))), (15, iD v2.2)] [(2006, .vec 1 (v9.map (DH Ab)))]) (fun _ _ => rfl) (sm [(2004, 2001), (2005, 2003)] _ _ rfl rfl) (fun j8 n8 v8 h => ?_) (fun v9 s h hs => ?_)
    ·unfold DX at h
     refine wq rfl (AV rfl (Ac (AC ?_)))
     refine Bm h (fun h => ?_) fun h => ?_
     ·refine Al (AC (AF (wq rfl ?_)))
      refine B6 h fun v11 a11 b11 h => qI Fv Lk a11 (Ai b11) rfl (qj Qk (Ai b11) rfl (qa rfl (Ac (Aj Aw rfl (qm rfl (qL GI BW rfl (EZ A5 BW Fq rfl (qm rfl ?_))))))))
      refine GH h fun c12 h => IQ (f := Ab) A5 A5 BW JV Fq (fun _ => rfl) c12 rfl (DU (Cz 36 _ _ rfl rfl) (EZ Fv Lk Pp rfl ?_))
      refine GH h fun c13 h => E4 (f := (DH Ab)) Fv Fv Lk Rg Pp c13 rfl (qa rfl (Ac (Aj Aw rfl (A6 rfl (qm rfl (Ac ?_))))))
      exact sn [(2004, 38)] h
     ·refine AP ?_
      exact sn [(2006, 2004)] h
    ·refine Ag hs (Aj Aw rfl (A6 rfl (qm rfl (Ac ?_))))
     exact sn [(2001, 2006)] h
   ·refine AP ?_
    exact sn [(2002, 2001)] h
  ·refine Ag hs (wq rfl (qm rfl (qe rfl ?_)))
   obtain rfl := sj h
   refine Ag (sm [(1000, 2002)] [(4, oD (.own 1000))] [(1000, .vec 1 (v3.map (DH Ab)))] rfl rfl) (Ap ?_)
   exact ⟨⟨[_], tm, rfl⟩, ⟨rfl, tv⟩⟩
theorem Hq (N : Nat) : ∀ (k : Nat) (p0 : List Aa) (p1 : Int) (r : (List (List Aa))), Ee N k p0 p1 = some r → Ao Tryz.prog 51 [pD (.sl (p0.map Ab)), iD p1] [(1, r.map (DH Ab))] (oD (.own 0))
 | 0, _, _, _, h => by cases h
 | k + 1, p0, p1, r, h => JN N (Ee N k) (Hq N k) p0 p1 r h
theorem Km (N : Nat) (p0 : List Aa) (p1 : Int) (r : (List (List Aa))) (h : HP N p0 p1 = some r) : Ao Tryz.prog 51 [pD (.sl (p0.map Ab)), iD p1] [(1, r.map (DH Ab))] (oD (.own 0)) := Hq N N p0 p1 r h
theorem Bp (N : Nat) (p0 : List Int) (r : (List Int)) (h : AZ N p0 = some r) : Ao Tryz.prog 60 [pD (.sl (p0.map Au))] [(1, r.map Au)] (oD (.own 0)) := by
 unfold AZ at h
 refine cw (n := 8) (rs := [.tmp 2]) Tryz.func60 fun w0 S0 => ?_
 refine wq rfl (qa rfl (Ac (wp rfl (qm rfl ?_))))
 refine Jb (.p rfl) rfl AG ?_
 refine Ac ?_
 refine Jg rfl (fun c2 => ?_) ?_
 ·have c2 := List.map_eq_nil_iff.1 c2
  rw [c2] at h
  have h : (some (([] : List Int))) = some r := h
  refine wq rfl (qe rfl ?_)
  obtain rfl := sj h
  refine Ag ((AW 2 2001 1 rfl rfl rfl).trans (sm [(1000, 2001)] [(2, oD (.own 1000))] [(1000, .vec 1 ((([] : List Int)).map Au))] rfl rfl)) (Ap ?_)
  exact ⟨⟨[_], tm, rfl⟩, ⟨rfl, tv⟩⟩
 ·refine Al (wq rfl (EZ AG EH OO rfl (qm rfl ?_)))
  refine GH h fun c1 h => IQ (f := Au) AG AG EH Qn OO (fun _ => rfl) c1 rfl (qe rfl ?_)
  obtain rfl := sj h
  refine Ag (sm [(1000, 7)] [(2, oD (.own 1000))] [(1000, .vec 1 (((([] : List Int)) ++ p0).map Au))] rfl rfl) (Ap ?_)
  exact ⟨⟨[_], tm, rfl⟩, ⟨rfl, tv⟩⟩
theorem EP (N : Nat) (p0 : List (List Bool)) (r : (List (List Bool))) (h : CN N p0 = some r) : Ao Tryz.prog 138 [pD (.sl (p0.map (DH eB)))] [(1, r.map (DH eB))] (oD (.own 0)) := by
 unfold CN at h
 refine cw (n := 8) (rs := [.tmp 2]) Tryz.func138 fun w0 S0 => ?_
 refine wq rfl (qa rfl (Ac (wp rfl (qm rfl ?_))))
 refine Jb (.p rfl) rfl CH ?_
 refine Ac ?_
 refine Jg rfl (fun c2 => ?_) ?_
 ·have c2 := List.map_eq_nil_iff.1 c2
  rw [c2] at h
  have h : (some (([] : List (List Bool)))) = some r := h
  refine wq rfl (qe rfl ?_)
  obtain rfl := sj h
  refine Ag ((AW 2 2001 1 rfl rfl rfl).trans (sm [(1000, 2001)] [(2, oD (.own 1000))] [(1000, .vec 1 ((([] : List (List Bool))).map (DH eB)))] rfl rfl)) (Ap ?_)
  exact ⟨⟨[_], tm, rfl⟩, ⟨rfl, tv⟩⟩
 ·refine Al (wq rfl (EZ CH Hd Sc rfl (qm rfl ?_)))
  refine GH h fun c1 h => IQ (f := (DH eB)) CH CH Hd S7 Sc (fun _ => rfl) c1 rfl (qe rfl ?_)
  obtain rfl := sj h
  refine Ag (sm [(1000, 7)] [(2, oD (.own 1000))] [(1000, .vec 1 (((([] : List (List Bool))) ++ p0).map (DH eB)))] rfl rfl) (Ap ?_)
  exact ⟨⟨[_], tm, rfl⟩, ⟨rfl, tv⟩⟩
theorem Eo (N : Nat) (p0 : List Bool) (r : (List Bool)) (h : Cn N p0 = some r) : Ao Tryz.prog 139 [pD (.sl (p0.map eB))] [(1, r.map eB)] (oD (.own 0)) := by
 unfold Cn at h
 refine cw (n := 8) (rs := [.tmp 2]) Tryz.func139 fun w0 S0 => ?_
 refine wq rfl (qa rfl (Ac (wp rfl (qm rfl ?_))))
 refine Jb (.p rfl) rfl E8 ?_
 refine Ac ?_
 refine Jg rfl (fun c2 => ?_) ?_
 ·have c2 := List.map_eq_nil_iff.1 c2
  rw [c2] at h
  have h : (some (([] : List Bool))) = some r := h
  refine wq rfl (qe rfl ?_)
  obtain rfl := sj h
  refine Ag ((AW 2 2001 1 rfl rfl rfl).trans (sm [(1000, 2001)] [(2, oD (.own 1000))] [(1000, .vec 1 ((([] : List Bool)).map eB))] rfl rfl)) (Ap ?_)
  exact ⟨⟨[_], tm, rfl⟩, ⟨rfl, tv⟩⟩
 ·refine Al (wq rfl (EZ E8 O9 TI rfl (qm rfl ?_)))
  refine GH h fun c1 h => IQ (f := eB) E8 E8 O9 Uv TI (fun _ => rfl) c1 rfl (qe rfl ?_)
  obtain rfl := sj h
  refine Ag (sm [(1000, 7)] [(2, oD (.own 1000))] [(1000, .vec 1 (((([] : List Bool)) ++ p0).map eB))] rfl rfl) (Ap ?_)
  exact ⟨⟨[_], tm, rfl⟩, ⟨rfl, tv⟩⟩
theorem Jz (N : Nat) (p0 : As) (r : As) (h : Fe N p0 = some r) : B2 Tryz.prog 109 [.e (.agg (Bu p0))] [] [.dvec 1 [.x 1 []] (r.fh.map (DH eB)), .dvec 1 [.x 1 []] (r.fi.map (DH eB))] (.e (.agg [iC r.fc, iC r.ff, iC r.fk, .pure (.val (.bool r.fq)), .own 0, .own 1])) := by
 unfold Fe at h
 refine CW (n := 48) (rs := [.cell 2 76]) Tryz.func109 rfl rfl rfl (FI rfl) (FI rfl) rfl rfl (FI rfl) rfl (FI rfl) fun w0 S0 GL => ?_
 refine Ag (sm [] [(0, .e (.agg (Bu p0)))] [] rfl rfl) (wq rfl (qb rfl (qz I0 rfl (Ac (wq rfl (qf DE rfl (ql EF rfl ?_)))))))
 refine B5 h fun v1 a1 h => Ax [2001] (EP N p0.fh v1 a1) Rx rfl (qf Dm rfl (ql EF rfl ?_))
 refine B5 h fun v2 a2 h => Ax [2002] (EP N p0.fi v2 a2) Rx rfl (qf DE rfl (qs TA rfl (qf Dm rfl (qs TA rfl (AY (by kernel_rfl) (wp rfl (qf DE rfl (ql EF rfl (C0 CH rfl (qm rfl (Ac (Ag (MZ 2001 1 [.x 1 []] _ rfl) ?_))))))))))))
 refine Az (L := DF N v1) h (fun v3 => mk [(1, oD (.ptr 1 0)), (2, oD (.ptr 2 0)), (15, iD ((v1.length : Int))), (16, iD v3.2)] [(1, .box [iC p0.fc, iC p0.ff, iC p0.fk, .pure (.val (.bool p0.fq)), .own 2003, .own 2004]), (2, .box [iC 0, iC 0, iC 0, .pure (.val (.bool false)), .pure (.nil0), .pure (.nil0)]), (2003, .pvec ((v3.2).toNat) 1 [.x 1 []] (v3.1.map (DH eB))), (2004, .vec 1 (v2.map (DH eB)))]) (fun v4 => mk [(1, oD (.ptr 1 0)), (2, oD (.ptr 2 0))] [(1, .box [iC p0.fc, iC p0.ff, iC p0.fk, .pure (.val (.bool p0.fq)), .own 2005, .own 2006]), (2, .box [iC 0, iC 0, iC 0, .pure (.val (.bool false)), .pure (.nil0), .pure (.nil0)]), (2005, .dvec 1 [.x 1 []] (v4.map (DH eB))), (2006, .vec 1 (v2.map (DH eB)))]) (fun _ _ => rfl) (sm [(2003, 2001), (2004, 2002)] _ _ rfl rfl) (fun j3 n3 v3 h => ?_) (fun v4 s h hs => ?_)
 ·unfold DF at h
  refine wq rfl (AV rfl (Ac (AC ?_)))
  refine Bm h (fun h => ?_) fun h => ?_
  ·refine Al (AC (AF (wq rfl (qm rfl (qa rfl (Ac (Aj Aw rfl (qf DE rfl (ql EF rfl (qm rfl (qf DE rfl (ql EF rfl (qm rfl ?_)))))))))))))
   refine B6 h fun v6 a6 b6 h => EO (.p rfl) rfl rfl rfl (Kf (DH eB) v3.1 _ _ _) CH Hd a6 (An b6) ?_
   refine Na (.p rfl) rfl Jp rfl (Ai b6) rfl (Nat.le_refl _) ?_
   refine B5 h fun v7 a7 h => Ax [2007] (Eo N v6 v7 a7) Rr rfl ?_
   refine B6 h fun v8 a8 b8 h => EO (.p rfl) rfl rfl rfl (Kf (DH eB) v3.1 _ _ _) CH Hd a8 (An b8) ?_
   refine LG rfl rfl rfl rfl (rows2 := v7.map eB) (cols2 := []) rfl rfl (Ai b8) rfl Hd rfl rfl (CX (DH eB) v3.1 _ v7) ?_
   refine AY (by kernel_rfl) (Aj Aw rfl (A6 rfl (qm rfl (Ac ?_))))
   exact GH h fun c9 h => OD _ h ((MV 2003 rfl c9).trans (sm [] _ _ rfl rfl))
  ·refine AP ?_
   exact GH h fun c10 h => OD _ h ((MJ 2003 rfl (by rw [List.length_map]; exact c10)).trans (sm [(2005, 2003), (2006, 2004)] _ _ rfl rfl))
 ·refine Ag hs (wp rfl (qf Dm rfl (ql EF rfl (C0 CH rfl (qm rfl (Ac (Ag (MZ 2006 1 [.x 1 []] _ rfl) ?_)))))))
  refine Az (L := Do N v2) h (fun v11 => mk [(1, oD (.ptr 1 0)), (2, oD (.ptr 2 0)), (32, iD ((v2.length : Int))), (33, iD v11.2)] [(1, .box [iC p0.fc, iC p0.ff, iC p0.fk, .pure (.val (.bool p0.fq)), .own 2008, .own 2009]), (2, .box [iC 0, iC 0, iC 0, .pure (.val (.bool false)), .pure (.nil0), .pure (.nil0)]), (2008, .dvec 1 [.x 1 []] (v4.map (DH eB))), (2009, .pvec ((v11.2).toNat) 1 [.x 1 []] (v11.1.map (DH eB)))]) (fun v12 => mk [(1, oD (.ptr 1 0)), (2, oD (.ptr 2 0))] [(1, .box [iC p0.fc, iC p0.ff, iC p0.fk, .pure (.val (.bool p0.fq)), .own 2010, .own 2011]), (2, .box [iC 0, iC 0, iC 0, .pure (.val (.bool false)), .pure (.nil0), .pure (.nil0)]), (2010, .dvec 1 [.x 1 []] (v4.map (DH eB))), (2011, .dvec 1 [.x 1 []] (v12.map (DH eB)))]) (fun _ _ => rfl) (sm [(2008, 2005), (2009, 2006)] _ _ rfl rfl) (fun j11 n11 v11 h => ?_) (fun v12 s h hs => ?_)
  ·unfold Do at h
   refine wq rfl (AV rfl (Ac (AC ?_)))
   refine Bm h (fun h => ?_) fun h => ?_
   ·refine Al (AC (AF (wq rfl (qm rfl (qa rfl (Ac (Aj Aw rfl (qf Dm rfl (ql EF rfl (qm rfl (qf Dm rfl (ql EF rfl (qm rfl ?_)))))))))))))
    refine B6 h fun v14 a14 b14 h => EO (.p rfl) rfl rfl rfl (Kf (DH eB) v11.1 _ _ _) CH Hd a14 (An b14) ?_
    refine Na (.p rfl) rfl Jp rfl (Ai b14) rfl (Nat.le_refl _) ?_
    refine B5 h fun v15 a15 h => Ax [2012] (Eo N v14 v15 a15) Rr rfl ?_
    refine B6 h fun v16 a16 b16 h => EO (.p rfl) rfl rfl rfl (Kf (DH eB) v11.1 _ _ _) CH Hd a16 (An b16) ?_
    refine LG rfl rfl rfl rfl (rows2 := v15.map eB) (cols2 := []) rfl rfl (Ai b16) rfl Hd rfl rfl (CX (DH eB) v11.1 _ v15) ?_
    refine AY (by kernel_rfl) (Aj Aw rfl (A6 rfl (qm rfl (Ac ?_))))
    exact GH h fun c17 h => OD _ h ((MV 2009 rfl c17).trans (sm [] _ _ rfl rfl))
   ·refine AP ?_
    exact GH h fun c18 h => OD _ h ((MJ 2009 rfl (by rw [List.length_map]; exact c18)).trans (sm [(2010, 2008), (2011, 2009)] _ _ rfl rfl))
  ·refine Ag hs (wq rfl (qL G4 C2 rfl (qs C2 rfl (Ac ?_))))
   obtain rfl := sj h
   refine Ag (sm [(1000, 2010), (1001, 2011)] [(2, oD (.ptr 2 0))] [(2, .box [iC p0.fc, iC p0.ff, iC p0.fk, .pure (.val (.bool p0.fq)), .own 1000, .own 1001]), (1000, .dvec 1 [.x 1 []] (v4.map (DH eB))), (1001, .dvec 1 [.x 1 []] (v12.map (DH eB)))] rfl rfl) (Ap ?_)
   exact ⟨⟨[_], ⟨.cellN _ _ _ _ _ _ _ rfl rfl G4 C2 rfl rfl (J8 rfl), tv⟩, rfl⟩, tv, ⟨rfl, rfl, tv⟩⟩
theorem Jd (N : Nat) (p0 : Ae) (p1 : List Int) (p2 : List Int) (r : Ae × Int) (h : E0 N p0 p1 p2 = some r) : B2 Tryz.prog 75 [.e (.agg (Ah p0)), pD (.sl (p1.map Au)), pD (.sl (p2.map Au))] [] [.vec 1 (r.1.fa.map Au), .vec 1 (r.1.fj.map Au), .vec 1 (r.1.fm.map Au), .dvec 6 [.s, .s, .s, .s, .x 1 [.x 1 []], .x 1 [.x 1 []]] (r.1.fb.map AA)] (.tup [.agg [.own 0, .own 1, .own 2, .own 3], .one (iC r.2)]) := by
 unfold E0 at h
 refine CW (n := 49) (rs := [.cell 6 29, .tmp 7]) Tryz.func75 rfl rfl rfl (FI rfl) (FI rfl) rfl rfl (FI rfl) rfl (FI rfl) fun w0 S0 GL => ?_
 refine Ag (sm [] [(0, .e (.agg (Ah p0))), (1, pD (.sl (p1.map Au))), (2, pD (.sl (p2.map Au)))] [] rfl rfl) (wq rfl (qb rfl (qz Ml rfl (qa rfl (Ac (wp rfl (qL CD Ce rfl ?_)))))))
 refine B5 h fun v1 a1 h => Ax [] (Cl N p0 v1 a1) ON rfl (qa rfl (Ac (wq rfl (qm rfl (BU rfl (Ac ?_))))))
 refine Bm h (fun h => ?_) fun h => ?_
 ·refine wq rfl (B3 Ml QL rfl (qm rfl (qs Ce rfl (qe rfl ?_))))
  obtain rfl := sj h
  refine Ag ((A3 6 0 2001 1 _ rfl rfl rfl rfl).trans ((A3 6 1 2002 1 _ rfl rfl rfl rfl).trans ((A3 6 2 2003 1 _ rfl rfl rfl rfl).trans ((A3 6 3 2004 6 _ rfl rfl rfl rfl).trans ((Hr 2004 6 [.s, .s, .s, .s, .x 1 [.x 1 []], .x 1 [.x 1 []]] [] [] rfl rfl).trans (sm [(1000, 2001), (1001, 2002), (1002, 2003), (1003, 2004)] [(6, oD (.ptr 6 0)), (7, iD v1)] [(6, .box [.own 1000, .own 1001, .own 1002, .own 1003]), (1000, .vec 1 ((([] : List Int)).map Au)), (1001, .vec 1 ((([] : List Int)).map Au)), (1002, .vec 1 ((([] : List Int)).map Au)), (1003, .dvec 6 [.s, .s, .s, .s, .x 1 [.x 1 []], .x 1 [.x 1 []]] ((([] : List As)).map AA))] rfl rfl)))))) (Ap ?_)
  exact ⟨⟨[_, _], ⟨.cellN _ _ _ _ _ _ _ rfl rfl CD Ce rfl rfl (J8 rfl), tm⟩, rfl⟩, tv, ⟨rfl, rfl, rfl, rfl, tv⟩⟩
 ·refine Al (wq rfl (qf B8 rfl (ql BG rfl ?_)))
  refine B5 h fun v3 a3 h => Ax [2005] (Bp N p0.fa v3 a3) M1 rfl (qm rfl ?_)
  refine B5 h fun v4 a4 h => Ax [2006] (Bp N p1 v4 a4) M1 rfl (qm rfl ?_)
  refine B5 h fun v5 a5 h => Ax [2007] (Bp N p2 v5 a5) M1 rfl (B3 Ml QL rfl (qz Ml rfl (qs Ce rfl (Ac (wp rfl (qf BE rfl (ql Fc rfl (AB Co rfl (qm rfl (Ac ?_))))))))))
  refine Az (L := Dl N p0) h (fun v6 => mk [(6, oD (.ptr 6 0)), (9, oD (.ptr 9 0)), (28, pD (.sl (p0.fb.map AA))), (29, iD ((p0.fb.length : Int))), (30, iD v6.2)] [(6, .box [.pure (.nil0), .pure (.nil0), .pure (.nil0), .pure (.nil0)]), (9, .box [.own 2008, .own 2009, .own 2010, .own 2011]), (2008, .vec 1 (v3.map Au)), (2009, .vec 1 (v4.map Au)), (2010, .vec 1 (v5.map Au)), (2011, .dvec 6 [.s, .s, .s, .s, .x 1 [.x 1 []], .x 1 [.x 1 []]] (v6.1.map AA))]) (fun v7 => mk [(6, oD (.ptr 6 0)), (9, oD (.ptr 9 0))] [(6, .box [.pure (.nil0), .pure (.nil0), .pure (.nil0), .pure (.nil0)]), (9, .box [.own 2012, .own 2013, .own 2014, .own 2015]), (2012, .vec 1 (v3.map Au)), (2013, .vec 1 (v4.map Au)), (2014, .vec 1 (v5.map Au)), (2015, .dvec 6 [.s, .s, .s, .s, .x 1 [.x 1 []], .x 1 [.x 1 []]] (v7.map AA))]) (fun _ _ => rfl) ((A3 9 3 2018 6 _ rfl rfl rfl rfl).trans ((Hr 2018 6 [.s, .s, .s, .s, .x 1 [.x 1 []], .x 1 [.x 1 []]] [] [] rfl rfl).trans (sm [(2008, 2005), (2009, 2006), (2010, 2007), (2011, 2018)] _ _ rfl rfl))) (fun j6 n6 v6 h => ?_) (fun v7 s h hs => ?_)
  ·unfold Dl at h
   refine wq rfl (AV rfl (Ac (AC ?_)))
   refine Bm h (fun h => ?_) fun h => ?_
   ·refine Al (AC (AF (wq rfl ?_)))
    refine B6 h fun v9 a9 b9 h => qi Co C2 a9 (Ai b9) rfl (qK G4 C2 rfl (qz I0 rfl (qs C2 rfl (Ac (Aj Aw rfl (qf BE rfl (ql Fc rfl (qL G4 C2 rfl ?_))))))))
    refine B5 h fun v10 a10 h => Fl (ds0 := [_]) [] [2016, 2017] [] (Jz N v9 v10 a10) (.p rfl) Tx rfl ⟨rfl, tv⟩ rfl rfl (by decide) tv rfl (Ck rfl) ⟨rfl, rfl, tv⟩ tv rfl rfl rfl ?_
    refine Lf (x := .agg [iC v10.fc, iC v10.ff, iC v10.fk, .pure (.val (.bool v10.fq)), .own 2016, .own 2017]) (cs := [iC v10.fc, iC v10.ff, iC v10.fk, .pure (.val (.bool v10.fq)), .own 2016, .own 2017]) (ts := [.val (.int .i64 v10.fc), .val (.int .i64 v10.ff), .val (.int .i64 v10.fk), .val (.bool v10.fq), .sl (v10.fh.map (DH eB)), .sl (v10.fi.map (DH eB))]) [.s, .s, .s, .s, .x 1 [.x 1 []], .x 1 [.x 1 []]] [(2016, .dvec 1 [.x 1 []] (v10.fh.map (DH eB))), (2017, .dvec 1 [.x 1 []] (v10.fi.map (DH eB)))] (.p rfl) rfl rfl rfl rfl rfl ⟨rfl, rfl, tv⟩ ⟨rfl, rfl, rfl, rfl, rfl, rfl, tv⟩ rfl rfl rfl Co C2 I0 (FI rfl) ?_
    refine GH h fun c11 h => LI (.p rfl) rfl rfl rfl rfl rfl (by decide) Co Co C2 TD (FI rfl) I0 rfl (Or (f := AA) (g := AA) (xs := v6.1) (ys := (([v10] : List As))) c11) (Og AA v6.1 (([v10] : List As))) rfl rfl ?_
    refine qf BE rfl (qs Ur rfl (AY (by kernel_rfl) (Aj Aw rfl (A6 rfl (qm rfl (Ac ?_))))))
    exact sn [(2011, 39)] h
   ·refine AP ?_
    exact sn [(2012, 2008), (2013, 2009), (2014, 2010), (2015, 2011)] h
  ·refine Ag hs (wp rfl (qL CD Ce rfl ?_))
   refine B5 h fun v12 a12 h => DW [] [2012, 2013, 2014, 2015] (Cl N ((Ae.mk v3 v4 v5 v7)) v12 a12) ON CB rfl (qa rfl (Ac (wq rfl (qm rfl (BU rfl (Ac ?_))))))
   refine Bm h (fun h => ?_) fun h => ?_
   ·refine wq rfl (B3 Ml QL rfl (qm rfl (qs Ce rfl (qe rfl ?_))))
    obtain rfl := sj h
    refine Ag ((A3 6 0 2019 1 _ rfl rfl rfl rfl).trans ((A3 6 1 2020 1 _ rfl rfl rfl rfl).trans ((A3 6 2 2021 1 _ rfl rfl rfl rfl).trans ((A3 6 3 2022 6 _ rfl rfl rfl rfl).trans ((Hr 2022 6 [.s, .s, .s, .s, .x 1 [.x 1 []], .x 1 [.x 1 []]] [] [] rfl rfl).trans (sm [(1000, 2019), (1001, 2020), (1002, 2021), (1003, 2022)] [(6, oD (.ptr 6 0)), (7, iD v12)] [(6, .box [.own 1000, .own 1001, .own 1002, .own 1003]), (1000, .vec 1 ((([] : List Int)).map Au)), (1001, .vec 1 ((([] : List Int)).map Au)), (1002, .vec 1 ((([] : List Int)).map Au)), (1003, .dvec 6 [.s, .s, .s, .s, .x 1 [.x 1 []], .x 1 [.x 1 []]] ((([] : List As)).map AA))] rfl rfl)))))) (Ap ?_)
    exact ⟨⟨[_, _], ⟨.cellN _ _ _ _ _ _ _ rfl rfl CD Ce rfl rfl (J8 rfl), tm⟩, rfl⟩, tv, ⟨rfl, rfl, rfl, rfl, tv⟩⟩
   ·refine Al (wq rfl (qL CD Ce rfl (qs Ce rfl (qe rfl ?_))))
    obtain rfl := sj h
    refine Ag (sm [(1000, 2012), (1001, 2013), (1002, 2014), (1003, 2015)] [(6, oD (.ptr 6 0)), (7, iD 0)] [(6, .box [.own 1000, .own 1001, .own 1002, .own 1003]), (1000, .vec 1 (v3.map Au)), (1001, .vec 1 (v4.map Au)), (1002, .vec 1 (v5.map Au)), (1003, .dvec 6 [.s, .s, .s, .s, .x 1 [.x 1 []], .x 1 [.x 1 []]] (v7.map AA))] rfl rfl) (Ap ?_)
    exact ⟨⟨[_, _], ⟨.cellN _ _ _ _ _ _ _ rfl rfl CD Ce rfl rfl (J8 rfl), tm⟩, rfl⟩, tv, ⟨rfl, rfl, rfl, rfl, tv⟩⟩
theorem K5 (N : Nat) (p0 : Ae) (p1 : List Aa) (r : Ae) (h : F2 N p0 p1 = some r) : Ao Tryz.prog 47 [.e (.agg (Ah p0)), pD (.sl (p1.map Ab))] [(1, r.fa.map Au), (1, r.fj.map Au), (1, r.fm.map Au)] (.e (.agg [.own 0, .own 1, .own 2, sC (r.fb.map AA)])) := by
 unfold F2 at h
 refine cw (n := 40) (rs := [.cell 4 29]) Tryz.func47 fun w0 S0 => ?_
 refine wq rfl (qb rfl (qz Ml rfl (Ac (wq rfl (qL CD Ce rfl (qf FQ rfl (ql BG rfl (qf GK rfl (ql BG rfl ?_)))))))))
 refine B5 h fun v1 a1 h => Fl (ds0 := [_, _, _]) [] [2001, 2002, 2003, 2004] [] (Jd N p0 p0.fj p0.fm v1 a1) (.p rfl) Ui rfl ⟨rfl, rfl, rfl, tv⟩ rfl rfl (by decide) tv rfl (Ck rfl) ⟨rfl, rfl, rfl, rfl, tv⟩ tv rfl rfl rfl ?_
 refine qm rfl (qx rfl (qx rfl (qz Ml rfl (qs Ce rfl (qa rfl (Ac (wp rfl (qm rfl (AB A5 rfl (qm rfl (Ac ?_)))))))))))
 refine Az (L := DY N p1) h (fun v2 => mk [(4, oD (.ptr 4 0)), (5, oD (.ptr 5 0)), (18, pD (.sl (p1.map Ab))), (19, iD ((p1.length : Int))), (20, iD v2.2)] [(4, .box [.pure (.nil0), .pure (.nil0), .pure (.nil0), .pure (.nil0)]), (5, .box [.own 2005, .own 2006, .own 2007, .own 2008]), (2005, .vec 1 (v1.1.fa.map Au)), (2006, .vec 1 (v1.1.fj.map Au)), (2007, .vec 1 (v1.1.fm.map Au)), (2008, .dvec 6 [.s, .s, .s, .s, .x 1 [.x 1 []], .x 1 [.x 1 []]] (v2.1.map AA))]) (fun v3 => mk [(4, oD (.ptr 4 0)), (5, oD (.ptr 5 0))] [(4, .box [.pure (.nil0), .pure (.nil0), .pure (.nil0), .pure (.nil0)]), (5, .box [.own 2009, .own 2010, .own 2011, .own 2012]), (2009, .vec 1 (v1.1.fa.map Au)), (2010, .vec 1 (v1.1.fj.map Au)), (2011, .vec 1 (v1.1.fm.map Au)), (2012, .dvec 6 [.s, .s, .s, .s, .x 1 [.x 1 []], .x 1 [.x 1 []]] (v3.map AA))]) (fun _ _ => rfl) (sm [(2005, 2001), (2006, 2002), (2007, 2003), (2008, 2004)] _ _ rfl rfl) (fun j2 n2 v2 h => ?_) (fun v3 s h hs => ?_)
 ·unfold DY at h
  refine wq rfl (AV rfl (Ac (AC ?_)))
  refine Bm h (fun h => ?_) fun h => ?_
  ·refine Al (AC (AF (wq rfl ?_)))
   refine B6 h fun v5 a5 b5 h => qi A5 BW a5 (Ai b5) rfl (qK GI BW rfl (qz Fq rfl (qs BW rfl (Ac ?_))))
   refine B6 h fun v6 a6 b6 h => Ag (Lw 2008 2013 ((v5.fu).toNat) 4 rfl (Ai b6) rfl rfl rfl rfl rfl) ?_
   refine B6 h fun v7 a7 b7 h => Ag (Lw 2013 2014 ((v5.fr).toNat) 0 rfl (Ai b7) rfl rfl rfl rfl rfl) (Aj Aw rfl (qf BE rfl (ql Fc rfl (qf Mr rfl (ql CR rfl ?_)))))
   refine B6 h fun v8 a8 b8 h => EO (.p rfl) rfl rfl rfl (NF AA v2.1 _ _ _ _ _) Co C2 a8 (An b8) ?_
   refine qh DE rfl ?_
   refine Ov (.p rfl) rfl EF rfl (Ai b8) rfl ?_
   refine qf Mk rfl (ql CR rfl ?_)
   refine B6 h fun v9 a9 b9 h => EO (.p rfl) rfl rfl rfl (NF (DH eB) v6.fh _ _ _ _ _) CH Hd a9 (An b9) ?_
   refine Ov (.p rfl) rfl Jp rfl (Ai b9) rfl ?_
   refine qf Mh rfl (ql CR rfl ?_)
   refine B6 h fun v10 a10 b10 h => qI E8 O9 a10 (Ai b10) rfl ?_
   refine D7 rfl rfl rfl rfl (Ai b10) rfl O9 rfl (FI rfl) (CX eB v7 _ true) ?_
   refine AY (by kernel_rfl) (Ag ((LM 2013 2014 (e2 := 1) (cols2 := []) (rows2 := (v7.set ((v5.ft).toNat) true).map eB) rfl rfl rfl (Ai b7) rfl rfl (CX (DH eB) v6.fh _ (v7.set ((v5.ft).toNat) true))).trans (LM 2008 2013 (e2 := 1) (cols2 := [.x 1 []]) (rows2 := (v6.fh.set ((v5.fr).toNat) (v7.set ((v5.ft).toNat) true)).map (DH eB)) rfl rfl rfl (Ai b6) rfl rfl (CX AA v2.1 _ ((As.mk v6.fc v6.ff v6.fk v6.fq (v6.fh.set ((v5.fr).toNat) (v7.set ((v5.ft).toNat) true)) v6.fi))))) (Aj Aw rfl (A6 rfl (qm rfl (Ac ?_)))))
   exact sn [] h
  ·refine AP ?_
   exact sn [(2009, 2005), (2010, 2006), (2011, 2007), (2012, 2008)] h
 ·refine Ag hs (wq rfl (qL CD Ce rfl (qs Ce rfl (Ac ?_))))
  obtain rfl := sj h
  refine Ag ((LQ 2012 _ _ _ rfl rfl).trans (sm [(1000, 2009), (1001, 2010), (1002, 2011)] [(4, oD (.ptr 4 0))] [(4, .box [.own 1000, .own 1001, .own 1002, sC (v3.map AA)]), (1000, .vec 1 (v1.1.fa.map Au)), (1001, .vec 1 (v1.1.fj.map Au)), (1002, .vec 1 (v1.1.fm.map Au))] rfl rfl)) (Ap ?_)
  exact ⟨⟨[_], ⟨.cellN _ _ _ _ _ _ _ rfl rfl CD Ce rfl rfl (J8 rfl), tv⟩, rfl⟩, ⟨rfl, rfl, rfl, tv⟩⟩
theorem Jj (N : Nat) (p0 : Int) (p1 : Int) (r : Int × Int) (h : E2 N p0 p1 = some r) : Ao Tryz.prog 121 [pD (.val (.int .u32 p0)), pD (.val (.int .u32 p1))] [] (.tup [.one (.pure (.val (.int .u32 r.1))), .one (.pure (.val (.int .u32 r.2)))]) := by
 unfold E2 at h
 refine cw (n := 17) (rs := [.tmp 4, .tmp 5]) Tryz.func121 fun w0 S0 => ?_
 refine wq rfl (qa rfl (qa rfl (Ac (wq rfl (qm rfl (I9 N6 Rv rfl (qm rfl (I9 N6 Rv rfl (KY rfl (qa rfl (Ac (wq rfl (qm rfl (Jf rfl (by decide) (I9 Rt Oh rfl (qm rfl (I9 Rt Oh rfl (qa rfl (qe rfl ?_)))))))))))))))))))
 obtain rfl := sj h
 refine Ag (sm [] [(4, pD (.val (.int .u32 ((wI .u32 ((FW .u64 ((wI .u64 ((wI .u64 p0) * (wI .u64 p1)))) 32))))))), (5, pD (.val (.int .u32 ((wI .u32 ((wI .u64 ((wI .u64 p0) * (wI .u64 p1)))))))))] [] rfl rfl) (Ap ?_)
 exact ⟨⟨[_, _], ⟨.tmp _ _ rfl, tm⟩, rfl⟩, tv⟩
theorem I3 (N : Nat) (p0 : Int) (p1 : Int) (r : Int × Int) (h : E3 N p0 p1 = some r) : Ao Tryz.prog 122 [pD (.val (.int .u64 p0)), pD (.val (.int .u64 p1))] [] (.tup [.one (.pure (.val (.int .u64 r.1))), .one (.pure (.val (.int .u64 r.2)))]) := by
 unfold E3 at h
 refine cw (n := 51) (rs := [.tmp 4, .tmp 5]) Tryz.func122 fun w0 S0 => ?_
 refine wq rfl (qa rfl (qa rfl (Ac (wq rfl (qm rfl (KN rfl (qa rfl (Ac (wq rfl (qm rfl (Jf rfl (by decide) (qa rfl (Ac (wq rfl (qm rfl (KN rfl (qa rfl (Ac (wq rfl (qm rfl (Jf rfl (by decide) (qa rfl (Ac (wq rfl (qw 2 rfl (KY rfl (qa rfl (Ac (wq rfl (qw 2 rfl ?_))))))))))))))))))))))))))))))
 refine KY rfl (qm rfl (Jf rfl (by decide) (A6 rfl (qa rfl (Ac (wq rfl (qm rfl (KN rfl (qa rfl (Ac (wq rfl (qm rfl (Jf rfl (by decide) (qa rfl (Ac (wq rfl (qw 3 rfl (KY rfl (A6 rfl (qa rfl (Ac (wq rfl (qw 2 rfl (KY rfl (qm rfl (A6 rfl (qm rfl (Jf rfl (by decide) (A6 rfl (qa rfl (Ac (AC ?_))))))))))))))))))))))))))))))))
 refine Aj Aw rfl (qw 2 rfl (KY rfl (qe rfl ?_)))
 obtain rfl := sj h
 refine Ag (sm [] [(4, pD (.val (.int .u64 ((wI .u64 ((wI .u64 ((wI .u64 ((FW .u64 p0 32) * (FW .u64 p1 32))) + (FW .u64 ((wI .u64 ((wI .u64 ((FW .u64 p0 32) * (Gz .u64 p1 4294967295))) + (FW .u64 ((wI .u64 ((Gz .u64 p0 4294967295) * (Gz .u64 p1 4294967295)))) 32)))) 32))) + (FW .u64 ((wI .u64 ((Gz .u64 ((wI .u64 ((wI .u64 ((FW .u64 p0 32) * (Gz .u64 p1 4294967295))) + (FW .u64 ((wI .u64 ((Gz .u64 p0 4294967295) * (Gz .u64 p1 4294967295)))) 32)))) 4294967295) + (wI .u64 ((Gz .u64 p0 4294967295) * (FW .u64 p1 32)))))) 32))))))), (5, pD (.val (.int .u64 ((wI .u64 (p0 * p1))))))] [] rfl rfl) (Ap ?_)
 exact ⟨⟨[_, _], ⟨.tmp _ _ rfl, tm⟩, rfl⟩, tv⟩
theorem Ka (N : Nat) (p0 : Int) (p1 : Int) (r : Int × Int) (h : FF N p0 p1 = some r) : Ao Tryz.prog 86 [pD (.val (.int .u64 p0)), pD (.val (.int .u64 p1))] [] (.tup [.one (.pure (.val (.int .u64 r.1))), .one (.pure (.val (.int .u64 r.2)))]) := by
 unfold FF at h
 refine cw (n := 30) (rs := [.tmp 4, .tmp 5]) Tryz.func86 fun w0 S0 => ?_
 refine wq rfl (qa rfl (qa rfl (Ac (AC ?_))))
 refine Bm h (fun h => ?_) fun h => ?_
 ·refine wq rfl (qm rfl (I9 P7 Oh rfl (qm rfl (I9 P7 Oh rfl ?_))))
  refine B5 h fun v2 a2 h => Ax [] (Jj N ((wI .u32 p0)) ((wI .u32 p1)) v2 a2) Sz rfl (qm rfl (qx rfl (qx rfl (qa rfl (qa rfl (Ac (wq rfl (qm rfl (I9 N6 N5 rfl (qm rfl (I9 N6 N5 rfl (qa rfl (qe rfl ?_)))))))))))))
  obtain rfl := sj h
  refine Ag (sm [] [(4, pD (.val (.int .u64 ((wI .u64 v2.1))))), (5, pD (.val (.int .u64 ((wI .u64 v2.2)))))] [] rfl rfl) (Ap ?_)
  exact ⟨⟨[_, _], ⟨.tmp _ _ rfl, tm⟩, rfl⟩, tv⟩
 ·refine Al (wq rfl (qw 2 rfl ?_))
  refine B5 h fun v3 a3 h => Ax [] (I3 N p0 p1 v3 a3) Tr rfl (qm rfl (qx rfl (qx rfl (qa rfl (qa rfl (Ac (wq rfl (qw 2 rfl (qa rfl (qe rfl ?_))))))))))
  obtain rfl := sj h
  refine Ag (sm [] [(4, pD (.val (.int .u64 v3.1))), (5, pD (.val (.int .u64 v3.2)))] [] rfl rfl) (Ap ?_)
  exact ⟨⟨[_, _], ⟨.tmp _ _ rfl, tm⟩, rfl⟩, tv⟩
theorem Hi (N : Nat) (p0 : List Int) (p1 : Int) (r : (List Int)) (h : DI N p0 p1 = some r) : Ao Tryz.prog 61 [pD (.sl (p0.map Au)), iD p1] [(1, r.map Au)] (oD (.own 0)) := by
 unfold DI at h
 refine cw (n := 48) (rs := [.tmp 4]) Tryz.func61 fun w0 S0 => ?_
 refine wq rfl (qe rfl ?_)
 refine AN h (fun v1 => mk [(0, pD (.sl (p0.map Au))), (1, iD p1)] []) (fun j1 h => ?_) (fun v1 h => ?_)
 ·refine wq rfl (qm rfl (AV rfl (Ac ?_)))
  refine Bm h (fun h => ?_) fun h => ?_
  ·refine Aj Aw rfl ?_
   cases h
  ·refine Al ?_
   exact sn [] h
 ·refine wq rfl (qm rfl (AB AG rfl (I9 TK N5 rfl (qm rfl (I9 TK N5 rfl ?_)))))
  refine B5 h fun v3 a3 h => Ax [] (Ka N ((wI .u64 ((p0.length : Int)))) ((wI .u64 p1)) v3 a3) Uj rfl (qm rfl (qx rfl (qx rfl (qa rfl (qe rfl ?_)))))
  refine AN h (fun v4 => mk [(0, pD (.sl (p0.map Au))), (6, pD (.val (.int .u64 v3.2)))] []) (fun j4 h => ?_) (fun v4 h => ?_)
  ·refine AN h (fun v5 => mk [(0, pD (.sl (p0.map Au))), (6, pD (.val (.int .u64 v3.2))), (26, bD v5)] []) (fun j5 h => ?_) (fun v5 h => ?_)
   ·refine Aj Aw rfl (qm rfl (Dx rfl (qm rfl ?_)))
    refine D2 23 h rfl (fun h => ?_) fun h => ?_
    ·refine qw 2 rfl (qp rfl (Ac ?_))
     exact sn [] h
    ·refine qm rfl (Dx rfl (qp rfl (Ac ?_)))
     exact sn [] h
   ·refine Bm h (fun h => ?_) fun h => ?_
    ·refine Aj Aw rfl ?_
     cases h
    ·refine Al ?_
     exact sn [] h
  ·refine wq rfl (qm rfl (I9 P7 Ux rfl ?_))
   refine GH h fun c8 h => H3 (.p rfl) rfl rfl rfl AG EH Qn (FI rfl) OO rfl rfl rfl c8.1 c8.2.1 c8.2.2 (Ke Au _ ((0 : Int))) ?_
   refine qa rfl (Ac (wq rfl (qw 2 rfl ?_)))
   refine Ol Au (List.replicate ((wI .i64 v3.2)).toNat ((0 : Int))) p0 (.p rfl) rfl (Ep Au _ _ (List.replicate ((wI .i64 v3.2)).toNat ((0 : Int)))) rfl rfl (QO Au _ _ (fun _ => rfl)) tv AG EH ?_
   refine qa rfl (Ac (AC ?_))
   refine Az (L := Cm N) h (fun v9 => mk [(7, oD (.own 2001)), (8, iD v9.2)] [(2001, .vec 1 (v9.1.map Au))]) (fun v10 => mk [(7, oD (.own 2002))] [(2002, .vec 1 (v10.map Au))]) (fun _ _ => rfl) (sm [(2001, 30)] _ _ rfl rfl) (fun j9 n9 v9 h => ?_) (fun v10 s h hs => ?_)
   ·unfold Cm at h
    refine wp rfl (qw 2 rfl (C0 AG rfl (AV rfl (Ac ?_))))
    refine Bm h (fun h => ?_) fun h => ?_
    ·refine Al (AF (Aj Aw rfl (qw 3 rfl ?_)))
     obtain ⟨c12, h⟩ := CP h
     have w13 : ((v9.2).toNat) + ((v9.1.length - (v9.2).toNat)) ≤ v9.1.length := by have := c12.2.1; have := c12.2.2; omega
     refine El Au v9.1 (.p rfl) rfl (Ep Au _ _ v9.1) rfl AG EH (.some _ _ _ _ c12.1) (.none _) ⟨rfl, tv⟩ tv c12.2.1 (by rw [Nat.zero_add]; exact c12.2.2) (Nat.zero_add _) rfl ?_
     refine qw 2 rfl ?_
     obtain ⟨c14, h⟩ := CP h
     have w15 : 0 + ((v9.2).toNat) ≤ v9.1.length := by have := c14.2.1; have := c14.2.2; omega
     refine El Au v9.1 (.p rfl) rfl (Ep Au _ _ v9.1) rfl AG EH (.none _) (.some _ _ _ _ c14.1) tv ⟨rfl, tv⟩ c14.2.1 (by rw [Nat.zero_add]; exact c14.2.2) (Nat.zero_add _) rfl ?_
     refine Ol Au v9.1 (((v9.1.drop 0).take ((v9.2).toNat))) (.p rfl) rfl (Gg Au _ _ ((v9.2).toNat) ((v9.1.length - (v9.2).toNat)) v9.1 w13) rfl rfl (LH Au _ _ 0 ((v9.2).toNat) v9.1 w15) ⟨rfl, tv⟩ AG EH ?_
     refine A6 rfl (qa rfl (AY (by kernel_rfl) ?_))
     exact sn [] h
    ·refine AP ?_
     exact sn [(2002, 2001)] h
   ·refine Ag hs (wq rfl (qm rfl (qe rfl ?_)))
    obtain rfl := sj h
    refine Ag (sm [(1000, 2002)] [(4, oD (.own 1000))] [(1000, .vec 1 (v10.map Au))] rfl rfl) (Ap ?_)
    exact ⟨⟨[_], tm, rfl⟩, ⟨rfl, tv⟩⟩
theorem HF (N : Nat) (p0 : As) (r : Bool) (h : EQ N p0 = some r) : Ao Tryz.prog 62 [.e (.agg (Bu p0))] [] (bD r) := by
 unfold EQ at h
 refine cw (n := 11) (rs := [.tmp 2]) Tryz.func62 fun w0 S0 => ?_
 refine wq rfl (qb rfl (qe rfl ?_))
 refine AN h (fun v1 => mk [(2, bD v1)] []) (fun j1 h => ?_) (fun v1 h => ?_)
 ·refine Aj Aw rfl (qf ET rfl (ql CR rfl (BO rfl (qm rfl ?_))))
  refine D2 6 h rfl (fun h => ?_) fun h => ?_
  ·refine qw 3 rfl (qp rfl (qe rfl ?_))
   exact sn [] h
  ·refine qf ET rfl (ql CR rfl (BO rfl (qp rfl (qe rfl ?_))))
   exact sn [] h
 ·obtain rfl := sj h
  refine Ag (sm [] [(2, bD v1)] [] rfl rfl) (Ap ?_)
  exact ⟨⟨[_], tm, rfl⟩, tv⟩
theorem Nf (N : Nat) (p0 : Ae) (r : Ar × Int) (h : HJ N p0 = some r) : Ao Tryz.prog 35 [.e (.agg (Ah p0))] [(1, r.1.fe.map Au), (1, r.1.fd.map Au), (1, r.1.fg.map Er)] (.tup [.agg [.own 0, .own 1, .own 2], .one (iC r.2)]) := by
 unfold HJ at h
 refine cw (n := 50) (rs := [.cell 2 64, .tmp 3]) Tryz.func35 fun w0 S0 => ?_
 refine wq rfl (qb rfl (qz FG rfl (qa rfl (Ac (wp rfl (qL CD Ce rfl ?_))))))
 refine B5 h fun v1 a1 h => Ax [] (Cl N p0 v1 a1) ON rfl (qa rfl (Ac (wq rfl (qm rfl (BU rfl (Ac ?_))))))
 refine Bm h (fun h => ?_) fun h => ?_
 ·refine wq rfl (B3 FG Lm rfl (qm rfl (qs BF rfl (qe rfl ?_))))
  obtain rfl := sj h
  refine Ag ((A3 2 0 2001 1 _ rfl rfl rfl rfl).trans ((A3 2 1 2002 1 _ rfl rfl rfl rfl).trans ((A3 2 2 2003 1 _ rfl rfl rfl rfl).trans (sm [(1000, 2001), (1001, 2002), (1002, 2003)] [(2, oD (.ptr 2 0)), (3, iD v1)] [(2, .box [.own 1000, .own 1001, .own 1002]), (1000, .vec 1 ((([] : List Int)).map Au)), (1001, .vec 1 ((([] : List Int)).map Au)), (1002, .vec 1 ((([] : List Int)).map Er))] rfl rfl)))) (Ap ?_)
  exact ⟨⟨[_, _], ⟨.cellN _ _ _ _ _ _ _ rfl rfl C7 BF rfl rfl (J8 rfl), tm⟩, rfl⟩, ⟨rfl, rfl, rfl, tv⟩⟩
 ·refine Al (wq rfl (qf FQ rfl (ql BG rfl ?_)))
  refine B5 h fun v3 a3 h => Ax [2004] (Bp N p0.fj v3 a3) M1 rfl (EZ AG EH OO rfl (qf FQ rfl (ql BG rfl (AB AG rfl ?_))))
  refine B5 h fun v4 a4 h => DW [2005] [17] (Hi N (([(-1)] : List Int)) ((p0.fj.length : Int)) v4 a4) T4 (FH (fun _ => rfl) CB) rfl (qf BE rfl (ql Fc rfl (AB Co rfl ?_)))
  refine GH h fun c5 h => H3 (.p rfl) rfl rfl rfl FC It Rh (FI rfl) Sd rfl rfl rfl c5.1 c5.2.1 c5.2.2 (Ke Er _ ((0 : Int))) ?_
  refine B3 FG Lm rfl (qz FG rfl (qs BF rfl (AY (by kernel_rfl) (wp rfl (qf BE rfl (ql Fc rfl (AB Co rfl (qm rfl (Ac ?_)))))))))
  refine Az (L := ER N p0) h (fun v6 => mk [(1, oD (.ptr 1 0)), (2, oD (.ptr 2 0)), (5, oD (.ptr 5 0)), (28, pD (.sl (p0.fb.map AA))), (29, iD ((p0.fb.length : Int))), (30, iD v6.2)] [(1, .box (Ah p0)), (2, .box [.pure (.nil0), .pure (.nil0), .pure (.nil0)]), (5, .box [.own 2006, .own 2007, .own 2008]), (2006, .vec 1 (v3.map Au)), (2007, .vec 1 (v4.map Au)), (2008, .vec 1 (v6.1.map Er))]) (fun v7 => mk [(2, oD (.ptr 2 0)), (5, oD (.ptr 5 0))] [(2, .box [.pure (.nil0), .pure (.nil0), .pure (.nil0)]), (5, .box [.own 2009, .own 2010, .own 2011]), (2009, .vec 1 (v3.map Au)), (2010, .vec 1 (v4.map Au)), (2011, .vec 1 (v7.map Er))]) (fun _ _ => rfl) (sm [(2006, 2004), (2007, 2005), (2008, 25)] _ _ rfl rfl) (fun j6 n6 v6 h => ?_) (fun v7 s h hs => ?_)
  ·unfold ER at h
   refine wq rfl (AV rfl (Ac (AC ?_)))
   refine Bm h (fun h => ?_) fun h => ?_
   ·refine Al ?_
    refine AN h (fun v9 => mk [(1, oD (.ptr 1 0)), (2, oD (.ptr 2 0)), (5, oD (.ptr 5 0)), (28, pD (.sl (p0.fb.map AA))), (29, iD ((p0.fb.length : Int))), (30, iD v6.2)] [(1, .box (Ah p0)), (2, .box [.pure (.nil0), .pure (.nil0), .pure (.nil0)]), (5, .box [.own 2012, .own 2013, .own 2014]), (2012, .vec 1 (v3.map Au)), (2013, .vec 1 (v4.map Au)), (2014, .vec 1 (v9.map Er))]) (fun j9 h => ?_) (fun v9 h => ?_)
    ·refine AF (wq rfl (qm rfl ?_))
     refine B6 h fun v10 a10 b10 h => qi Co C2 a10 (Ai b10) rfl (qK G4 C2 rfl (qz I0 rfl (qa rfl (qs C2 rfl (Ac (wq rfl (qL G4 C2 rfl ?_)))))))
     refine B5 h fun v11 a11 h => Ax [] (HF N v10 v11 a11) RD rfl (Ac ?_)
     refine Bm h (fun h => ?_) fun h => ?_
     ·refine Aj Aw rfl (qf Ex rfl (ql JA rfl (qm rfl (qf FQ rfl (ql BG rfl (qf Ec rfl (ql CR rfl ?_)))))))
      refine B6 h fun v13 a13 b13 h => qi AG EH a13 (Ai b13) rfl (qk CR rfl ?_)
      refine GH h fun c14 h => J0 rfl c14 ?_
      refine B6 h fun v15 a15 b15 h => qI FC It a15 (Ai b15) rfl ?_
      refine D7 rfl rfl rfl rfl (Ai b15) rfl It rfl (FI rfl) (CX Er v6.1 _ ((GG .u8 1 v13))) ?_
      refine AY (by kernel_rfl) ?_
      exact sn [(2012, 2006), (2013, 2007), (2014, 2008)] h
     ·refine Al ?_
      exact sn [(2012, 2006), (2013, 2007), (2014, 2008)] h
    ·refine Aj Aw rfl (A6 rfl (qm rfl (Ac ?_)))
     exact sn [(2006, 2012), (2007, 2013), (2008, 2014)] h
   ·refine AP ?_
    exact sn [(2009, 2006), (2010, 2007), (2011, 2008)] h
  ·refine Ag hs (wq rfl (qL C7 BF rfl (qs BF rfl (qe rfl ?_))))
   obtain rfl := sj h
   refine Ag (sm [(1000, 2009), (1001, 2010), (1002, 2011)] [(2, oD (.ptr 2 0)), (3, iD 0)] [(2, .box [.own 1000, .own 1001, .own 1002]), (1000, .vec 1 (v3.map Au)), (1001, .vec 1 (v4.map Au)), (1002, .vec 1 (v7.map Er))] rfl rfl) (Ap ?_)
   exact ⟨⟨[_, _], ⟨.cellN _ _ _ _ _ _ _ rfl rfl C7 BF rfl rfl (J8 rfl), tm⟩, rfl⟩, ⟨rfl, rfl, rfl, tv⟩⟩
theorem G6 (N : Nat) (p0 : Ar) (p1 : Int) (r : Int) (h : Em N p0 p1 = some r) : Ao Tryz.prog 130 [.e (.agg (A2 p0)), iD p1] [] (pD (.val (.int .u8 r))) := by
 unfold Em at h
 refine cw (n := 27) (rs := [.tmp 4]) Tryz.func130 fun w0 S0 => ?_
 refine wq rfl (qb rfl (qa rfl (Ac (wq rfl (qf DZ rfl (ql BG rfl (qm rfl ?_)))))))
 refine B6 h fun v1 a1 b1 h => qi AG EH a1 (Ai b1) rfl (qk CR rfl ?_)
 refine GH h fun c2 h => J0 rfl c2 (qe rfl ?_)
 refine AN h (fun v3 => mk [(5, pD (.val (.int .u8 v3)))] []) (fun j3 h => ?_) (fun v3 h => ?_)
 ·refine wq rfl (qf Dp rfl (ql BG rfl (qm rfl ?_)))
  refine B6 h fun v4 a4 b4 h => qi AG EH a4 (Ai b4) rfl (qk CR rfl (FY rfl (Ac ?_)))
  refine Bm h (fun h => ?_) fun h => ?_
  ·refine Aj Aw rfl (qm rfl (qf Dp rfl (ql BG rfl (qm rfl ?_))))
   refine B6 h fun v6 a6 b6 h => qi AG EH a6 (Ai b6) rfl (qk CR rfl ?_)
   refine GH h fun c7 h => J0 rfl c7 (R6 rfl (qe rfl ?_))
   exact sn [] h
  ·refine Al ?_
   exact sn [] h
 ·refine wq rfl (qm rfl (qe rfl ?_))
  obtain rfl := sj h
  refine Ag (sm [] [(4, pD (.val (.int .u8 v3)))] [] rfl rfl) (Ap ?_)
  exact ⟨⟨[_], tm, rfl⟩, tv⟩
theorem GR (N : Nat) (p0 : Ae) (p1 : Ar) (r : Int) (h : EB N p0 p1 = some r) : Ao Tryz.prog 91 [.e (.agg (Ah p0)), .e (.agg (A2 p1))] [] (iD r) := by
 unfold EB at h
 refine cw (n := 135) (rs := [.tmp 4]) Tryz.func91 fun w0 S0 => ?_
 refine wq rfl (qb rfl (qb rfl (qa rfl (Ac (wp rfl (qL CD Ce rfl ?_))))))
 refine B5 h fun v1 a1 h => Ax [] (Cl N p0 v1 a1) ON rfl (qa rfl (Ac (wq rfl (qm rfl (BU rfl (Ac ?_))))))
 refine Bm h (fun h => ?_) fun h => ?_
 ·refine wq rfl (qm rfl (qe rfl ?_))
  obtain rfl := sj h
  refine Ag (sm [] [(4, iD v1)] [] rfl rfl) (Ap ?_)
  exact ⟨⟨[_], tm, rfl⟩, tv⟩
 ·refine Al (AC ?_)
  refine AN h (fun v3 => mk [(2, oD (.ptr 2 0)), (3, oD (.ptr 3 0)), (41, bD v3)] [(2, .box (Ah p0)), (3, .box (A2 p1))]) (fun j3 h => ?_) (fun v3 h => ?_)
  ·refine Aj Aw rfl (qf DZ rfl (ql BG rfl (AB AG rfl (qf B8 rfl (ql BG rfl (AB AG rfl (BU rfl (qm rfl ?_))))))))
   refine D2 24 h rfl (fun h => ?_) fun h => ?_
   ·refine qw 7 rfl (qp rfl (qw 8 rfl (qp rfl (Ac ?_))))
    exact sn [] h
   ·refine qf Dp rfl (ql BG rfl (AB AG rfl (qf B8 rfl (ql BG rfl (AB AG rfl (BU rfl (qp rfl (qm rfl ?_))))))))
    refine D2 33 h rfl (fun h => ?_) fun h => ?_
    ·refine qw 7 rfl (qp rfl (Ac ?_))
     exact sn [] h
    ·refine qf Ex rfl (ql JA rfl (AB FC rfl (qf BE rfl (ql Fc rfl (AB Co rfl (BU rfl (qp rfl (Ac ?_))))))))
     exact sn [] h
  ·refine Bm h (fun h => ?_) fun h => ?_
   ·refine wq rfl (qe rfl ?_)
    obtain rfl := sj h
    refine Ag (sm [] [(4, iD 6)] [] rfl rfl) (Ap ?_)
    exact ⟨⟨[_], tm, rfl⟩, tv⟩
   ·refine Al (wp rfl (qf B8 rfl (ql BG rfl (AB AG rfl (qm rfl (Ac ?_))))))
    refine Az (L := EV N p0 p1) h (fun v7 => mk [(2, oD (.ptr 2 0)), (3, oD (.ptr 3 0)), (43, pD (.sl (p0.fa.map Au))), (44, iD ((p0.fa.length : Int))), (45, iD v7)] [(2, .box (Ah p0)), (3, .box (A2 p1))]) (fun v8 => mk [(2, oD (.ptr 2 0)), (3, oD (.ptr 3 0))] [(2, .box (Ah p0)), (3, .box (A2 p1))]) (fun _ _ => rfl) (sm [] _ _ rfl rfl) (fun j7 n7 v7 h => ?_) (fun v8 s h hs => ?_)
    ·unfold EV at h
     refine wq rfl (AV rfl (Ac (AC ?_)))
     refine Bm h (fun h => ?_) fun h => ?_
     ·refine Al (AC (AF (wq rfl (qm rfl ?_))))
      refine B6 h fun v10 a10 b10 h => qi AG EH a10 (Ai b10) rfl (qk CR rfl (qa rfl (qa rfl (Ac (AC ?_)))))
      refine AN h (fun v11 => mk [(2, oD (.ptr 2 0)), (3, oD (.ptr 3 0)), (6, iD v7), (43, pD (.sl (p0.fa.map Au))), (44, iD ((p0.fa.length : Int))), (45, iD v7), (81, bD v11)] [(2, .box (Ah p0)), (3, .box (A2 p1))]) (fun j11 h => ?_) (fun v11 h => ?_)
      ·refine Aj Aw rfl (qf DZ rfl (ql BG rfl (qm rfl ?_)))
       refine B6 h fun v12 a12 b12 h => qi AG EH a12 (Ai b12) rfl (qk CR rfl (AV rfl (qm rfl ?_)))
       refine D2 56 h rfl (fun h => ?_) fun h => ?_
       ·refine qw 7 rfl (qp rfl (qw 7 rfl (qp rfl (qw 8 rfl (qp rfl (Ac ?_))))))
        exact sn [] h
       ·refine qf DZ rfl (ql BG rfl (qm rfl ?_))
        refine B6 h fun v14 a14 b14 h => qi AG EH a14 (Ai b14) rfl (qk CR rfl (qm rfl (FY rfl (qp rfl (qm rfl ?_)))))
        refine D2 65 h rfl (fun h => ?_) fun h => ?_
        ·refine qw 6 rfl (qp rfl (qw 8 rfl (qp rfl (Ac ?_))))
         exact sn [] h
        ·refine qf Dp rfl (ql BG rfl (qm rfl ?_))
         refine B6 h fun v16 a16 b16 h => qi AG EH a16 (Ai b16) rfl (qk CR rfl (AV rfl (qp rfl (qm rfl ?_))))
         refine D2 73 h rfl (fun h => ?_) fun h => ?_
         ·refine qw 7 rfl (qp rfl (Ac ?_))
          exact sn [] h
         ·refine qf Dp rfl (ql BG rfl (qm rfl ?_))
          refine B6 h fun v18 a18 b18 h => qi AG EH a18 (Ai b18) rfl (qk CR rfl (qm rfl (FY rfl (qp rfl (Ac ?_)))))
          exact sn [] h
      ·refine Bm h (fun h => ?_) fun h => ?_
       ·refine wq rfl (qe rfl ?_)
        obtain rfl := sj h
        refine Ag (sm [] [(4, iD 7)] [] rfl rfl) (Ap ?_)
        exact ⟨⟨[_], tm, rfl⟩, tv⟩
       ·refine Al (wq rfl (qf DZ rfl (ql BG rfl (qm rfl ?_))))
        refine B6 h fun v20 a20 b20 h => qi AG EH a20 (Ai b20) rfl (qk CR rfl (qf Dp rfl (ql BG rfl (qm rfl ?_))))
        refine B6 h fun v21 a21 b21 h => qi AG EH a21 (Ai b21) rfl (qk CR rfl (BO rfl (AY (by kernel_rfl) ?_)))
        refine Bm h (fun h => ?_) fun h => ?_
        ·refine wq rfl (qe rfl ?_)
         obtain rfl := sj h
         refine Ag (sm [] [(4, iD 1)] [] rfl rfl) (Ap ?_)
         exact ⟨⟨[_], tm, rfl⟩, tv⟩
        ·refine Al (Aj Aw rfl (A6 rfl (qm rfl (Ac ?_))))
         exact sn [] h
     ·refine AP ?_
      exact sn [] h
    ·refine Ag hs (wp rfl (qf BE rfl (ql Fc rfl (AB Co rfl (qm rfl (Ac ?_))))))
     refine Az (L := Et N p0 p1) h (fun v23 => mk [(2, oD (.ptr 2 0)), (3, oD (.ptr 3 0)), (95, pD (.sl (p0.fb.map AA))), (96, iD ((p0.fb.length : Int))), (97, iD v23)] [(2, .box (Ah p0)), (3, .box (A2 p1))]) (fun v24 => mk [] []) (fun _ _ => rfl) (sm [] _ _ rfl rfl) (fun j23 n23 v23 h => ?_) (fun v24 s h hs => ?_)
     ·unfold Et at h
      refine wq rfl (AV rfl (Ac (AC ?_)))
      refine Bm h (fun h => ?_) fun h => ?_
      ·refine Al (AC (AF (wq rfl (qm rfl ?_))))
       refine B6 h fun v26 a26 b26 h => qi Co C2 a26 (Ai b26) rfl (qK G4 C2 rfl (qz I0 rfl (qa rfl (qs C2 rfl (Ac (wq rfl (qa rfl (qe rfl ?_))))))))
       refine AN h (fun v27 => mk [(2, oD (.ptr 2 0)), (3, oD (.ptr 3 0)), (8, iD v23), (10, pD (.val (.int .u8 v27.1))), (11, pD (.val (.int .u8 v27.2))), (95, pD (.sl (p0.fb.map AA))), (96, iD ((p0.fb.length : Int))), (97, iD v23)] [(2, .box (Ah p0)), (3, .box (A2 p1))]) (fun j27 h => ?_) (fun v27 h => ?_)
       ·refine wq rfl (qL G4 C2 rfl ?_)
        refine B5 h fun v28 a28 h => Ax [] (HF N v26 v28 a28) RD rfl (Ac ?_)
        refine Bm h (fun h => ?_) fun h => ?_
        ·refine Aj Aw rfl (qL C7 BF rfl (qf Ec rfl (ql CR rfl ?_)))
         refine B5 h fun v30 a30 h => Ax [] (G6 N p1 v26.ff v30 a30) Qe rfl (qf B8 rfl (ql BG rfl (qf Ec rfl (ql CR rfl ?_))))
         refine B6 h fun v31 a31 b31 h => qi AG EH a31 (Ai b31) rfl (qk CR rfl ?_)
         refine GH h fun c32 h => J0 rfl c32 (IY rfl (qa rfl (qa rfl (AY (by kernel_rfl) ?_))))
         exact sn [] h
        ·refine Al ?_
         exact sn [] h
       ·refine AN h (fun v33 => mk [(2, oD (.ptr 2 0)), (3, oD (.ptr 3 0)), (95, pD (.sl (p0.fb.map AA))), (96, iD ((p0.fb.length : Int))), (97, iD v23), (133, bD v33)] [(2, .box (Ah p0)), (3, .box (A2 p1))]) (fun j33 h => ?_) (fun v33 h => ?_)
        ·refine Aj Aw rfl (qm rfl (qf Ex rfl (ql JA rfl (qm rfl ?_))))
         refine B6 h fun v34 a34 b34 h => qi FC It a34 (Ai b34) rfl (qk NM rfl (Kp rfl (BU rfl (qm rfl ?_))))
         refine D2 124 h rfl (fun h => ?_) fun h => ?_
         ·refine qw 8 rfl (qp rfl (Ac ?_))
          exact sn [] h
         ·refine qf Ex rfl (ql JA rfl (qm rfl ?_))
          refine B6 h fun v36 a36 b36 h => qi FC It a36 (Ai b36) rfl (qk NM rfl (qm rfl (Kp rfl (BU rfl (qp rfl (Ac ?_))))))
          exact sn [] h
        ·refine Bm h (fun h => ?_) fun h => ?_
         ·refine wq rfl (qe rfl ?_)
          obtain rfl := sj h
          refine Ag (sm [] [(4, iD 1)] [] rfl rfl) (Ap ?_)
          exact ⟨⟨[_], tm, rfl⟩, tv⟩
         ·refine Al (Aj Aw rfl (A6 rfl (qm rfl (Ac ?_))))
          exact sn [] h
      ·refine AP ?_
       exact sn [] h
     ·refine Ag hs (wq rfl (qe rfl ?_))
      obtain rfl := sj h
      refine Ag (sm [] [(4, iD 0)] [] rfl rfl) (Ap ?_)
      exact ⟨⟨[_], tm, rfl⟩, tv⟩
theorem DO (N : Nat) (p0 : List Int) (r : (List Int)) (h : BQ N p0 = some r) : Ao Tryz.prog 146 [pD (.sl (p0.map Er))] [(1, r.map Er)] (oD (.own 0)) := by
 unfold BQ at h
 refine cw (n := 8) (rs := [.tmp 2]) Tryz.func146 fun w0 S0 => ?_
 refine wq rfl (qa rfl (Ac (wp rfl (qm rfl ?_))))
 refine Jb (.p rfl) rfl FC ?_
 refine Ac ?_
 refine Jg rfl (fun c2 => ?_) ?_
 ·have c2 := List.map_eq_nil_iff.1 c2
  rw [c2] at h
  have h : (some (([] : List Int))) = some r := h
  refine wq rfl (qe rfl ?_)
  obtain rfl := sj h
  refine Ag ((AW 2 2001 1 rfl rfl rfl).trans (sm [(1000, 2001)] [(2, oD (.own 1000))] [(1000, .vec 1 ((([] : List Int)).map Er))] rfl rfl)) (Ap ?_)
  exact ⟨⟨[_], tm, rfl⟩, ⟨rfl, tv⟩⟩
 ·refine Al (wq rfl (EZ FC It Sd rfl (qm rfl ?_)))
  refine GH h fun c1 h => IQ (f := Er) FC FC It Rh Sd (fun _ => rfl) c1 rfl (qe rfl ?_)
  obtain rfl := sj h
  refine Ag (sm [(1000, 7)] [(2, oD (.own 1000))] [(1000, .vec 1 (((([] : List Int)) ++ p0).map Er))] rfl rfl) (Ap ?_)
  exact ⟨⟨[_], tm, rfl⟩, ⟨rfl, tv⟩⟩
end Go.Lift
