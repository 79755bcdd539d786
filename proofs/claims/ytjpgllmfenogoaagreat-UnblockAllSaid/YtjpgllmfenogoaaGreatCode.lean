/- Lemmas for UnblockAllSaid, which YtjpgllmfenogoaaGreatFinU8 proves. -/
import Derived.Test.YtjpgllmfenogoaaGreatLift35
import Derived.Shelf.SlSortCmp.NoneTotal
import Derived.MakeChecks
import Derived.Shelf.Strconv.Itoa3
import Derived.Test.YtjpgllmfenogoaaGreatProg
import Derived.KernelRfl
open Array renaming getElem?_append → uV, getElem?_eq_none → y5
open Bool renaming and_eq_true → zH, false_eq_true → vC, not_true → zV, or_eq_true → xO
open Int renaming tmod → zY
open List renaming all_eq_true → zG, getElem?_eq_getElem → yD, getElem?_map → zF, getElem_mem → xF, length_map → zI, length_set → yZ, length_singleton → zU, map_cons → yH, map_eq_nil_iff → uY, map_nil → xZ, map_toArray → xC, mem_append_left → xJ, mem_cons → zO, mem_cons_of_mem → xR, mem_cons_self → vX, mem_iff_getElem? → zN, mem_map → zQ, nodup_cons → xW, pairwise_cons → xB, pairwise_iff_getElem → x8, pairwise_map → vZ, range → zS, replicate → zD
open Nat renaming add_assoc → x9, add_mul → yO, add_zero → xK, le_trans → xA, lt_irrefl → uF, min → xE, mul_le_mul_right → zB, succ_mul → zW, zero_add → zC, zero_le → zL
open Option renaming getD_some → yL, map_some → yC
open Go.Proofs.Tryz renaming prog → zA
namespace Go.Lift
open Go.RowKit
variable {P : Program} {X : Jp} {ops : Array Oper}
theorem RB {st : St} (b s ix k : Nat) {e e2 : Nat} {cols cols2 : List Ow} {rows rows2 : List (List T)} {row : List T} (hb : st.bx b = some (.dvec e cols rows)) (hrow : rows[ix]? = some row) (hc : row[k]? = some (.sl rows2)) (hcol : cols.getD k .s = .x e2 cols2) (hbl : Bf b = false) (hsl : Bf s = false) (hnew : st.bx s = none) :
  Gf P X st ⟨st.env, A4 st.bx [(b, .hol e cols ix k s rows), (s, inner e2 cols2 rows2)]⟩ := by
 rintro a w ⟨G, hs⟩
 have hsb : s ≠ b := fun e => by rw [e, hb] at hnew; cases hnew
 obtain ⟨β, cap, arr, el, Rf, hβ, h1, h2, h3, h4, h5, h6, h7, h8, h9, h10⟩ := Tj (hs.blk b _ hb) hrow
 have hre := h5 ix row hrow
 have hk := Aw hc
 have hcell := h6 ix row k _ hrow hc
 rw [hcol] at hcell
 obtain ⟨l, m, g1, g2, g3⟩ := Ur (P := P) hcell
 let G' : Gh := { S := G.S, loc := fun c => if c = s then l else G.loc c, hd := fun c => if c = s then As arr (ix * e + k) else G.hd c, more := fun c => if c = s then m else if c = b then (fun γ => G.more b γ ∧ ¬ Rf ix k γ) else G.more c }
 have hsome : ∀ c, (st.bx c).isSome = true → c ≠ s := fun c hc e => by rw [e, hnew] at hc; cases hc
 have hbx : ∀ c, A4 st.bx [(b, .hol e cols ix k s rows), (s, inner e2 cols2 rows2)] c = if c = b then some (.hol e cols ix k s rows) else if c = s then some (inner e2 cols2 rows2) else st.bx c := fun c => rfl
 have hasS : ∀ γ, G'.has s γ → Rf ix k γ := fun γ h => by
  unfold Gh.has at h
  simp only [G', if_true] at h
  exact g1 γ h
 have hasB : ∀ γ, G'.has b γ → G.has b γ ∧ ¬ Rf ix k γ := fun γ h => by
  unfold Gh.has at h
  simp only [G', if_neg hsb.symm, if_true] at h
  rcases h with h | h
  ·refine ⟨.inl h, fun hr => ?_⟩
   rw [hβ] at h; cases h
   exact h8 ix k hr
  ·exact ⟨.inr h.1, h.2⟩
 have hasO : ∀ c γ, c ≠ s → c ≠ b → (G'.has c γ ↔ G.has c γ) := fun c γ h1 h2 => by
  unfold Gh.has
  simp only [G', if_neg h1, if_neg h2]
 have hbl2 := hsl
 have key : Dx P X G' ⟨st.env, A4 st.bx [(b, .hol e cols ix k s rows), (s, inner e2 cols2 rows2)]⟩ a w := by
  refine hs.frame2 ?_ (fun _ h => h) (fun c hc => by simp only [G']; rw [if_neg (hsome c hc)]) (fun c hc => by simp only [G']; rw [if_neg (hsome c hc)]) (fun _ _ => rfl) ?_ ?_ ?_ hs.S_lt hs.S_src hs.below (fun c hc => ?_)
  ·intro c hc; rw [hbx]; split
   ·rfl
   ·split
    ·rfl
    ·exact hc
  ·intro c kk hc
   rw [hbx] at hc
   split at hc
   ·rename_i e1; subst e1; cases hc
    refine .inr ⟨⟨β, cap, arr, el, fun i j γ => Rf i j γ ∧ ¬ (i = ix ∧ j = k), ?_, ?_, h2, h3, h4, h5, ?_, ?_, fun i j h => h8 i j h.1, fun i j i' j' γ h h' => h9 i j i' j' γ h.1 h'.1, ?_, ?_⟩, fun c' hc' => ?_⟩
    ·simp only [G', if_neg hsb.symm]; exact hβ
    ·simp only [G', if_neg hsb.symm]; exact h1
    ·intro i0 row0 j0 t0 hi hj hne
     exact (h6 i0 row0 j0 t0 hi hj).mono (fun _ _ => rfl) (fun _ h => h) (fun γ hγ => ⟨hγ, hne⟩)
    ·intro i0 j0 γ hγ
     simp only [G', if_neg hsb.symm, if_true]
     exact ⟨h7 i0 j0 γ hγ.1, fun hr => hγ.2 (h9 i0 j0 ix k γ hγ.1 hr)⟩
    ·simp only [G', if_true]
    ·simp only [G', if_true]; exact g2
    ·have : c' = s := by simpa [Br.names] using hc'
     subst this
     rw [hbx, if_neg hsb, if_pos rfl]; rfl
   ·rename_i e1
    split at hc
    ·rename_i e2'; subst e2'; cases hc
     exact .inr ⟨g3 G' c (fun _ h => h) (by simp [G']) (by simp [G']) (fun γ hγ => by simp [G', hγ]), fun c' hc' => by rw [O8] at hc'; cases hc'⟩
    ·rename_i e2'
     exact .inl ⟨hc, by simp only [G', if_neg e1, if_neg e2'], fun _ _ _ => rfl⟩
  ·intro c kk γ hc hr hγ
   rw [hbx] at hc
   split at hc
   ·rename_i e1; subst e1
    exact hs.at_ok c _ γ hb rfl (hasB γ hγ).1
   ·rename_i e1
    split at hc
    ·rename_i e2'; subst e2'
     have := hs.at_ok b _ γ hb rfl (.inr (h7 ix k γ (hasS γ hγ)))
     exact ⟨.new (this.1.1 hbl), this.2⟩
    ·rename_i e2'
     exact hs.at_ok c kk γ hc hr ((hasO c γ e2' e1).1 hγ)
  ·intro c c' kk kk' γ hc hc' hr hr' hγ hγ'
   rw [hbx] at hc hc'
   have cl : ∀ c kk, (if c = b then some (Br.hol e cols ix k s rows) else if c = s then some (inner e2 cols2 rows2) else st.bx c) = some kk → kk.real = true → G'.has c γ → (c = b ∧ G.has b γ ∧ ¬ Rf ix k γ) ∨ (c = s ∧ Rf ix k γ) ∨ (c ≠ b ∧ st.bx c = some kk ∧ G.has c γ) := by
    intro c kk hc hr hγ
    split at hc
    ·rename_i e1; subst e1; exact .inl ⟨rfl, hasB γ hγ⟩
    ·rename_i e1
     split at hc
     ·rename_i e2'; subst e2'; exact .inr (.inl ⟨rfl, hasS γ hγ⟩)
     ·rename_i e2'; exact .inr (.inr ⟨e1, hc, (hasO c γ e2' e1).1 hγ⟩)
   rcases cl c kk hc hr hγ with ⟨q1, q2, q3⟩ | ⟨q1, q2⟩ | ⟨q1, q2, q3⟩ <;> rcases cl c' kk' hc' hr' hγ' with ⟨q1', q2', q3'⟩ | ⟨q1', q2'⟩ | ⟨q1', q2', q3'⟩
   ·rw [q1, q1']
   ·exact (q3 q2').elim
   ·exact (q1' (hs.at_inj c' b _ _ γ q2' hb hr' rfl q3' q2)).elim
   ·exact (q3' q2).elim
   ·rw [q1, q1']
   ·exact (q1' (hs.at_inj c' b _ _ γ q2' hb hr' rfl q3' (.inr (h7 ix k γ q2)))).elim
   ·exact (q1 (hs.at_inj c b _ _ γ q2 hb hr rfl q3 q2')).elim
   ·exact (q1 (hs.at_inj c b _ _ γ q2 hb hr rfl q3 (.inr (h7 ix k γ q2')))).elim
   ·exact hs.at_inj c c' kk kk' γ q2 q2' hr hr' q3 q3'
  ·have e1 : c ≠ s := fun e => by rw [e, hbl2] at hc; cases hc
   have e2' : c ≠ b := fun e => by rw [e, hbl] at hc; cases hc
   refine ⟨?_, ?_, ?_⟩ <;> simp only [G', if_neg e1, if_neg e2']
 exact ⟨G', key⟩
theorem Rz {st : St} (b c : Nat) {e ix k e2 : Nat} {cols cols2 : List Ow} {rows rows2 rows' : List (List T)} {row : List T} (hb : st.bx b = some (.hol e cols ix k c rows)) (hc : st.bx c = some (inner e2 cols2 rows2)) (hcol : cols.getD k .s = .x e2 cols2) (hrow : rows[ix]? = some row)
  (hbl : Bf b = false) (hcl : Bf c = false) (hr : rows.set ix (row.set k (.sl rows2)) = rows') : Gf P X st ⟨st.env, A4 st.bx [(b, .dvec e cols rows'), (c, .gone)]⟩ := by
 have hcb : c ≠ b := fun e' => by rw [e', hb] at hc; unfold inner at hc; split at hc <;> cases hc
 subst hr
 rintro a w ⟨G, hs⟩
 obtain ⟨β, cap, arr, el, Rf, hβ, h1, h2, h3, h4, h5, h6, h7, h8, h9, h10, h11⟩ := hs.blk b _ hb
 have hX := NT (hs.blk c _ hc)
 have hre := h5 ix row hrow
 let G' : Gh := { G with more := fun d => if d = b then (fun γ => G.more b γ ∨ G.has c γ) else G.more d }
 have hcβ : ∀ γ, G.has c γ → γ ≠ β := fun γ h e' => hcb (hs.at_inj c b _ _ γ hc hb C7 rfl h (.inl (e' ▸ hβ)))
 have hbx : ∀ d, A4 st.bx [(b, .dvec e cols (rows.set ix (row.set k (.sl rows2)))), (c, .gone)] d = if d = b then some (.dvec e cols (rows.set ix (row.set k (.sl rows2)))) else if d = c then some .gone else st.bx d := fun d => rfl
 have hasO : ∀ d γ, d ≠ b → (G'.has d γ ↔ G.has d γ) := fun d γ h => by unfold Gh.has; simp only [G', if_neg h]
 have hasB : ∀ γ, G'.has b γ → G.has b γ ∨ G.has c γ := fun γ h => by
  unfold Gh.has at h
  simp only [G', if_true] at h
  rcases h with h | h | h
  ·exact .inl (.inl h)
  ·exact .inl (.inr h)
  ·exact .inr h
 refine ⟨G', ?_⟩
 refine hs.frame2 (fun d hd => ?_) (fun _ h => h) (fun _ _ => rfl) (fun _ _ => rfl) (fun _ _ => rfl) ?_ ?_ ?_ hs.S_lt hs.S_src hs.below (fun d hd => ?_)
 ·rw [hbx]; split
  ·rfl
  ·split
   ·rfl
   ·exact hd
 ·intro d kk hd
  rw [hbx] at hd
  split at hd
  ·rename_i e1; subst e1; cases hd
   refine .inr ⟨.inr ⟨β, cap, arr, el, fun i0 j0 γ => if i0 = ix ∧ j0 = k then G.has c γ else Rf i0 j0 γ, hβ, by rw [yZ]; exact h1, h2, by rw [yZ]; exact h3, h4, ?_, ?_, ?_, ?_, ?_⟩, fun c' hc' => by cases hc'⟩
   ·intro j0 row' hj
    rcases E9 hj with ⟨_, rfl⟩ | ⟨_, hj⟩
    ·rw [yZ]; exact hre
    ·exact h5 j0 row' hj
   ·intro i0 row' j0 t0 hi hj
    have hj0 : j0 < e := by
     have := Aw hj
     rcases E9 hi with ⟨_, rfl⟩ | ⟨_, hi⟩
     ·rw [yZ] at this; omega
     ·have := h5 i0 row' hi; omega
    by_cases hh : i0 = ix ∧ j0 = k
    ·obtain ⟨rfl, rfl⟩ := hh
     rw [hcol]
     have ht0 : t0 = .sl rows2 := by
      rcases E9 hi with ⟨_, rfl⟩ | ⟨hne, _⟩
      ·rcases E9 hj with ⟨_, rfl⟩ | ⟨hne, _⟩
       ·rfl
       ·exact (hne rfl).elim
      ·exact (hne rfl).elim
     subst ht0
     rw [h10]
     exact hX.mono (fun _ _ => rfl) (fun _ h => h) (fun γ hγ => by simp only [and_self, if_true]; exact hγ)
    ·have hold : ∃ row0, rows[i0]? = some row0 ∧ row0[j0]? = some t0 := by
      rcases E9 hi with ⟨hii, rfl⟩ | ⟨_, hi⟩
      ·subst hii
       rcases E9 hj with ⟨hjj, _⟩ | ⟨_, hj⟩
       ·exact (hh ⟨rfl, hjj⟩).elim
       ·exact ⟨row, hrow, hj⟩
      ·exact ⟨row', hi, hj⟩
     obtain ⟨row0, q1, q2⟩ := hold
     exact (h6 i0 row0 j0 t0 q1 q2 hh).mono (fun _ _ => rfl) (fun _ h => h) (fun γ hγ => by simp only [if_neg hh]; exact hγ)
   ·intro i0 j0 γ hγ
    simp only [G', if_true]
    split at hγ
    ·exact .inr hγ
    ·exact .inl (h7 i0 j0 γ hγ)
   ·intro i0 j0 hγ
    split at hγ
    ·exact hcβ β hγ rfl
    ·exact h8 i0 j0 hγ
   ·intro i0 j0 i1 j1 γ hγ hγ'
    have cross : ∀ i j, Rf i j γ → G.has c γ → False := fun i j hr hh => hcb (hs.at_inj c d _ _ γ hc hb C7 rfl hh (.inr (h7 i j γ hr)))
    split at hγ <;> split at hγ'
    ·rename_i q q'; exact ⟨q.1.trans q'.1.symm, q.2.trans q'.2.symm⟩
    ·exact (cross _ _ hγ' hγ).elim
    ·exact (cross _ _ hγ hγ').elim
    ·exact h9 i0 j0 i1 j1 γ hγ hγ'
  ·rename_i e1
   split at hd
   ·cases hd; exact .inr ⟨trivial, fun c' hc' => by cases hc'⟩
   ·rename_i e2'
    exact .inl ⟨hd, by simp only [G', if_neg e1], fun _ _ _ => rfl⟩
 ·intro d kk γ hd hr hγ
  rw [hbx] at hd
  split at hd
  ·rename_i e1; subst e1
   rcases hasB γ hγ with h | h
   ·exact hs.at_ok d _ γ hb rfl h
   ·have := hs.at_ok c _ γ hc C7 h
    exact ⟨.new (this.1.1 hcl), this.2⟩
  ·rename_i e1
   split at hd
   ·cases hd; cases hr
   ·exact hs.at_ok d kk γ hd hr ((hasO d γ e1).1 hγ)
 ·intro d d' kk kk' γ hd hd' hr hr' hγ hγ'
  rw [hbx] at hd hd'
  have cl : ∀ d kk, (if d = b then some (Br.dvec e cols (rows.set ix (row.set k (.sl rows2)))) else if d = c then some .gone else st.bx d) = some kk → kk.real = true → G'.has d γ → (d = b ∧ (G.has b γ ∨ G.has c γ)) ∨ (d ≠ b ∧ d ≠ c ∧ st.bx d = some kk ∧ G.has d γ) := by
   intro d kk hd hr hγ
   split at hd
   ·rename_i e1; subst e1; exact .inl ⟨rfl, hasB γ hγ⟩
   ·rename_i e1
    split at hd
    ·cases hd; cases hr
    ·rename_i e2'; exact .inr ⟨e1, e2', hd, (hasO d γ e1).1 hγ⟩
  rcases cl d kk hd hr hγ with ⟨q1, q2⟩ | ⟨q1, q2, q3, q4⟩ <;> rcases cl d' kk' hd' hr' hγ' with ⟨q1', q2'⟩ | ⟨q1', q2', q3', q4'⟩
  ·rw [q1, q1']
  ·rcases q2 with h | h
   ·exact (q1' (hs.at_inj d' b _ _ γ q3' hb hr' rfl q4' h)).elim
   ·exact (q2' (hs.at_inj d' c _ _ γ q3' hc hr' C7 q4' h)).elim
  ·rcases q2' with h | h
   ·exact (q1 (hs.at_inj d b _ _ γ q3 hb hr rfl q4 h)).elim
   ·exact (q2 (hs.at_inj d c _ _ γ q3 hc hr C7 q4 h)).elim
  ·exact hs.at_inj d d' kk kk' γ q3 q3' hr hr' q4 q4'
 ·have e1 : d ≠ b := fun e' => by rw [e', hbl] at hd; cases hd
  refine ⟨rfl, rfl, ?_⟩
  simp only [G', if_neg e1]
section run
variable {dr : Bool} {Q : St → Prop} {r i : Nat} {st : St} {log : List (Nat × CO)} {o : Oper} {gs : List (Operand × D)}
theorem Wr {x : Operand} {b c e ix k s : Nat} {cols : List Ow} {rows : List (List T)} {row : List T} {u : T} {t : TypeId} (hat : At st.env ops i X.n (.load t x) s gs)
  (hx : opd st.env x = some (.e (.one (.eptr b e ix k)))) (ht : FW P t false = true) (hb : st.bx b = some (.hol e cols ix k c rows)) (hrow : rows[ix]? = some row) (hc : row[k]? = some u)
  (next : A8 P X ops dr Q r (i + 1) (CO.upd ⟨gs ++ [(x, .e (.one (.eptr b e ix k)))], [(b, .hol e cols ix k c rows)], some s, some (.e (.one (.own c))), [], []⟩ st) ((i, ⟨gs ++ [(x, .e (.one (.eptr b e ix k)))], [(b, .hol e cols ix k c rows)], some s, some (.e (.one (.own c))), [], []⟩) :: log)) : A8 P X ops dr Q (r + 1) i st log := by
 obtain ⟨o, ho, hop, hd, hn, hg, hgp⟩ := hat.out
 refine A8.step next ⟨Al.2 ⟨hgp, hx, trivial⟩, ⟨hb, trivial⟩, trivial⟩ (LR.value ho hg rfl hd.symm (C6 hd hn) ?_)
 intro G st a w hs hpre
 have hx := (Al.1 hpre.r).2.1
 have hb := hpre.b.1
 obtain ⟨β, hβ, hv⟩ : Fu P w G (a.eval x) (.eptr b e ix k) := hs.opd hx
 obtain ⟨β', cap, arr, el, Rf, h0, h1, h2, h3, h4, h5, h6, h7, h8, h9, h10, h11⟩ := hs.blk b _ hb
 rw [hβ] at h0; cases h0
 have hre := h5 ix row hrow
 have hk := Aw hc
 have hix := Aw hrow
 have hbnd : ix * e + e ≤ arr.size := by rw [h4, ← zW]; exact zB e (xA hix h3)
 refine ⟨As arr (ix * e + k), w, G, ?_, hs, ?_⟩
 ·simp only [execOp, hop, hv]
  exact Aj (Ih ht h2 (by omega)) rfl
 ·rintro d ⟨⟩
  refine ⟨⟨h10, by rw [h10]; exact h11⟩, fun b' hb' => ?_⟩
  have : b' = c := by simpa [D.names, E.names, C.names] using hb'
  subst this
  exact hs.liveB b _ hb b' (by simp [Br.names])
def YO (bx : Nat → Option Br) : C → Ow → T → Prop
 | .pure u, .s, t => u = t
 | .own c, .x e2 cols2, .sl rows2 => bx c = some (inner e2 cols2 rows2)
 | _, _, _ => False
def U7 (bx : Nat → Option Br) : Nat → List Ow → List C → List T → Prop
 | _, _, [], [] => True
 | j, cols, c :: cs, t :: ts => YO bx c (cols.getD j .s) t ∧ U7 bx (j + 1) cols cs ts
 | _, _, _, _ => False
def Qs : Nat → List Ow → List C → List T → List (Nat × Br)
 | j, cols, .own c :: cs, .sl rows2 :: ts => (match cols.getD j .s with | .x e2 cols2 => [(c, inner e2 cols2 rows2)] | .s => []) ++ Qs (j + 1) cols cs ts
 | j, cols, _ :: cs, _ :: ts => Qs (j + 1) cols cs ts
 | _, _, _, _ => []
theorem P1 {bx : Nat → Option Br} {cols : List Ow} : ∀ {cs : List C} {ts : List T} {j0 : Nat}, U7 bx j0 cols cs ts → cs.length = ts.length ∧ ∀ (j : Nat) (c : C) (t : T), cs[j]? = some c → ts[j]? = some t → YO bx c (cols.getD (j0 + j) .s) t
 | [], [], _, _ => ⟨rfl, fun j c t h => by simp at h⟩
 | c :: cs, t :: ts, j0, h => by
  obtain ⟨g1, g2⟩ := P1 h.2
  refine ⟨by simp [g1], fun j c' t' hc ht => ?_⟩
  cases j with
  | zero => simp at hc ht; subst hc; subst ht; exact h.1
  | succ j =>
   have := g2 j c' t' (by simpa using hc) (by simpa using ht)
   rwa [show j0 + 1 + j = j0 + (j + 1) from by omega] at this
end run
end Go.Lift
namespace Go.Lift
open List renaming mem_of_getElem? → lM
open Go.RowKit
variable {P : Program} {X : Jp} {ops : Array Oper}
theorem X9 {e : Nat} {arr : Array Value} {v : Value} (ha : arr.size = 1 * e) (hv : v.cells.size = e) :
  ∃ arr', Instr.fill (fun i => some (i * e, e)) arr [(0, v)] = some arr' ∧ arr'.size = 1 * e ∧ ∀ j, j < e → As arr' j = As v.cells j := by
 refine ⟨FT arr 0 v.cells.toList, ?_, by rw [Gj, ha], fun j hj => ?_⟩
 ·simp only [Instr.fill]
  rw [if_neg (by simp; omega), Mt]
  simp
 ·rw [E4 _ _ _ _ (by simp; omega), if_pos (by simp; omega), FY, Nat.sub_zero]
theorem Xr {bx : Nat → Option Br} {c : C} {o : Ow} {t : T} (h : YO bx c o t) : (∃ u, c = .pure u ∧ o = .s ∧ t = u) ∨ ∃ b e2 cols2 rows2, c = .own b ∧ o = .x e2 cols2 ∧ t = .sl rows2 ∧ bx b = some (inner e2 cols2 rows2) := by
 cases c with
 | pure u =>
  cases o with
  | s => exact .inl ⟨u, rfl, rfl, h.symm⟩
  | x e cols => exact h.elim
 | own b =>
  cases o with
  | s => exact h.elim
  | x e cols =>
   cases t with
   | sl rows2 => exact .inr ⟨b, e, cols, rows2, rfl, rfl, rfl, h⟩
   | _ => exact h.elim
 | _ => cases o <;> exact h.elim
section run
variable {dr : Bool} {Q : St → Prop} {r i : Nat} {st : St} {log : List (Nat × CO)} {o : Oper} {gs : List (Operand × D)}
def D6 : List C → List Nat
 | [] => []
 | .own c :: cs => c :: D6 cs
 | _ :: cs => D6 cs
theorem Ht {b : Nat} : ∀ {cs : List C}, b ∈ D6 cs ↔ .own b ∈ cs
 | [] => by simp [D6]
 | c :: cs => by
  cases c <;> simp [D6, Ht (cs := cs)]
theorem Pa : ∀ {cs : List C}, (D6 cs).Nodup → ∀ (j j' b : Nat), cs[j]? = some (.own b) → cs[j']? = some (.own b) → j = j'
 | [], _, j, j', b, h, _ => by simp at h
 | c :: cs, hn, j, j', b, h, h' => by
  have hn2 : (D6 cs).Nodup := by
   cases c <;> simp only [D6] at hn <;> first | exact hn | exact (xW.1 hn).2
  have hnot : c = .own b → .own b ∉ cs := fun e hm => by
   subst e
   simp only [D6] at hn
   exact (xW.1 hn).1 (Ht.2 hm)
  cases j with
  | zero =>
   cases j' with
   | zero => rfl
   | succ j' =>
    simp at h h'
    exact (hnot h (lM h')).elim
  | succ j =>
   cases j' with
   | zero =>
    simp at h h'
    exact (hnot h' (lM h)).elim
   | succ j' =>
    rw [Pa hn2 j j' b (by simpa using h) (by simpa using h')]
theorem I5 {t el : TypeId} {s e : Nat} {z : Value} {y : Operand} {x : E} {cs : List C} {ts : List T} (cols : List Ow) (rb : List (Nat × Br)) {parts : Array (Nat × Operand)} (hat : At st.env ops i X.n (.buildSlice t 1 parts) s gs) (hps : parts = #[(0, y)])
  (hx : opd st.env y = some (.e x)) (hcs : x.cells = cs) (hlen : cs.length = e) (hrb : Qs 0 cols cs ts = rb) (hb : HU st.bx rb) (hcx : U7 st.bx 0 cols cs ts) (hnew : st.bx s = none)
  (hnd : Js (D6 cs) = true) (hnl : (D6 cs).all (fun c => !Bf c) = true) (ht : sliceB P t el = true) (he : Hs P el e = true) (hz : EC P el = some z) (hsm : e ≤ 16777216)
  (next : A8 P X ops dr Q r (i + 1) (CO.upd ⟨gs ++ [(y, .e x)], rb, some s, some (.e (.one (.own s))), (s, .dvec e cols [ts]) :: GF (D6 cs), [s]⟩ st) ((i, ⟨gs ++ [(y, .e x)], rb, some s, some (.e (.one (.own s))), (s, .dvec e cols [ts]) :: GF (D6 cs), [s]⟩) :: log)) : A8 P X ops dr Q (r + 1) i st log := by
 obtain ⟨o, ho, hop, hdst, hn, hg, hgp⟩ := hat.out
 have hndp := Jd hnd
 refine A8.step next ⟨Al.2 ⟨hgp, hx, trivial⟩, hb, hnew, trivial⟩ (LR.value ho hg rfl hdst.symm (C6 hdst hn) ?_)
 have hcx0 := P1 hcx
 intro G st' a w hs hpre
 have hx := (Al.1 hpre.r).2.1
 have hnew := hpre.n.1
 have hb := hpre.b
 have hpb : ∀ {l : List (Nat × Br)}, HU st'.bx l → ∀ p, p ∈ l → st'.bx p.1 = some p.2 := by
  intro l
  induction l with
  | nil => intro _ p hp; cases hp
  | cons q l ih =>
   intro h p hp
   rcases zO.1 hp with e | e
   ·subst e; exact h.1
   ·exact ih h.2 p e
 -- what each cell is, in this state
 have hown : ∀ (j : Nat) (c : C) (u : T), cs[j]? = some c → ts[j]? = some u → (∃ v, c = .pure v ∧ cols.getD j .s = .s ∧ u = v) ∨ ∃ b e2 cols2 rows2, c = .own b ∧ cols.getD j .s = .x e2 cols2 ∧ u = .sl rows2 ∧ st'.bx b = some (inner e2 cols2 rows2) := by
  intro j c u hc hu
  have h1 := hcx0.2 j c u hc hu
  rw [zC] at h1
  rcases Xr h1 with h2 | ⟨b, e2, cols2, rows2, rfl, h3, rfl, _⟩
  ·exact .inl h2
  ·refine .inr ⟨b, e2, cols2, rows2, rfl, h3, rfl, ?_⟩
   have hmem : ∀ (cs : List C) (ts : List T) (j0 j : Nat), cs[j]? = some (.own b) → ts[j]? = some (.sl rows2) → cols.getD (j0 + j) .s = .x e2 cols2 → (b, inner e2 cols2 rows2) ∈ Qs j0 cols cs ts := by
    intro cs
    induction cs with
    | nil => intro ts j0 j h; simp at h
    | cons c cs ih =>
     intro ts j0 j h h' hcol
     cases ts with
     | nil => simp at h'
     | cons t ts =>
      cases j with
      | zero =>
       simp at h h'; subst h; subst h'
       rw [xK] at hcol
       simp only [Qs, hcol]
       exact xJ _ (by simp)
      | succ j =>
       have := ih ts (j0 + 1) j (by simpa using h) (by simpa using h') (by rwa [show j0 + 1 + j = j0 + (j + 1) from by omega])
       cases c <;> first | (simp only [Qs]; exact this) | (cases t <;> simp only [Qs] <;> first | exact this | exact List.mem_append_right _ this)
   have := hmem cs ts 0 j hc hu (by rw [zC]; exact h3)
   rw [hrb] at this
   exact hpb hb _ this
 obtain ⟨hcsz, hcr⟩ := (show JB P w G (a.eval y) x from hs.opd hx).cells
 rw [hcs] at hcsz hcr
 have hve : (a.eval y).cells.size = e := by rw [hcsz, hlen]
 have hgn : ∀ c, c ∈ D6 cs → ∃ (j e2 : Nat) (cols2 : List Ow) (rows2 : List (List T)), cs[j]? = some (.own c) ∧ cols.getD j .s = .x e2 cols2 ∧ st'.bx c = some (inner e2 cols2 rows2) := by
  intro c hc
  obtain ⟨j, hj⟩ := zN.1 (Ht.1 hc)
  have hjt : j < ts.length := by rw [← hcx0.1]; exact Aw hj
  rcases hown j _ ts[j] hj (by simp [hjt]) with ⟨v, h, _⟩ | ⟨b, e2, cols2, rows2, h1, h2, _, h4⟩
  ·cases h
  ·cases h1; exact ⟨j, e2, cols2, rows2, hj, h2, h4⟩
 have hs0 : s ∉ D6 cs := fun hm => by
  obtain ⟨_, _, _, _, _, _, h⟩ := hgn s hm
  rw [hnew] at h; cases h
 obtain ⟨arr', r1, r2, r3⟩ := X9 (e := e) (arr := (Array.range (1 * e)).map (fun k => (if 1 * e = 0 then (#[] : Array Value) else z.cells)[k % (if 1 * e = 0 then (#[] : Array Value) else z.cells).size]!)) (v := a.eval y) (by simp) hve
 let w' := w.alloc (.cells arr' el)
 let G' : Gh := { S := G.S, loc := fun c => if c = s then some w.heap.size else G.loc c, hd := fun c => if c = s then .slice (some ⟨w.heap.size, 0, none⟩) 1 1 else G.hd c, more := fun c => if c = s then (fun γ => ∃ b, b ∈ D6 cs ∧ G.has b γ) else G.more c }
 have hheap : ∀ γ, γ < w.heap.size → w'.heap[γ]? = w.heap[γ]? := fun γ hγ => by show (w.alloc _).heap[γ]? = _; rw [Da, if_neg (by omega)]
 have hatw : w'.heap[w.heap.size]? = some (.cells arr' el) := by show (w.alloc _).heap[_]? = _; rw [Da, if_pos rfl]
 have hsz : w'.heap.size = w.heap.size + 1 := by show (w.heap.push _).size = _; simp
 have hbx : ∀ d, A4 st'.bx ((s, .dvec e cols [ts]) :: GF (D6 cs)) d = if d = s then some (.dvec e cols [ts]) else if d ∈ D6 cs then some .gone else st'.bx d := fun d => by
  simp only [A4]; split
  ·rfl
  ·exact LZ
 have hsome : ∀ c, (st'.bx c).isSome = true → c ≠ s := fun c hc e => by rw [e, hnew] at hc; cases hc
 have hasO : ∀ d γ, d ≠ s → (G'.has d γ ↔ G.has d γ) := fun d γ h => by unfold Gh.has; simp only [G', if_neg h]
 have hasS : ∀ γ, G'.has s γ → γ = w.heap.size ∨ ∃ b, b ∈ D6 cs ∧ G.has b γ := fun γ h => by
  unfold Gh.has at h
  simp only [G', if_true] at h
  rcases h with h | h
  ·cases h; exact .inl rfl
  ·exact .inr h
 have hlt : ∀ b γ, b ∈ D6 cs → G.has b γ → P4 X b γ ∧ γ < w.heap.size ∧ ¬ G.S γ := fun b γ hbm hγ => by
  obtain ⟨_, _, _, _, _, _, h⟩ := hgn b hbm
  exact hs.at_ok b _ γ h C7 hγ
 have hcsj : ∀ (j : Nat) (c : C), cs[j]? = some c → Fu P w G (As (a.eval y).cells j) c := hcr
 have key : Dx P X G' ⟨st'.env, A4 st'.bx ((s, .dvec e cols [ts]) :: GF (D6 cs))⟩ a w' := by
  refine hs.frame2 (fun d hd => ?_) (fun _ h => h) (fun c hc => by simp only [G']; rw [if_neg (hsome c hc)]) (fun c hc => by simp only [G']; rw [if_neg (hsome c hc)]) (fun γ hγ => hheap γ (hs.S_lt γ hγ)) ?_ ?_ ?_ (fun γ hγ => by have := hs.S_lt γ hγ; omega) hs.S_src (hs.below.alloc hs.below.size _) (fun d hd => ?_)
  ·rw [hbx]; split
   ·rfl
   ·split
    ·rfl
    ·exact hd
  ·intro d kk hd
   rw [hbx] at hd
   split at hd
   ·rename_i e1; subst e1; cases hd
    refine .inr ⟨.inr ⟨w.heap.size, 1, arr', el, fun i0 j0 γ => i0 = 0 ∧ ∃ b, cs[j0]? = some (.own b) ∧ G.has b γ, by simp [G'], by simp [G'], hatw, by simp, r2, ?_, ?_, ?_, ?_, ?_⟩, fun c' hc' => by cases hc'⟩
    ·intro i0 row hi
     cases i0 with
     | zero => simp at hi; subst hi; rw [← hcx0.1, hlen]
     | succ i0 => simp at hi
    ·intro i0 row j0 t0 hi hj
     cases i0 with
     | succ i0 => simp at hi
     | zero =>
      simp at hi; subst hi
      have hj0 : j0 < cs.length := by rw [hcx0.1]; exact Aw hj
      have hcj : cs[j0]? = some cs[j0] := by simp [hj0]
      rw [Nat.zero_mul, zC, r3 j0 (by omega)]
      have hR := hcsj j0 _ hcj
      rcases hown j0 _ t0 hcj hj with ⟨v, h1, h2, h3⟩ | ⟨b, e2, cols2, rows2, h1, h2, h3, h4⟩
      ·rw [h2, h3]
       rw [h1] at hR
       exact .s ((show DQ w G.S _ v from hR).mono (fun γ hγ => hheap γ (hs.S_lt γ hγ)) fun _ h => h)
      ·rw [h2, h3]
       rw [h1] at hR hcj
       have hvv : As (a.eval y).cells j0 = G.hd b := hR.1
       rw [hvv]
       refine (NT (hs.blk b _ h4)).mono (fun γ hγ => hheap γ ?_) (fun _ h => h) (fun γ hγ => ⟨rfl, b, hcj, hγ⟩)
       rcases hγ with h | h
       ·exact hs.S_lt γ h
       ·exact (hs.at_ok b _ γ h4 C7 h).2.1
    ·rintro i0 j0 γ ⟨_, b, hcb, hγ⟩
     simp only [G', if_true]
     exact ⟨b, Ht.2 (lM hcb), hγ⟩
    ·rintro i0 j0 ⟨_, b, hcb, hγ⟩
     exact uF _ (hlt b _ (Ht.2 (lM hcb)) hγ).2.1
    ·rintro i0 j0 i1 j1 γ ⟨q0, b, hcb, hγ⟩ ⟨q1, b', hcb', hγ'⟩
     refine ⟨q0.trans q1.symm, ?_⟩
     obtain ⟨_, _, _, _, _, _, k1⟩ := hgn b (Ht.2 (lM hcb))
     obtain ⟨_, _, _, _, _, _, k2⟩ := hgn b' (Ht.2 (lM hcb'))
     have := hs.at_inj b b' _ _ γ k1 k2 C7 C7 hγ hγ'
     subst this
     exact Pa hndp _ _ b hcb hcb'
   ·rename_i e1
    split at hd
    ·cases hd; exact .inr ⟨trivial, fun c' hc' => by cases hc'⟩
    ·exact .inl ⟨hd, by simp only [G', if_neg e1], fun γ hr hγ => hheap γ (hs.at_ok d kk γ hd hr hγ).2.1⟩
  ·intro d kk γ hd hr hγ
   rw [hbx] at hd
   split at hd
   ·rename_i e1; subst e1
    rcases hasS γ hγ with h | ⟨b, hbm, h⟩
    ·subst h
     exact ⟨.new hs.below.size, by omega, fun h => uF _ (hs.S_lt _ h)⟩
    ·have := hlt b γ hbm h
     have hbl : Bf b = false := by
      have := zG.1 hnl b hbm
      simpa using this
     exact ⟨.new (this.1.1 hbl), by omega, this.2.2⟩
   ·rename_i e1
    split at hd
    ·cases hd; cases hr
    ·have := hs.at_ok d kk γ hd hr ((hasO d γ e1).1 hγ)
     exact ⟨this.1, by omega, this.2.2⟩
  ·intro d d' kk kk' γ hd hd' hr hr' hγ hγ'
   rw [hbx] at hd hd'
   have cl : ∀ d kk, (if d = s then some (Br.dvec e cols [ts]) else if d ∈ D6 cs then some .gone else st'.bx d) = some kk → kk.real = true → G'.has d γ → (d = s ∧ (γ = w.heap.size ∨ ∃ b, b ∈ D6 cs ∧ G.has b γ)) ∨ (d ≠ s ∧ d ∉ D6 cs ∧ st'.bx d = some kk ∧ G.has d γ) := by
    intro d kk hd hr hγ
    split at hd
    ·rename_i e1; subst e1; exact .inl ⟨rfl, hasS γ hγ⟩
    ·rename_i e1
     split at hd
     ·cases hd; cases hr
     ·rename_i e2'; exact .inr ⟨e1, e2', hd, (hasO d γ e1).1 hγ⟩
   have cross : ∀ d kk, d ∉ D6 cs → st'.bx d = some kk → kk.real = true → G.has d γ → (γ = w.heap.size ∨ ∃ b, b ∈ D6 cs ∧ G.has b γ) → False := by
    intro d kk hdm hd hr hγ h
    rcases h with h | ⟨b, hbm, h⟩
    ·have := (hs.at_ok d kk γ hd hr hγ).2.1; omega
    ·obtain ⟨_, _, _, _, _, _, k1⟩ := hgn b hbm
     exact hdm (hs.at_inj d b _ _ γ hd k1 hr C7 hγ h ▸ hbm)
   rcases cl d kk hd hr hγ with ⟨q1, q2⟩ | ⟨q1, q2, q3, q4⟩ <;> rcases cl d' kk' hd' hr' hγ' with ⟨q1', q2'⟩ | ⟨q1', q2', q3', q4'⟩
   ·rw [q1, q1']
   ·exact (cross d' kk' q2' q3' hr' q4' q2).elim
   ·exact (cross d kk q2 q3 hr q4 q2').elim
   ·exact hs.at_inj d d' kk kk' γ q3 q3' hr hr' q4 q4'
  ·have e1 : d ≠ s := fun e' => by rw [e', hs.nl hn] at hd; cases hd
   refine ⟨?_, ?_, ?_⟩ <;> simp only [G', if_neg e1]
 refine ⟨.slice (some ⟨w.heap.size, 0, none⟩) 1 1, w', G', ?_, key, ?_⟩
 ·simp only [execOp, hop, hps]
  refine Aj (w1 := w') (a := .slice (some ⟨w.heap.size, 0, none⟩) 1 1) ?_ rfl
  have hpa : ((#[(0, y)] : Array (Nat × Operand)).map fun (i, x) => (i, a.eval x)) = #[(0, a.eval y)] := by simp
  unfold sliceB at ht
  split at ht
  ·rename_i e' hu
   have : e' = el := by simpa using ht
   subst this
   rw [hpa]
   unfold Instr.buildSlice
   refine Aj (AI hu w) ?_
   refine Aj (DI he w) ?_
   rw [if_neg (by omega)]
   by_cases hne : 1 * e = 0
   ·rw [if_pos hne] at r1
    rw [if_pos hne]
    refine Aj (a := (#[] : Array Value)) (w1 := w) rfl ?_
    simp only [r1]
    rfl
   ·rw [if_neg hne] at r1
    rw [if_neg hne]
    refine Aj (EJ hz w) ?_
    refine Aj (a := z.cells) (w1 := w) rfl ?_
    simp only [r1]
    rfl
  ·cases ht
 ·rintro d ⟨⟩
  refine ⟨⟨by simp [G'], _, _, _, rfl⟩, fun b hb => ?_⟩
  have : b = s := by simpa [D.names, E.names, C.names] using hb
  subst this
  rw [hbx, if_pos rfl]; rfl
end run
end Go.Lift
namespace Go.Lift
open Go.RowKit
variable {P : Program} {X : Jp} {ops : Array Oper}
theorem PF {α : Type} (f : α → List T) (xs : List α) (n e : Nat) (cols : List Ow) : vl (.pvec n e cols (xs.map f)) = some (e, xs.length) := by simp [vl]
theorem Qu {st : St} (b : Nat) (k k' : Br) (hb : st.bx b = some k) (hr : k.real = true) (hn : k'.names = []) (h : ∀ (w : World) (G : Gh), E1 P w G b k → E1 P w G b k') : Gf P X st (St.setB st b k') := by
 rintro a w ⟨G, hs⟩
 refine ⟨G, hs.frame (bx' := (St.setB st b k').bx) ?_ ⟨fun _ h => h, fun _ _ => rfl, fun _ _ => rfl, fun _ _ => rfl⟩ (fun _ _ => rfl) ?_ ?_ ?_ hs.S_lt hs.S_src hs.below (fun _ _ => ⟨rfl, rfl, rfl⟩)⟩
 ·intro c hc; simp only [St.setB]; split <;> simp [hc]
 ·intro c kk hc
  simp only [St.setB] at hc
  split at hc
  ·rename_i e1; subst e1; cases hc
   exact .inr ⟨h w G (hs.blk c _ hb), fun c' hc' => by rw [hn] at hc'; cases hc'⟩
  ·exact .inl ⟨hc, fun _ _ _ => rfl⟩
 ·intro c kk β hc hr' hβ
  simp only [St.setB] at hc
  split at hc
  ·rename_i e1; subst e1; exact hs.at_ok _ _ β hb hr hβ
  ·exact hs.at_ok c kk β hc hr' hβ
 ·intro c c' kk kk' β hc hc' hr1 hr2 hβ hβ'
  simp only [St.setB] at hc hc'
  have old : ∀ c kk, (if c = b then some k' else st.bx c) = some kk → kk.real = true → ∃ k0, st.bx c = some k0 ∧ k0.real = true := by
   intro c kk hc hr'
   split at hc
   ·rename_i e1; subst e1; exact ⟨_, hb, hr⟩
   ·exact ⟨kk, hc, hr'⟩
  obtain ⟨k0, q1, q2⟩ := old c kk hc hr1
  obtain ⟨k0', q1', q2'⟩ := old c' kk' hc' hr2
  exact hs.at_inj c c' k0 k0' β q1 q1' q2 q2' hβ hβ'
theorem Ug {st : St} (b e : Nat) (cols : List Ow) (rows : List (List T)) (hb : st.bx b = some (.vec e rows)) : Gf P X st (St.setB st b (.pvec 0 e cols rows)) :=
 Qu b _ _ hb rfl rfl fun _ _ h => ⟨zL _, h.imp id fun ⟨β, cap, arr, el, h0, h1, h2, h3, h4, h5, h6⟩ =>
  ⟨β, cap, arr, el, fun _ _ _ => False, h0, h1, h2, h3, h4, h5, fun i row j t hi hj => by rw [if_neg (by omega)]; exact .s (h6 i row j t hi hj), fun _ _ _ h => h.elim, fun _ _ h => h, fun _ _ _ _ _ h => h.elim⟩⟩
theorem TP {st : St} (b : Nat) {n m e : Nat} {cols : List Ow} {rows : List (List T)} (hb : st.bx b = some (.pvec n e cols rows)) (h : n = m) : Gf P X st (St.setB st b (.pvec m e cols rows)) :=
 Qu b _ _ hb rfl rfl fun _ _ hk => h ▸ hk
theorem TY {st : St} (b : Nat) {n e : Nat} {cols : List Ow} {rows : List (List T)} (hb : st.bx b = some (.pvec n e cols rows)) (h : n = rows.length) : Gf P X st (St.setB st b (.dvec e cols rows)) :=
 Qu b _ _ hb rfl rfl fun _ _ hk => by
  obtain ⟨_, hk⟩ := hk
  refine hk.imp id fun ⟨β, cap, arr, el, Rf, h0, h1, h2, h3, h4, h5, h6, h7⟩ => ⟨β, cap, arr, el, Rf, h0, h1, h2, h3, h4, h5, fun i row j t hi hj => ?_, h7⟩
  have := h6 i row j t hi hj
  rwa [if_pos (by rw [h]; exact Aw hi)] at this
section run
variable {dr : Bool} {Q : St → Prop} {r i : Nat} {st : St} {log : List (Nat × CO)} {o : Oper} {gs : List (Operand × D)}
theorem TD {x : Operand} {b n e ix k s : Nat} {cols : List Ow} {rows : List (List T)} {row : List T} {u : T} {t : TypeId} (hat : At st.env ops i X.n (.load t x) s gs)
  (hx : opd st.env x = some (.e (.one (.eptr b e ix k)))) (ht : FW P t false = true) (hb : st.bx b = some (.pvec n e cols rows)) (hrow : rows[ix]? = some row) (hc : row[k]? = some u) (hn : n ≤ ix)
  (next : A8 P X ops dr Q r (i + 1) (CO.upd ⟨gs ++ [(x, .e (.one (.eptr b e ix k)))], [(b, .pvec n e cols rows)], some s, some (one u), [], []⟩ st) ((i, ⟨gs ++ [(x, .e (.one (.eptr b e ix k)))], [(b, .pvec n e cols rows)], some s, some (one u), [], []⟩) :: log)) : A8 P X ops dr Q (r + 1) i st log := by
 obtain ⟨o, ho, hop, hd, hn', hg, hgp⟩ := hat.out
 refine A8.step next ⟨Al.2 ⟨hgp, hx, trivial⟩, ⟨hb, trivial⟩, trivial⟩ (LR.value ho hg rfl hd.symm (C6 hd hn') ?_)
 intro G st a w hs hpre
 have hx := (Al.1 hpre.r).2.1
 have hb := hpre.b.1
 obtain ⟨β, hβ, hv⟩ : Fu P w G (a.eval x) (.eptr b e ix k) := hs.opd hx
 obtain ⟨_, hbk⟩ := hs.blk b _ hb
 obtain ⟨β', cap, arr, el, Rf, h0, h1, h2, h3, h4, h5, h6, h7⟩ := hbk.resolve_left (fun ⟨_, _, h, _⟩ => by rw [h] at hrow; cases hrow)
 rw [hβ] at h0; cases h0
 have hre := h5 ix row hrow
 have hk := Aw hc
 have hix := Aw hrow
 have hbnd : ix * e + e ≤ arr.size := by rw [h4, ← zW]; exact zB e (xA hix h3)
 have hcell := h6 ix row k u hrow hc
 rw [if_neg (by omega)] at hcell
 refine ⟨As arr (ix * e + k), w, G, ?_, hs, ?_⟩
 ·simp only [execOp, hop, hv]
  exact Aj (Ih ht h2 (by omega)) rfl
 ·rintro d ⟨⟩
  cases hcell with
  | s h => exact ⟨h, fun b hb => by cases hb⟩
theorem Sd {x y : Operand} {b c n ix e2 : Nat} {cols cols2 : List Ow} {rows rows2 rows' : List (List T)} {row : List T} {t : TypeId} (hat : Rq ops i = some (.store t x y))
  (hx : opd st.env x = some (.e (.one (.eptr b 1 ix 0)))) (hy : opd st.env y = some (.e (.one (.own c)))) (hb : st.bx b = some (.pvec n 1 cols rows)) (hc : st.bx c = some (inner e2 cols2 rows2)) (hcol : cols.getD 0 .s = .x e2 cols2) (hrow : rows[ix]? = some row) (hixn : n = ix) (hz : Hs P t 1 = true)
  (hbl : Bf b = false) (hcl : Bf c = false) (hr : rows.set ix (row.set 0 (.sl rows2)) = rows')
  (next : A8 P X ops dr Q r (i + 1) (CO.upd ⟨[(x, .e (.one (.eptr b 1 ix 0))), (y, .e (.one (.own c)))], [(b, .pvec n 1 cols rows), (c, inner e2 cols2 rows2)], none, none, [(b, .pvec (n + 1) 1 cols rows'), (c, .gone)], []⟩ st) ((i, ⟨[(x, .e (.one (.eptr b 1 ix 0))), (y, .e (.one (.own c)))], [(b, .pvec n 1 cols rows), (c, inner e2 cols2 rows2)], none, none, [(b, .pvec (n + 1) 1 cols rows'), (c, .gone)], []⟩) :: log)) : A8 P X ops dr Q (r + 1) i st log := by
 obtain ⟨o, ho, hop, hd, hgn⟩ := Mu hat
 have hg : W4 ops o [] := .none hgn
 have hcb : c ≠ b := fun e' => by rw [e', hb] at hc; unfold inner at hc; split at hc <;> cases hc
 refine A8.step next ⟨⟨hx, hy, trivial⟩, ⟨hb, hc, trivial⟩, trivial⟩ (LR.skip (rs := [(x, .e (.one (.eptr b 1 ix 0))), (y, .e (.one (.own c)))]) ho hg rfl hd rfl ?_)
 intro G st a w hs hpre
 obtain ⟨hx, hy, _⟩ := hpre.r
 obtain ⟨hb, hc, _⟩ := hpre.b
 subst hr
 obtain ⟨β, hβ, hv⟩ : Fu P w G (a.eval x) (.eptr b 1 ix 0) := hs.opd hx
 obtain ⟨hy1, pp, pn, pq, hy2⟩ : Fu P w G (a.eval y) (.own c) := hs.opd hy
 obtain ⟨hnl, hbk⟩ := hs.blk b _ hb
 obtain ⟨β', cap, arr, el, Rf, h0, h1, h2, h3, h4, h5, h6, h7, h8, h9⟩ := hbk.resolve_left (fun ⟨_, _, h, _⟩ => by rw [h] at hrow; cases hrow)
 rw [hβ] at h0; cases h0
 subst hixn
 have hX := NT (hs.blk c _ hc)
 have hatb := hs.at_ok b _ β hb rfl (.inl hβ)
 have hre := h5 n row hrow
 have hix := Aw hrow
 have hbnd : n * 1 + 1 ≤ arr.size := by rw [h4, ← zW]; exact zB 1 (xA hix h3)
 have hone : HI (a.eval y) = true := by rw [hy2]; rfl
 have hst := EP (P := P) (β := β) (el := el) [a.eval y] w (n * 1 + 0) 0 arr h2 (by simp; omega) (fun v hv => by simp at hv; subst hv; exact hone)
 rw [xK] at hst
 let G' : Gh := { G with more := fun d => if d = b then (fun γ => G.more b γ ∨ G.has c γ) else G.more d }
 let arr' := FT arr (n * 1 + 0) [a.eval y]
 let w' := Gt w β (.cells arr' el (0, 0))
 have hover : ∀ j, As arr' j = if j = n * 1 + 0 then a.eval y else As arr j := fun j => by
  show As (FT arr (n * 1 + 0) [a.eval y]) j = _
  rw [E4 _ _ _ _ (by simp; omega)]
  simp only [zU]
  by_cases hj : j = n * 1 + 0
  ·subst hj; rw [if_pos (by omega), if_pos rfl]; simp
  ·rw [if_neg (by omega), if_neg hj]
 have hheap : ∀ γ, γ ≠ β → w'.heap[γ]? = w.heap[γ]? := fun γ hγ => by show (Gt w β _).heap[γ]? = _; rw [DS, if_neg (fun h => hγ h.1)]
 have hsz : w'.heap.size = w.heap.size := by show (Gt w β _).heap.size = _; simp [Gt]
 have hcβ : ∀ γ, G.has c γ → γ ≠ β := fun γ h e' => hcb (hs.at_inj c b _ _ γ hc hb C7 rfl h (.inl (e' ▸ hβ)))
 have hbx : ∀ d, A4 st.bx [(b, .pvec (n + 1) 1 cols (rows.set n (row.set 0 (.sl rows2)))), (c, .gone)] d = if d = b then some (.pvec (n + 1) 1 cols (rows.set n (row.set 0 (.sl rows2)))) else if d = c then some .gone else st.bx d := fun d => rfl
 have hasO : ∀ d γ, d ≠ b → (G'.has d γ ↔ G.has d γ) := fun d γ h => by unfold Gh.has; simp only [G', if_neg h]
 have hasB : ∀ γ, G'.has b γ → G.has b γ ∨ G.has c γ := fun γ h => by
  unfold Gh.has at h
  simp only [G', if_true] at h
  rcases h with h | h | h
  ·exact .inl (.inl h)
  ·exact .inl (.inr h)
  ·exact .inr h
 have hix2 : ∀ i0 j0, j0 < 1 → i0 * 1 + j0 = n * 1 + 0 → i0 = n ∧ j0 = 0 := by
  intro i0 j0 hj0 he
  rcases Nat.lt_trichotomy i0 n with h | h | h
  ·have : i0 * 1 + 1 ≤ n * 1 := by rw [← zW]; exact zB 1 h
   omega
  ·subst h; exact ⟨rfl, by omega⟩
  ·have : n * 1 + 1 ≤ i0 * 1 := by rw [← zW]; exact zB 1 h
   omega
 refine ⟨w', G', ?_, ?_⟩
 ·simp only [execOp, hop, hv]
  have hcells : (a.eval y).cells.toList = [a.eval y] := by rw [hy2]; rfl
  refine Aj (a := ()) (w1 := w') ?_ rfl
  have := Kt (P := P) (n := 1) hz (v := a.eval y) (by rw [hy2]; rfl) h2 (show n * 1 + 0 + 1 ≤ arr.size by omega) (fun u hu => by rw [hcells] at hu; simp at hu; subst hu; exact hone)
  rw [hcells] at this
  exact this
 ·refine hs.frame2 (fun d hd => ?_) (fun _ h => h) (fun _ _ => rfl) (fun _ _ => rfl) (fun γ hγ => hheap γ fun e' => hatb.2.2 (e' ▸ hγ)) ?_ ?_ ?_ (fun γ hγ => by rw [hsz]; exact hs.S_lt γ hγ) hs.S_src (Kg hs.below hatb.1.2 _) (fun d hd => ?_)
  ·rw [hbx]; split
   ·rfl
   ·split
    ·rfl
    ·exact hd
  ·intro d kk hd
   rw [hbx] at hd
   split at hd
   ·rename_i e1; subst e1; cases hd
    refine .inr ⟨⟨by rw [yZ]; exact Aw hrow, .inr ⟨β, cap, arr', el, fun i0 j0 γ => if i0 = n ∧ j0 = 0 then G.has c γ else Rf i0 j0 γ, hβ, by rw [yZ]; exact h1, by show (Gt w β _).heap[β]? = _; rw [DS, if_pos ⟨rfl, hatb.2.1⟩], by rw [yZ]; exact h3, by show (FT _ _ _).size = _; rw [Gj, h4], ?_, ?_, ?_, ?_, ?_⟩⟩, fun c' hc' => by cases hc'⟩
    ·intro j0 row' hj
     rcases E9 hj with ⟨_, rfl⟩ | ⟨_, hj⟩
     ·rw [yZ]; exact hre
     ·exact h5 j0 row' hj
    ·intro i0 row' j0 t0 hi hj
     have hj0 : j0 < 1 := by
      have := Aw hj
      rcases E9 hi with ⟨_, rfl⟩ | ⟨_, hi⟩
      ·rw [yZ] at this; omega
      ·have := h5 i0 row' hi; omega
     rw [hover]
     by_cases hh : i0 = n ∧ j0 = 0
     ·obtain ⟨rfl, rfl⟩ := hh
      rw [if_pos rfl, hcol]
      have ht0 : t0 = .sl rows2 := by
       rcases E9 hi with ⟨_, rfl⟩ | ⟨hne, _⟩
       ·rcases E9 hj with ⟨_, rfl⟩ | ⟨hne, _⟩
        ·rfl
        ·exact (hne rfl).elim
       ·exact (hne rfl).elim
      subst ht0
      rw [hy1, if_pos (Nat.lt_succ_self _)]
      refine hX.mono (fun γ hγ => hheap γ ?_) (fun _ h => h) (fun γ hγ => by simp only [and_self, if_true]; exact hγ)
      rcases hγ with h | h
      ·exact fun e' => hatb.2.2 (e' ▸ h)
      ·exact hcβ γ h
     ·rw [if_neg (fun h => hh (hix2 i0 j0 hj0 h))]
      have hold : ∃ row0, rows[i0]? = some row0 ∧ row0[j0]? = some t0 := by
       rcases E9 hi with ⟨hii, rfl⟩ | ⟨_, hi⟩
       ·subst hii
        rcases E9 hj with ⟨hjj, _⟩ | ⟨_, hj⟩
        ·exact (hh ⟨rfl, hjj⟩).elim
        ·exact ⟨row, hrow, hj⟩
       ·exact ⟨row', hi, hj⟩
      obtain ⟨row0, q1, q2⟩ := hold
      have hne : i0 ≠ n := fun e' => hh ⟨e', by omega⟩
      have hif : (if i0 < n + 1 then cols.getD j0 .s else .s) = if i0 < n then cols.getD j0 .s else .s := by
       by_cases hl : i0 < n
       ·rw [if_pos hl, if_pos (by omega)]
       ·rw [if_neg hl, if_neg (by omega)]
      rw [hif]
      refine (h6 i0 row0 j0 t0 q1 q2).mono (fun γ hγ => hheap γ ?_) (fun _ h => h) (fun γ hγ => by simp only [if_neg hh]; exact hγ)
      rcases hγ with h | h
      ·exact fun e' => hatb.2.2 (e' ▸ h)
      ·exact fun e' => h8 i0 j0 (e' ▸ h)
    ·intro i0 j0 γ hγ
     simp only [G', if_true]
     split at hγ
     ·exact .inr hγ
     ·exact .inl (h7 i0 j0 γ hγ)
    ·intro i0 j0 hγ
     split at hγ
     ·exact hcβ β hγ rfl
     ·exact h8 i0 j0 hγ
    ·intro i0 j0 i1 j1 γ hγ hγ'
     have cross : ∀ i j, Rf i j γ → G.has c γ → False := fun i j hr hh => hcb (hs.at_inj c d _ _ γ hc hb C7 rfl hh (.inr (h7 i j γ hr)))
     split at hγ <;> split at hγ'
     ·rename_i q q'; exact ⟨q.1.trans q'.1.symm, q.2.trans q'.2.symm⟩
     ·exact (cross _ _ hγ' hγ).elim
     ·exact (cross _ _ hγ hγ').elim
     ·exact h9 i0 j0 i1 j1 γ hγ hγ'
   ·rename_i e1
    split at hd
    ·cases hd; exact .inr ⟨trivial, fun c' hc' => by cases hc'⟩
    ·rename_i e2'
     refine .inl ⟨hd, by simp only [G', if_neg e1], fun γ hr hγ => hheap γ fun e' => e1 (hs.at_inj d b kk _ γ hd hb hr rfl hγ (.inl (e' ▸ hβ)))⟩
  ·intro d kk γ hd hr hγ
   rw [hbx] at hd
   rw [hsz]
   split at hd
   ·rename_i e1; subst e1
    rcases hasB γ hγ with h | h
    ·exact hs.at_ok d _ γ hb rfl h
    ·have := hs.at_ok c _ γ hc C7 h
     exact ⟨.new (this.1.1 hcl), this.2⟩
   ·rename_i e1
    split at hd
    ·cases hd; cases hr
    ·exact hs.at_ok d kk γ hd hr ((hasO d γ e1).1 hγ)
  ·intro d d' kk kk' γ hd hd' hr hr' hγ hγ'
   rw [hbx] at hd hd'
   have cl : ∀ d kk, (if d = b then some (Br.pvec (n + 1) 1 cols (rows.set n (row.set 0 (.sl rows2)))) else if d = c then some .gone else st.bx d) = some kk → kk.real = true → G'.has d γ → (d = b ∧ (G.has b γ ∨ G.has c γ)) ∨ (d ≠ b ∧ d ≠ c ∧ st.bx d = some kk ∧ G.has d γ) := by
    intro d kk hd hr hγ
    split at hd
    ·rename_i e1; subst e1; exact .inl ⟨rfl, hasB γ hγ⟩
    ·rename_i e1
     split at hd
     ·cases hd; cases hr
     ·rename_i e2'; exact .inr ⟨e1, e2', hd, (hasO d γ e1).1 hγ⟩
   rcases cl d kk hd hr hγ with ⟨q1, q2⟩ | ⟨q1, q2, q3, q4⟩ <;> rcases cl d' kk' hd' hr' hγ' with ⟨q1', q2'⟩ | ⟨q1', q2', q3', q4'⟩
   ·rw [q1, q1']
   ·rcases q2 with h | h
    ·exact (q1' (hs.at_inj d' b _ _ γ q3' hb hr' rfl q4' h)).elim
    ·exact (q2' (hs.at_inj d' c _ _ γ q3' hc hr' C7 q4' h)).elim
   ·rcases q2' with h | h
    ·exact (q1 (hs.at_inj d b _ _ γ q3 hb hr rfl q4 h)).elim
    ·exact (q2 (hs.at_inj d c _ _ γ q3 hc hr C7 q4 h)).elim
   ·exact hs.at_inj d d' kk kk' γ q3 q3' hr hr' q4 q4'
  ·have e1 : d ≠ b := fun e' => by rw [e', hbl] at hd; cases hd
   refine ⟨rfl, rfl, ?_⟩
   simp only [G', if_neg e1]
end run
theorem aa {α : Type} {f : α → List T} {xs : List α} {b e len : Nat} {bs : List (Nat × Br)} {l l' : List D} (h : 0 + len ≤ xs.length) (hb : lent bs b = some (xs.map f)) (h2 : l.map (fun d => (d.lend bs).nrm) = l') :
  (D.e (.one (.view b e 0 len)) :: l).map (fun d => (d.lend bs).nrm) = .e (.one (.pure (.sl ((xs.take len).map f)))) :: l' := by
 rw [yH, h2, Vx h bs hb]; rfl
theorem ap {d : D} {bs : List (Nat × Br)} {l l' : List D} (h2 : l.map (fun d => (d.lend bs).nrm) = l') : (d :: l).map (fun d => (d.lend bs).nrm) = (d.lend bs).nrm :: l' := by
 rw [yH, h2]
end Go.Lift
namespace Go.Lift
open Go.RowKit
variable {P : Program} {X : Jp}
theorem Bd {α : Type} {c : Operand} {x y : Code} {Q : Exit → St → Prop} {st : St} {b : Bool} {e1 e2 : Option α} {v : α} (h : AR b e1 e2 = some v) (ht : e1 = some v → W P X x Q st) (hf : e2 = some v → W P X y Q st) (hc : opd st.env c = some (bD b) := by exact rfl) : W P X (.cond c x y) Q st :=
 bF hc (fun k => ht (bz k h)) (fun k => hf (aO k h))
theorem EU {ops : Array Oper} {dr : Bool} {Q : St → Prop} {r i : Nat} {st : St} {log : List (Nat × CO)} {α : Type} {b : Bool} {e1 e2 : Option α} {v : α} (t : Nat) (h : AR b e1 e2 = some v) (hx : st.env t = some (bD b)) (h1 : e1 = some v → A8 P X ops dr Q r i (St.put st (some t) (some (bD true))) log) (h2 : e2 = some v → A8 P X ops dr Q r i (St.put st (some t) (some (bD false))) log) : A8 P X ops dr Q r i st log :=
 ZI hx (fun k => h1 (bz k h)) (fun k => h2 (aO k h))
theorem sn {V R : Type} {J : V → Option R} {r : R} {S : V → St} {s : St} {v : V} {el : List (Nat × D)} {bl : List (Nat × Br)} (l : List (Nat × Nat)) (h : J v = some r) (e : S v = mk el bl := by exact rfl) (h1 : (dj s.env el, d7 (rn l) s.bx bl) = (cU (rn l) el, dZ (rn l) bl) := by exact rfl) (h2 : ((Js ((GA bl).map (rn l)) && OF (rn l) (GA bl)) && (RK (GA bl) el && Sn (GA bl) bl)) = true := by exact rfl) : ∃ v, J v = some r ∧ Gf P X s (S v) :=
 ⟨v, h, e ▸ sm l el bl h1 h2⟩
theorem fX {y : Code} {id : Nat} {ops : Array Oper} {dr : Bool} {Q : Exit → St → Prop} {st : St} {n : Nat} (hm : P.follows .mixedOrders = true) (hn : ops.size = n)
  (h : A8 P X ops dr (fun st' => W P X y Q st') n 0 st []) : W P X (.seq (.region id ops dr) y) Q st :=
 AP (Ak hm hn h)
theorem BB {G : Prop} {α β : Type} {xs : List α} {i : Int} {f : α → Option β} {r : β} (h : (Bh xs i).bind f = some r) (k : ∀ x, 0 ≤ i → xs[i.toNat]? = some x → f x = some r → G) : G := by
 obtain ⟨x, a, b, c⟩ := XM h
 exact k x a b c
theorem B1 {G : Prop} {α β : Type} {x : Option α} {f : α → Option β} {r : β} (h : x.bind f = some r) (k : ∀ a, x = some a → f a = some r → G) : G := by
 obtain ⟨a, b, c⟩ := bind_some h
 exact k a b c
theorem F2 {G : Prop} {β : Type} {p : Prop} [Decidable p] {f : Unit → Option β} {r : β} (h : (Dt p).bind f = some r) (k : p → f () = some r → G) : G := k (Fg h).1 (Fg h).2
section
variable {ops : Array Oper} {dr : Bool} {Q : St → Prop} {r i : Nat} {st : St} {log : List (Nat × CO)} {gs : List (Operand × D)}
theorem qe {x : Operand} {d : D} {s : Nat} (h : (hd st.env ops i X.n, opd st.env x) = (some (.assign x, s, gs), some d)) (k : Q (CO.upd ⟨gs ++ [(x, d)], [], some s, some d, [], []⟩ st)) : A8 P X ops false Q (0 + 1) i st log :=
 qa h (Ad k)
def Ys (n : Nat) (ops : Array Oper) (i : Nat) (st : St) : Option CO :=
 match (match cJ ops i n with
  | some (_, s, t, want) => (match st.env t with
   | some (.e (.one (.pure (.val (.bool b))))) => (match b, want with
    | true, false => some (s, t, want)
    | false, true => some (s, t, want)
    | _, _ => none)
   | _ => none)
  | none => none) with
 | some (s, t, want) => some ⟨[(.tmp t, bD (!want))], [], some s, some uD, [], []⟩
 | none => match hd st.env ops i n with
  | some (.move x, s, gs) => (opd st.env x).map fun d => ⟨gs ++ [(x, d)], [], some s, some d, [], []⟩
  | _ => none
def cE (n : Nat) (ops : Array Oper) : Nat → Nat → St → List (Nat × CO) → Option (St × List (Nat × CO))
 | 0, _, st, log => some (st, log)
 | k + 1, i, st, log => match Ys n ops i st with
  | none => none
  | some l => cE n ops k (i + 1) (CO.upd l st) ((i, l) :: log)
theorem Yp {l : CO} (h : Ys X.n ops i st = some l) (next : Nx P X ops dr Q r i st log l) : A8 P X ops dr Q (r + 1) i st log := by
 unfold Ys at h
 split at h
 ·rename_i s t want hh
  split at hh
  ·rename_i j s' t' want' ha
   split at hh
   ·rename_i b hb
    split at hh
    ·cases hh; cases h; exact qn (want := false) (by rw [ha, hb]; rfl) next
    ·cases hh; cases h; exact qn (want := true) (by rw [ha, hb]; rfl) next
    ·cases hh
   ·cases hh
  ·cases hh
 ·split at h
  ·rename_i x s gs' hh
   cases hd' : opd st.env x with
   | none => rw [hd'] at h; cases h
   | some d =>
    rw [hd'] at h
    cases h
    exact qm (by rw [hh, hd']) next
  ·cases h
theorem qw (k : Nat) {st' : St} {log' : List (Nat × CO)} (h : cE X.n ops k i st log = some (st', log')) (next : A8 P X ops dr Q r (i + k) st' log') : A8 P X ops dr Q (r + k) i st log := by
 induction k generalizing i st log with
 | zero => cases h; exact next
 | succ k ih =>
  rw [cE] at h
  split at h
  ·cases h
  ·rename_i l hl
   exact Yp hl (ih h (by rwa [x9, Nat.add_comm 1]))
end
theorem cw {f n : Nat} {fn : Func} {c : Code} {args : List D} {rv : List (Nat × List (List T))} {res : D} {rs : List ResultVar} (hf : P.funcs[f]? = some fn)
  (h : ∀ (w0 : World) (S0 : Nat → Prop), W P ⟨w0, S0, n, G0 S0⟩ c (fun e st => match e with | .normal | .ret => Ye P rs st rv res | _ => False) (cH args))
  (hb : fn.body = some c := by exact rfl) (hn : fn.ntmps = n := by exact rfl) (hrs : fn.results.toList = rs := by exact rfl) (hl : args.length ≤ n := by exact Hy rfl) (hn9 : n ≤ 90000 := by exact Hy rfl) (hpub : args.all Wg = true := by exact rfl) : Ar P f args rv res :=
 Q9 hf hb hn hrs hl hn9 hpub h
theorem tm {st : St} {t : Nat} {x : E} (h : st.env t = some (.e x) := by exact rfl) : dR P st [.tmp t] [x] := ⟨.tmp _ _ h, trivial⟩
end Go.Lift
namespace Go.Lift
open List renaming mem_of_getElem? → lM
open List renaming getD_eq_getElem?_getD → lD
open Go.RowKit Go.Shelf
theorem XW {w w' : World} (h : Yz w.heap.size w w') : ∃ q os, w' = Go.Sort.grow (w.drewN q) os := by
 refine ⟨w'.drawn - w.drawn, w'.heap.extract w.heap.size w'.heap.size, ?_⟩
 have hh : w'.heap = w.heap ++ w'.heap.extract w.heap.size w'.heap.size := by
  apply Array.ext_getElem?
  intro k
  rw [uV]
  split
  ·rename_i hk; exact h.block k hk
  ·rename_i hk
   rw [Array.getElem?_extract]
   have := h.size
   split
   ·congr 1; omega
   ·rw [y5]; omega
 have hd := h.drawn
 have ht := h.tape
 have ho := h.os
 have hu := h.output
 obtain ⟨hp', tp', dr', os', ou'⟩ := w'
 obtain ⟨hp, tp, dr, os, ou⟩ := w
 simp only at hh hd ht ho hu
 subst ht; subst ho; subst hu
 simp only [Go.Sort.grow, World.drewN, World.mk.injEq, and_true, true_and]
 exact ⟨hh, by omega⟩
def U8 {α : Type} (c : α → α → Int) (x y : α) : Prop := c x y < 0 ∧ 0 < c y x
structure Oq {α : Type} (c : α → α → Int) (M : α → Prop) : Prop where
 self : ∀ x, M x → c x x = 0
 tri : ∀ x y, M x → M y → x = y ∨ U8 c x y ∨ U8 c y x
 trans : ∀ x y z, M x → M y → M z → U8 c x y → U8 c y z → U8 c x z
namespace Oq
variable {α : Type} {c : α → α → Int} {M : α → Prop}
theorem lt (O : Oq c M) {x y : α} (hx : M x) (hy : M y) : c x y < 0 ↔ U8 c x y := by
 refine ⟨fun h => ?_, fun h => h.1⟩
 rcases O.tri x y hx hy with e | e | e
 ·subst e; have := O.self x hx; omega
 ·exact e
 ·have := e.2; omega
theorem asym {x y : α} (h : U8 c x y) (k : U8 c y x) : False := by have := h.1; have := k.2; omega
theorem eq (O : Oq c M) {x y : α} (hx : M x) (hy : M y) (h : ¬ c x y < 0) (k : ¬ c y x < 0) : x = y := by
 rcases O.tri x y hx hy with e | e | e
 ·exact e
 ·exact absurd e.1 h
 ·exact absurd e.1 k
theorem ntrans (O : Oq c M) {x y z : α} (hx : M x) (hy : M y) (hz : M z) (h : ¬ c x y < 0) (k : ¬ c y z < 0) : ¬ c x z < 0 := by
 rw [O.lt hx hy] at h; rw [O.lt hy hz] at k; rw [O.lt hx hz]
 intro q
 have h' : x = y ∨ U8 c y x := by rcases O.tri x y hx hy with e | e | e; exact .inl e; exact absurd e h; exact .inr e
 have k' : y = z ∨ U8 c z y := by rcases O.tri y z hy hz with e | e | e; exact .inl e; exact absurd e k; exact .inr e
 rcases h' with e | e
 ·subst e; exact k q
 ·rcases k' with f | f
  ·subst f; exact asym q e
  ·exact asym q (O.trans z y x hz hy hx f e)
end Oq
theorem WP {α : Type} {c : α → α → Int} : ∀ (a b : List α), (∀ x y, x ∈ a → y ∈ a → ¬ c x y < 0 → ¬ c y x < 0 → x = y) → a.Perm b → a.Pairwise (fun x y => ¬ c y x < 0) → b.Pairwise (fun x y => ¬ c y x < 0) → a = b
 | [], b, _, h, _, _ => (List.nil_perm.1 h).symm
 | x :: xs, [], _, h, _, _ => by cases List.perm_nil.1 h
 | x :: xs, y :: ys, hE, h, ha, hb => by
  obtain ⟨a1, a2⟩ := xB.1 ha
  obtain ⟨b1, b2⟩ := xB.1 hb
  have exy : x = y := by
   rcases zO.1 (h.mem_iff.1 (vX : x ∈ x :: xs)) with e | e
   ·exact e
   rcases zO.1 (h.mem_iff.2 (vX : y ∈ y :: ys)) with f | f
   ·exact f.symm
   exact hE x y (by simp) (by simp [f]) (b1 x e) (a1 y f)
  subst exy
  rw [WP xs ys (fun u v hu hv => hE u v (by simp [hu]) (by simp [hv])) (List.perm_cons x |>.1 h) a2 b2]
section
variable {P : Program} {ρ : Ren} {α : Type}
theorem J4 {β' : Type} [Inhabited β'] (enc : β' → List Value) (k : Nat) (w : World) (β m : Nat) (d : Array β') (os : Array Obj) {γ : Nat} (h : γ < w.heap.size) (hne : γ ≠ β) : (Go.Proofs.sortWorldK enc k w β 0 m d os).heap[γ]? = w.heap[γ]? := by
 unfold Go.Proofs.sortWorldK Go.Sort.grow Go.Sort.putRowK Go.Sort.putRow Go.Sort.mapBlock Go.Sort.ahead
 simp only
 rw [uV, if_pos (by simpa using h), Array.getElem?_modify, if_neg (Ne.symm hne)]
theorem TX {β' : Type} [Inhabited β'] (enc : β' → List Value) (k : Nat) (w : World) (β m : Nat) (d : Array β') (os : Array Obj) {arr : Array Value} {el : TypeId} {fz : Nat × Nat} (h : w.heap[β]? = some (.cells arr el fz)) : (Go.Proofs.sortWorldK enc k w β 0 m d os).heap[β]? = some (.cells (Go.Sort.putCells id 0 (Go.Sort.flatK enc k d) arr) el fz) := by
 unfold Go.Proofs.sortWorldK Go.Sort.grow Go.Sort.putRowK Go.Sort.putRow Go.Sort.mapBlock Go.Sort.ahead
 simp only
 have hlt : β < w.heap.size := (Array.getElem?_eq_some_iff.1 h).1
 rw [uV, if_pos (by simpa using hlt), Array.getElem?_modify, if_pos rfl, h]
 rfl
theorem Qq {β' : Type} [Inhabited β'] (enc : β' → List Value) (k : Nat) (w : World) (β m : Nat) (d : Array β') (os : Array Obj) : w.heap.size ≤ (Go.Proofs.sortWorldK enc k w β 0 m d os).heap.size := by
 unfold Go.Proofs.sortWorldK Go.Sort.grow Go.Sort.putRowK Go.Sort.putRow Go.Sort.mapBlock Go.Sort.ahead
 simp
theorem VD (L : Go.Proofs.SlLaysF0.n6 P ρ) (k : Nat) (aE : ∀ w, (isAgg (ρ.t 24)).run P w = .ok true w) (zE : ∀ w, (Go.sizeOf (ρ.t 24)).run P w = .ok k w) {e : α → List T} {g : List (Bool × List T) → Option T} {c : α → α → Int} {xs ys : List α}
  (hg : ∀ x y, x ∈ xs → y ∈ xs → g [(true, e x), (true, e y)] = some (.val (.int .i64 (c x y)))) (O : Oq c (· ∈ xs)) (hp : ys.Perm xs) (hs : ys.Pairwise fun x y => ¬ c y x < 0) (hl : xs.length < 4611686018427387904) :
  DV P (ρ.f 6) [.e (.one (.own 90000)), .e (.one (.clo g))] [(.vec k (xs.map e), .vec k (ys.map e))] [] (.tup []) := by
 intro w G vs hS hgk hlb hla hli hlen hrd
 have hb := hlb 0 _ rfl
 have h0 : Fu P w G (As vs 0) (.own 90000) := hrd 0 _ rfl
 obtain ⟨f, caps, hv, ⟨fn, hf1, hf2, hf3⟩, hcall⟩ : MW P w G.S (As vs 1) g := hrd 1 _ rfl
 have hvs : vs = #[As vs 0, As vs 1] := by
  have h2 : vs.size = 2 := hlen
  apply Array.ext (by simp [h2])
  intro i h1 _
  match i, h1 with
  | 0, h1 => simp [As, h1]
  | 1, h1 => simp [As, h1]
  | i + 2, h1 => omega
 have hys : ys.length = xs.length := hp.length_eq
 rw [hvs, h0.1, hv]
 by_cases hx0 : xs = []
 ·subst hx0
  have hy : ys = [] := List.perm_nil.1 hp
  subst hy
  obtain ⟨p, cap, hh⟩ : ∃ p cap, G.hd 90000 = .slice p 0 cap := by
   rcases hb with ⟨a, b1, _, _⟩ | ⟨β, cap, arr, el, _, b1, _⟩
   ·exact ⟨_, _, b1⟩
   ·exact ⟨_, _, b1⟩
  rw [hh]
  refine (Go.Proofs.AnyF.slices_SortFunc_none L p cap _ w).mono ?_
  rintro e' w' ⟨rfl, rfl⟩
  refine ⟨_, G, rfl, DW.refl _ _ _, fun _ h => h, fun _ h => .inl h, ⟨#[], rfl, rfl, fun j x hj => by simp at hj⟩, fun i x hi => ?_, fun i x hi => by simp at hi, fun _ _ => ⟨rfl, rfl, rfl⟩, fun i β hi h => (hla i β hi h).2, fun i β hi => by simp at hi, fun i l β hi => by simp at hi⟩
  match i, hi with
  | 0, hi => cases hi; exact hb
  | i + 1, hi => simp at hi
 ·rcases hb with ⟨a, b1, b2, b3⟩ | ⟨β, cap, arr, el, b0, b1, b2, b3, b4, b5, b6⟩
  ·exact absurd (uY.1 b2) hx0
  ·have hβ : β < w.heap.size ∧ ¬ G.S β := hla 0 β (by simp) (.inl b0)
   have hek : ∀ x, x ∈ xs → (e x).length = k := fun x hx => by
    obtain ⟨i, hi, rfl⟩ := List.mem_iff_getElem.1 hx
    exact b5 i _ (by simp [hi])
   -- the elements with their cells
   let A := { p : List Value × α // p.2 ∈ xs ∧ p.1.length = k ∧ ∀ (j : Nat) (t : T), (e p.2)[j]? = some t → DQ w G.S (p.1.getD j undef) t }
   let at' : Fin xs.length → A := fun i => ⟨((zS k).map fun j => As arr (i.1 * k + j), xs[i.1]), xF i.2, by simp, fun j t hj => by
    have hjk : j < k := by rw [← hek xs[i.1] (xF i.2)]; exact Aw hj
    have := b6 i.1 (e xs[i.1]) j t (by simp) hj
    simpa [hjk] using this⟩
   have hpos : 0 < xs.length := List.length_pos_iff.2 hx0
   letI : Inhabited A := ⟨at' ⟨0, hpos⟩⟩
   let d : Array A := Array.ofFn at'
   have hds : d.size = xs.length := by simp [d]
   have hdg : ∀ i (h : i < xs.length), d[i]! = at' ⟨i, h⟩ := fun i h => by rw [getElem!_pos d i (by omega)]; simp [d]
   have hdl : d.toList.map (fun x => x.1.2) = xs := by
    apply List.ext_getElem
    ·simp [hds]
    ·intro i h1 h2
     simp [d, at']
   let enc : A → List Value := fun x => x.1.1
   have hk : ∀ x : A, (enc x).length = k := fun x => x.2.2.1
   have h1c : ∀ x : A, ∀ v ∈ enc x, v.oneCell' = true := by
    intro x v hv
    obtain ⟨j, hj, rfl⟩ := List.mem_iff_getElem.1 hv
    have hje : j < (e x.1.2).length := by rw [hek _ x.2.1, ← hk x]; exact hj
    have := (x.2.2.2 j _ (yD hje)).one
    rw [lD, yD hj] at this
    revert this
    show HI (enc x)[j] = true → _
    generalize (enc x)[j] = q
    intro h
    cases q <;> first | rfl | cases h
   let cf : A → A → Int := fun x y => c x.1.2 y.1.2
   have hlt : ∀ x y : A, Go.Proofs.ltOf cf x y = decide (c x.1.2 y.1.2 < 0) := fun _ _ => rfl
   have hO : Go.Sort.SWO (Go.Proofs.ltOf cf) := by
    refine ⟨fun x => ?_, fun x y z => ?_, fun x y z => ?_⟩
    ·rw [hlt, O.self _ x.2.1]; rfl
    ·rw [hlt, hlt, hlt]; intro h1 h2
     have h1 := (O.lt x.2.1 y.2.1).1 (of_decide_eq_true h1)
     have h2 := (O.lt y.2.1 z.2.1).1 (of_decide_eq_true h2)
     exact decide_eq_true (O.trans _ _ _ x.2.1 y.2.1 z.2.1 h1 h2).1
    ·rw [hlt, hlt, hlt]; intro h1 h2
     exact decide_eq_false (O.ntrans x.2.1 y.2.1 z.2.1 (of_decide_eq_false h1) (of_decide_eq_false h2))
   have eg : ∀ args w, (callFunc f args).run P w = .ok (.enter f args) w := Lw (by unfold AH; rw [hf1]; simp [hf2]; simpa using hf3)
   have hcmp : Go.Proofs.CmpLays P f caps enc k cf β 0 d.size w := by
    intro m os dk hdk x y
    refine (hcall _ G.S (fun _ h => h) (fun γ hγ => J4 enc k w β m dk os (hS γ hγ) (fun q => hβ.2 (q ▸ hγ))) (fun γ hγ => Nat.lt_of_lt_of_le (hS γ hγ) (Qq enc k w β m dk os)) (hgk.mono (fun γ hγ => J4 enc k w β m dk os (hS γ hγ) (fun q => hβ.2 (q ▸ hγ))) (fun _ h => h)) #[.agg (enc x).toArray, .agg (enc y).toArray] [(true, e x.1.2), (true, e y.1.2)] _ rfl ?_ (hg _ _ x.2.1 y.2.1)).mono ?_
    ·have one : ∀ z : A, ct (Go.Proofs.sortWorldK enc k w β 0 m dk os) G.S (.agg (enc z).toArray) (true, e z.1.2) := fun z => by
      refine ⟨_, rfl, by simp [hk, hek _ z.2.1], fun j t hj => ?_⟩
      have := z.2.2.2 j t hj
      have e1 : As (enc z).toArray j = z.1.1.getD j undef := by simp [As, enc, lD]
      rw [e1]
      exact this.mono (fun γ hγ => J4 enc k w β m dk os (hS γ hγ) (fun q => hβ.2 (q ▸ hγ))) (fun _ h => h)
     intro j q hq
     match j, hq with
     | 0, hq => cases hq; exact one x
     | 1, hq => cases hq; exact one y
     | j + 2, hq => simp at hq
    ·rintro e' w'' ⟨v', S'', rfl, hbel, _, _, hr⟩
     cases hr
     exact ⟨rfl, XW hbel⟩
   have hH : Go.Sort.HoldsK enc k w β 0 d := by
    intro j hj
    have hj' : j < xs.length * k := by simpa [hds] using hj
    have hk0 : 0 < k := Nat.pos_of_ne_zero fun h => by rw [h] at hj'; simp at hj'
    have hi : j / k < xs.length := Nat.div_lt_of_lt_mul (by rwa [Nat.mul_comm] at hj')
    have hm : j % k < k := Nat.mod_lt _ hk0
    have hsz : j < arr.size := by
     have h3 : (xs.map e).length ≤ cap := b3
     rw [zI] at h3
     have := zB k h3
     omega
    have hval : (Go.Sort.flatK enc k d)[j]! = As arr j := by
     rw [Go.Sort.get_flatK enc k d j (by rw [hds]; exact hj'), hdg _ hi]
     simp only [enc, at']
     rw [getElem!_pos _ _ (by simp [hm])]
     simp only [List.getElem_map, List.getElem_range]
     rw [Nat.div_add_mod']
    rw [hval, zC]
    refine ⟨by simp [World.cell?, b2, Jh hsz], by simp [World.frozen?, b2]⟩
   have hhd : G.hd 90000 = .slice (some ⟨β, 0, none⟩) d.size cap := by rw [b1, hds, zI]
   rw [hhd]
   refine (Go.Proofs.AnyQ.slices_SortFunc L k aE zE enc hk h1c cf hO f caps β 0 cap d w eg hcmp hH hβ.1 (by rw [hds]; exact hl)).mono ?_
   rintro e' w' ⟨rfl, d', n, os, hpm, hsd, rfl⟩
   have hds' : d'.size = d.size := hpm.1
   have hpl : d'.toList.Perm d.toList := by
    have h := hpm.2.2
    have e1 : (d'.extract 0 d.size).toList = d'.toList := by rw [← hds']; simp
    have e2 : (d.extract 0 d.size).toList = d.toList := by simp
    rwa [e1, e2] at h
   have hlist : d'.toList.map (fun x => x.1.2) = ys := by
    refine WP (c := c) _ _ (fun x y hx hy h1 h2 => ?_) (((hpl.map _).trans (by rw [hdl])).trans hp.symm) ?_ hs
    ·obtain ⟨a, _, rfl⟩ := zQ.1 hx
     obtain ⟨b, _, rfl⟩ := zQ.1 hy
     exact O.eq a.2.1 b.2.1 h1 h2
    ·rw [vZ, x8]
     intro i j hi hj hij
     have := hsd i j (zL _) hij (by rw [← hds']; simpa using hj)
     rw [getElem!_pos d' i (by simpa using hi), getElem!_pos d' j (by simpa using hj), hlt] at this
     simpa using of_decide_eq_false this
   have hat : (Go.Proofs.sortWorldK enc k w β 0 n d' os).heap[β]? = some (.cells (Go.Sort.putCells id 0 (Go.Sort.flatK enc k d') arr) el (0, 0)) := TX enc k w β n d' os b2
   have hlen' : d'.size = ys.length := by rw [hds', hds, hys]
   refine ⟨_, G, rfl, ⟨rfl, rfl, rfl, Qq enc k w β n d' os, by show w.drawn ≤ w.drawn + n; omega, fun γ hγ hL => J4 enc k w β n d' os hγ fun q => hL ⟨0, by simp, .inl (q ▸ b0)⟩⟩, fun _ h => h, fun _ h => .inl h, ⟨#[], rfl, rfl, fun j x hj => by simp at hj⟩, fun i x hi => ?_, fun i x hi => by simp at hi, fun _ _ => ⟨rfl, rfl, rfl⟩, fun i γ hi h => (hla i γ hi h).2, fun i γ hi => by simp at hi, fun i l γ hi => by simp at hi⟩
   match i, hi with
   | i + 1, hi => simp at hi
   | 0, hi =>
    cases hi
    refine .inr ⟨β, cap, _, el, b0, by rw [hhd, hds, zI, hys], hat, by rw [zI, hys]; simpa using b3, by simpa [Go.Sort.putCells] using b4, ?_, ?_⟩
    ·intro i row hi
     obtain ⟨x, hx, rfl⟩ : ∃ x, x ∈ ys ∧ e x = row := by
      rw [zF] at hi
      cases hq : ys[i]? with
      | none => rw [hq] at hi; cases hi
      | some x => rw [hq] at hi; cases hi; exact ⟨x, lM hq, rfl⟩
     exact hek x (hp.mem_iff.1 hx)
    ·intro i row j t hi hj
     rw [zF] at hi
     cases hq : ys[i]? with
     | none => rw [hq] at hi; cases hi
     | some x =>
      rw [hq] at hi; cases hi
      have hil : i < d'.size := by rw [hlen']; exact Aw hq
      have hxm : x ∈ xs := hp.mem_iff.1 (lM hq)
      have hjk : j < k := by rw [← hek x hxm]; exact Aw hj
      have hx : (d'[i]!).1.2 = x := by
       rw [← hlist, zF] at hq
       rw [getElem!_pos d' i hil]
       rw [show d'.toList[i]? = some d'[i] from by simp [hil]] at hq
       simpa using hq
      have hr := (d'[i]!).2.2.2 j t (by rw [hx]; exact hj)
      have hij : i * k + j < d'.size * k := by
       have := zB k (show i + 1 ≤ d'.size from hil)
       rw [yO, Nat.one_mul] at this; omega
      have hasz : i * k + j < arr.size := by
       have h3 : (xs.map e).length ≤ cap := b3
       rw [zI] at h3
       have h4 := zB k h3
       rw [hlen', hys] at hij
       omega
      have d1 : (i * k + j) / k = i := (Go.Sort.blk_iff k i _ (by omega)).1 ⟨by omega, by omega⟩
      have d2 : (i * k + j) % k = j := by rw [Nat.mod_eq_sub_div_mul, d1]; omega
      have hcell : As (Go.Sort.putCells id 0 (Go.Sort.flatK enc k d') arr) (i * k + j) = (d'[i]!).1.1.getD j undef := by
       unfold As Go.Sort.putCells
       rw [Array.getElem?_mapIdx, show arr[i * k + j]? = some (As arr (i * k + j)) from Jh hasz]
       simp only [yC, yL, zL, true_and, zC, Nat.sub_zero, Go.Sort.size_flatK]
       rw [if_pos hij]
       simp only [id]
       rw [Go.Sort.get_flatK enc k d' _ hij, d1, d2, lD, getElem!_pos _ _ (by rw [hk]; exact hjk), yD (by rw [show (d'[i]!).1.1.length = k from hk _]; exact hjk)]
       rfl
      rw [hcell]
      exact hr.mono (fun γ hγ => J4 enc k w β n d' os (hS γ hγ) (fun q => hβ.2 (q ▸ hγ))) (fun _ h => h)
end
end Go.Lift
namespace Go.Lift
open Go.RowKit Go.Shelf
section
variable {α : Type}
def Vi (cmp : α × α → Option Int) (x : α) : List α → List α
 | [] => [x]
 | y :: ys => match cmp (x, y) with
  | some a => if a ≤ 0 then x :: y :: ys else y :: Vi cmp x ys
  | none => x :: y :: ys
def Vy (cmp : α × α → Option Int) (xs : List α) : List α := xs.foldr (Vi cmp) []
def Wf (cmp : α × α → Option Int) (bq : α → α → Bool) (y z : α) : Bool := match cmp (y, z), cmp (z, y) with
 | some a, some b => (decide (a < 0) && decide (0 < b)) || (bq y z && decide (a = 0) && decide (b = 0))
 | _, _ => false
def cR (cmp : α × α → Option Int) (bq : α → α → Bool) : List α → Bool
 | [] => true
 | y :: ys => (match cmp (y, y) with | some a => decide (a = 0) | none => false) && ys.all (Wf cmp bq y) && cR cmp bq ys
def RH (cmp : α × α → Option Int) (bq : α → α → Bool) (xs : List α) : Option (List α) :=
 if cR cmp bq (Vy cmp xs) && decide (xs.length < 4611686018427387904) then some (Vy cmp xs) else none
theorem O4 (cmp : α × α → Option Int) (x : α) : ∀ l : List α, (Vi cmp x l).Perm (x :: l)
 | [] => List.Perm.refl _
 | y :: ys => by
  unfold Vi
  split
  ·split
   ·exact List.Perm.refl _
   ·exact ((O4 cmp x ys).cons y).trans (List.Perm.swap x y ys)
  ·exact List.Perm.refl _
theorem Mr (cmp : α × α → Option Int) : ∀ l : List α, (Vy cmp l).Perm l
 | [] => List.Perm.refl _
 | x :: l => (O4 cmp x (Vy cmp l)).trans ((Mr cmp l).cons x)
theorem X0 {cmp : α × α → Option Int} {bq : α → α → Bool} (hq : ∀ x y, bq x y = true → x = y) {y z : α} (h : Wf cmp bq y z = true) :
  ∃ a b, cmp (y, z) = some a ∧ cmp (z, y) = some b ∧ (U8 (fun x y => (cmp (x, y)).getD 0) y z ∨ y = z) := by
 unfold Wf at h
 split at h
 ·rename_i a b e1 e2
  refine ⟨a, b, e1, e2, ?_⟩
  rw [xO] at h
  rcases h with h | h
  ·rw [zH] at h
   exact .inl ⟨by show (cmp (y, z)).getD 0 < 0; rw [e1]; exact of_decide_eq_true h.1, by show 0 < (cmp (z, y)).getD 0; rw [e2]; exact of_decide_eq_true h.2⟩
  ·rw [zH, zH] at h
   exact .inr (hq _ _ h.1.1)
 ·cases h
theorem Wy {cmp : α × α → Option Int} {bq : α → α → Bool} (hq : ∀ x y, bq x y = true → x = y) : ∀ {l : List α}, cR cmp bq l = true →
  (∀ x y, x ∈ l → y ∈ l → cmp (x, y) = some ((cmp (x, y)).getD 0)) ∧ Oq (fun x y => (cmp (x, y)).getD 0) (· ∈ l) ∧ l.Pairwise (fun x y => ¬ (cmp (y, x)).getD 0 < 0)
 | [], _ => ⟨fun x y h => by simp at h, ⟨fun x h => by simp at h, fun x y h => by simp at h, fun x y z h => by simp at h⟩, List.Pairwise.nil⟩
 | y0 :: ys, h => by
  unfold cR at h
  rw [zH, zH, zG] at h
  obtain ⟨⟨h0, h1⟩, h2⟩ := h
  obtain ⟨i1, i2, i3⟩ := Wy hq h2
  have hs : cmp (y0, y0) = some 0 := by
   split at h0
   ·rename_i a e; rw [e, of_decide_eq_true h0]
   ·cases h0
  have hp := fun z hz => X0 hq (h1 z hz)
  have self : ∀ x, x ∈ y0 :: ys → (cmp (x, x)).getD 0 = 0 := fun x hx => by
   rcases zO.1 hx with e | e
   ·subst e; rw [hs]; rfl
   ·exact i2.self x e
  have asy : ∀ x z, U8 (fun x y => (cmp (x, y)).getD 0) x z → U8 (fun x y => (cmp (x, y)).getD 0) z x → False := fun x z a b => Oq.asym a b
  have first : ∀ z, z ∈ y0 :: ys → y0 = z ∨ U8 (fun x y => (cmp (x, y)).getD 0) y0 z := fun z hz => by
   rcases zO.1 hz with e | e
   ·exact .inl e.symm
   ·obtain ⟨a, b, _, _, g⟩ := hp z e; exact g.symm
  refine ⟨fun x y hx hy => ?_, ⟨self, fun x y hx hy => ?_, fun x y z hx hy hz a b => ?_⟩, xB.2 ⟨fun z hz => ?_, i3⟩⟩
  ·rcases zO.1 hx with e | e
   ·subst e
    rcases zO.1 hy with f | f
    ·subst f; rw [hs]; rfl
    ·obtain ⟨a, b, g, _⟩ := hp y f; rw [g]; rfl
   ·rcases zO.1 hy with f | f
    ·subst f; obtain ⟨a, b, _, g, _⟩ := hp x e; rw [g]; rfl
    ·exact i1 x y e f
  ·rcases zO.1 hx with e | e
   ·subst e; rcases first y hy with f | f
    ·exact .inl f
    ·exact .inr (.inl f)
   ·rcases zO.1 hy with f | f
    ·subst f; rcases first x hx with g | g
     ·exact .inl g.symm
     ·exact .inr (.inr g)
    ·exact i2.tri x y e f
  ·have nofirst : ∀ u, u ∈ y0 :: ys → U8 (fun x y => (cmp (x, y)).getD 0) u y0 → False := fun u hu a => by
    rcases first u hu with f | f
    ·subst f; exact asy _ _ a a
    ·exact asy _ _ a f
   rcases zO.1 hy with f | f
   ·subst f; exact (nofirst x hx a).elim
   rcases zO.1 hz with g | g
   ·subst g; exact (nofirst y hy b).elim
   rcases zO.1 hx with e | e
   ·subst e
    rcases first z hz with q | q
    ·subst q; exact (asy _ _ a b).elim
    ·exact q
   ·exact i2.trans x y z e f g a b
  ·rcases first z (xR _ hz) with f | f
   ·subst f; rw [hs]; simp
   ·have := f.2; simp only at this; omega
theorem Y9 {cmp : α × α → Option Int} {bq : α → α → Bool} (hq : ∀ x y, bq x y = true → x = y) {xs ys : List α} (h : RH cmp bq xs = some ys) :
  (∀ x y, x ∈ xs → y ∈ xs → cmp (x, y) = some ((cmp (x, y)).getD 0)) ∧ Oq (fun x y => (cmp (x, y)).getD 0) (· ∈ xs) ∧ ys.Perm xs ∧ ys.Pairwise (fun x y => ¬ (cmp (y, x)).getD 0 < 0) ∧ xs.length < 4611686018427387904 := by
 unfold RH at h
 split at h
 ·rename_i hc
  rw [zH] at hc
  cases h
  have hp := Mr cmp xs
  obtain ⟨h1, h2, h3⟩ := Wy hq hc.1
  have hm : ∀ x, x ∈ xs → x ∈ Vy cmp xs := fun x hx => hp.mem_iff.2 hx
  exact ⟨fun x y hx hy => h1 x y (hm x hx) (hm y hy), ⟨fun x hx => h2.self x (hm x hx), fun x y hx hy => h2.tri x y (hm x hx) (hm y hy), fun x y z hx hy hz => h2.trans x y z (hm x hx) (hm y hy) (hm z hz)⟩, hp, h3, of_decide_eq_true hc.2⟩
 ·cases h
theorem Zp {P : Program} {ρ : Ren} (L : Go.Proofs.SlLaysF0.n6 P ρ) (k : Nat) (aE : ∀ w, (isAgg (ρ.t 24)).run P w = .ok true w) (zE : ∀ w, (Go.sizeOf (ρ.t 24)).run P w = .ok k w) {e : α → List T} (he : XF e) {bq : α → α → Bool} (hq : ∀ x y, bq x y = true → x = y) {cmp : α × α → Option Int} {xs ys : List α} (h : RH cmp bq xs = some ys) :
  DV P (ρ.f 6) [.e (.one (.own 90000)), .e (.one (.clo (JV (cS true e true e) (fun n => .val (.int .i64 n)) cmp)))] [(.vec k (xs.map e), .vec k (ys.map e))] [] (.tup []) := by
 obtain ⟨h1, h2, h3, h4, h5⟩ := Y9 hq h
 refine VD L k aE zE (c := fun x y => (cmp (x, y)).getD 0) (fun x y hx hy => ?_) h2 h3 h4 h5
 exact MB (ea := cS true e true e) (er := fun n => T.val (.int .i64 n)) (ZK true e true e he he) (x := (x, y)) (h1 x y hx hy)
end
end Go.Lift
namespace Go.Lift
open Go.RowKit Go.ChangeShapes Go.WideShapes
variable {P : Program} {X : Jp} {ops : Array Oper}
theorem LR.sees {i : Nat} {l l' : CO} (h : LR P X ops i l) (hp : ∀ st, l'.pre st → l.pre st) (hs : ∀ st, l'.pre st → Gf P X (l.upd st) (l'.upd st)) : LR P X ops i l' :=
 fun st a w K Q hsim hpre hK => h st a w K Q hsim (hp st hpre) fun a' w' h' => hK a' w' (hs st hpre a' w' h')
theorem XZ {env : Nat → Option D} {bx : Nat → Option Br} {s b e : Nat} {rows rows2 : List (List T)} {d : D} (hb : bx b = some (.vec e rows)) (hl : ∀ G st a w, Dx P X G st a w → Bf b = false)
  (hrd : ∀ (w : World) (G : Gh) (v : Value) (S' : Nat → Prop), HP P w G v d → (∀ β, G.S β → S' β) → DQ w S' (G.hd b) (.sl rows) → (∀ a n cap, G.hd b = .slice a n cap → n = rows.length) → DQ w S' v (.sl rows2)) :
  Gf P X (St.put ⟨env, bx⟩ (some s) (some d)) (St.put ⟨env, fun c => if c = b then some .gone else bx c⟩ (some s) (some (.e (.one (.pure (.sl rows2)))))) := by
 rintro a w ⟨G, h⟩
 have hlt := hl _ _ _ _ h
 let S' : Nat → Prop := fun β => G.S β ∨ G.loc b = some β
 have hS : ∀ β, G.S β → S' β := fun β h => .inl h
 have hb' : (St.put ⟨env, bx⟩ (some s) (some d)).bx b = some (.vec e rows) := hb
 have hrow : DQ w S' (G.hd b) (.sl rows) ∧ ∀ a n cap, G.hd b = .slice a n cap → n = rows.length := by
  rcases h.blk b _ hb' with ⟨a0, h1, h2, _⟩ | ⟨β, cap, arr, el, h0, h1, h2, h3, h4, h5, h6⟩
  ·rw [h1, h2]; exact ⟨.nil _ _, fun a n cap q => by cases q; rfl⟩
  ·rw [h1]
   exact ⟨.sl β 0 cap e arr el (0, 0) rows (.inr h0) h2 h3 (by rw [h4, zC]; exact zB e h3) h5 (fun i row j t hi hj => by rw [zC]; exact (h6 i row j t hi hj).mono (fun _ _ => rfl) hS), fun a n cap q => by cases q; rfl⟩
 have hbx : ∀ c k, (if c = b then some Br.gone else bx c) = some k → (c = b ∧ k = .gone) ∨ (c ≠ b ∧ bx c = some k) := fun c k hc => by
  split at hc
  ·rename_i q; cases hc; exact .inl ⟨q, rfl⟩
  ·rename_i q; exact .inr ⟨q, hc⟩
 have hlive : ∀ c, (bx c).isSome = true → ((if c = b then some Br.gone else bx c) : Option Br).isSome = true := fun c hc => by
  split
  ·rfl
  ·exact hc
 have hext : G.ext { G with S := S' } (fun _ => True) := ⟨hS, fun _ _ => rfl, fun _ _ => rfl, fun _ _ => rfl⟩
 refine ⟨{ G with S := S' }, { S_lt := ?_, S_src := ?_, S_0 := fun β hβ => .inl (h.S_0 β hβ), S0_lt := h.S0_lt, tsz := h.tsz, defers := h.defers, below := h.below, gok := h.gok.mono (fun _ _ => rfl) (fun _ hβ => .inl hβ), nlt := h.nlt, lent := h.lent, blk := ?_, at_ok := ?_, at_inj := ?_, env := ?_, live := ?_, liveB := ?_ }⟩
 ·rintro β (hβ | hβ)
  ·exact h.S_lt β hβ
  ·exact (h.at_ok b _ β hb' rfl (.inl hβ)).2.1
 ·rintro β (hβ | hβ)
  ·exact h.S_src β hβ
  ·exact .inr ((h.at_ok b _ β hb' rfl (.inl hβ)).1.1 hlt)
 ·intro c k hc
  rcases hbx c k hc with ⟨_, rfl⟩ | ⟨_, hc⟩
  ·trivial
  ·exact (h.blk c k hc).mono hext trivial (fun _ _ => rfl) (fun _ _ _ => rfl) (fun _ _ => trivial)
 ·intro c k β hc hr hβ
  rcases hbx c k hc with ⟨_, rfl⟩ | ⟨hne, hc⟩
  ·cases hr
  ·have h1 := h.at_ok c k β hc hr hβ
   refine ⟨h1.1, h1.2.1, ?_⟩
   rintro (q | q)
   ·exact h1.2.2 q
   ·exact hne (h.at_inj c b k _ β hc hb' hr rfl hβ (.inl q))
 ·intro c c' k l β hc hc' hr hr' hβ hβ'
  rcases hbx c k hc with ⟨_, rfl⟩ | ⟨_, hc⟩
  ·cases hr
  ·rcases hbx c' l hc' with ⟨_, rfl⟩ | ⟨_, hc'⟩
   ·cases hr'
   ·exact h.at_inj c c' k l β hc hc' hr hr' hβ hβ'
 ·intro c dd hc
  simp only [St.put] at hc
  split at hc
  ·rename_i q
   cases hc
   rw [q]
   exact hrd w G _ S' (h.env s d (by simp [St.put])) hS hrow.1 hrow.2
  ·rename_i q
   exact (h.env c dd (by simp only [St.put]; rw [if_neg q]; exact hc)).mono hext (fun _ _ => rfl) (fun _ _ => trivial)
 ·intro c dd hc b' hb''
  simp only [St.put] at hc
  split at hc
  ·cases hc; cases hb''
  ·rename_i q
   exact hlive b' (h.live c dd (by simp only [St.put]; rw [if_neg q]; exact hc) b' hb'')
 ·intro c k hc b' hb''
  rcases hbx c k hc with ⟨_, rfl⟩ | ⟨_, hc⟩
  ·cases hb''
  ·exact hlive b' (h.liveB c k hc b' hb'')
section run
variable {dr : Bool} {Q : St → Prop} {r i : Nat} {st : St} {log : List (Nat × CO)} {o : Oper} {gs : List (Operand × D)}
theorem WX {x y : Operand} {t t2 el el2 s e bytes : Nat} {d d2 : D} {rb rb2 : List (Nat × Br)} {gn : List Nat} {rows rows2 rows' : List (List T)} {z : Value} (hat : At st.env ops i X.n (.call ⟨.builtin .append, #[x, y], #[t, t2]⟩) s gs)
  (hx : opd st.env x = some d) (hD : bT d rb gn e rows) (hb : HU st.bx rb) (hy : opd st.env y = some d2) (hS : bk d2 rb2 e rows2) (hb2 : HU st.bx rb2) (hnew : st.bx s = none)
  (ht : sliceB P t el = true) (ht2 : sliceB P t2 el2 = true) (he : Hs P el e = true) (hby : Fl P el bytes = true) (hbs : bytes ≤ 4096) (hz : EC P el = some z) (hzs : z.cells.size = e) (hlim : rows.length + rows2.length ≤ CP) (hr : rows ++ rows2 = rows') (hle : gn.all (fun b => !Bf b) = true)
  (next : A8 P X ops dr Q r (i + 1) (CO.upd ⟨gs ++ [(x, d), (y, d2)], rb ++ rb2, some s, some (.e (.one (.pure (.sl rows')))), (s, .gone) :: GF gn, [s]⟩ st) ((i, ⟨gs ++ [(x, d), (y, d2)], rb ++ rb2, some s, some (.e (.one (.pure (.sl rows')))), (s, .gone) :: GF gn, [s]⟩) :: log)) : A8 P X ops dr Q (r + 1) i st log := by
 obtain ⟨o, ho, hop, hd, hn, hg, hgp⟩ := hat.out
 refine A8.step next ⟨Al.2 ⟨hgp, hx, hy, trivial⟩, Ky.2 ⟨hb, hb2⟩, hnew, trivial⟩ ((RY hat hD hS ht ht2 he hby hbs hz hzs hlim hr hle).sees (fun st h => ⟨h.r, h.b, h.n⟩) fun st _ => ?_)
 have key := XZ (P := P) (X := X) (env := st.env) (bx := A4 st.bx ((s, .vec e rows') :: GF gn)) (s := s) (b := s) (e := e) (rows := rows') (rows2 := rows') (d := .e (.one (.own s))) (by simp [A4]) (fun G st a w h => h.nl hn) (fun w G v S' h _ hrow _ => by
  have h' : v = G.hd s := h.1
  rw [h']; exact hrow)
 have e1 : (fun c => if c = s then some Br.gone else A4 st.bx ((s, .vec e rows') :: GF gn) c) = A4 st.bx ((s, .gone) :: GF gn) := by
  funext c
  simp only [A4]
  split <;> rfl
 rw [e1] at key
 exact key
end run
end Go.Lift
namespace Go.Lift
open Go.RowKit Go.Shelf
end Go.Lift
namespace Go.Lift
open Go.RowKit
variable {P : Program} {X : Jp}
theorem VL {st : St} (s b nb e len : Nat) (rows rows' : List (List T)) (hs : st.env s = some (.e (.one (.view b e 0 len)))) (hb : st.bx b = some (.vec e rows)) (hnb : st.bx nb = none) (hle : 0 + len ≤ rows.length) (hr : rows.take len = rows') (hlt : Bf b = false) (hltn : Bf nb = false) :
  Gf P X st (St.setB (St.setB (St.put st (some s) (some (.e (.one (.own nb))))) nb (.vec e rows')) b .gone) := by
 subst hr
 rintro a w ⟨G, h⟩
 obtain ⟨a1, n1, cap1, p, k1, k2, k3, k4⟩ : Fu P w G (As a.tmps s) (.view b e 0 len) := h.env s _ hs
 have hbn : b ≠ nb := fun e => by rw [e, hnb] at hb; cases hb
 have hlen : (rows.take len).length = len := by rw [List.length_take]; omega
 have hblk := h.blk b _ hb
 -- what is known of the slice
 obtain ⟨l, v, hv, hl⟩ : ∃ l v, As a.tmps s = v ∧ (∃ a l c, v = .slice a l c) ∧ (∀ β, l = some β → G.loc b = some β) ∧ ∀ G' : Gh, G'.S = G.S → G'.loc nb = l → G'.hd nb = v → E1 P w G' nb (.vec e (rows.take len)) := by
  rcases hblk with ⟨a0, g1, g2, g3⟩ | ⟨β, cap, arr, el, g0, g1, g2, g3, g4, g5, g6⟩
  ·have h0 : len = 0 := by rw [g2] at hle; simpa using hle
   rw [g1] at k1; cases k1
   refine ⟨none, _, k3, ⟨_, _, _, rfl⟩, fun β hβ => (by cases hβ), fun G' _ h1 h2 => .inl ⟨p, ?_, by rw [g2]; simp, h1⟩⟩
   rw [h2, h0]
  ·rw [g1] at k1; cases k1
   by_cases h0 : 0 < cap1
   case neg =>
    have hz : len = 0 := by omega
    refine ⟨none, _, k3, ⟨_, _, _, rfl⟩, fun β hβ => (by cases hβ), fun G' _ h1 h2 => .inl ⟨p, ?_, by rw [hz, List.take_zero], h1⟩⟩
    rw [h2, hz, show cap1 - 0 = 0 by omega]
   refine ⟨some β, .slice (some ⟨β, 0, none⟩) len cap1, ?_, ⟨_, _, _, rfl⟩, fun β' hβ => (by cases hβ; exact g0), fun G' hS h1 h2 => .inr ⟨β, cap1, arr, el, h1, by rw [h2, hlen], g2, by rw [hlen]; omega, g4, ?_, ?_⟩⟩
   ·rw [k3, k4 h0]; simp [Nat.zero_mul, Addr.add]
   ·intro i row hi
    rw [List.getElem?_take] at hi
    split at hi
    ·exact g5 i row hi
    ·cases hi
   ·intro i row j t hi hj
    rw [List.getElem?_take] at hi
    split at hi
    ·rw [hS]; exact g6 i row j t hi hj
    ·cases hi
 obtain ⟨hl0, hl, hk⟩ := hl
 have hext : G.ext (G.set nb l v) (fun b => (st.bx b).isSome = true) := Gh.set_ext _ _ _ _ (by simp [hnb])
 have h1 : Dx P X (G.set nb l v) ⟨st.env, (St.setB (St.setB st nb (.vec e (rows.take len))) b .gone).bx⟩ a w := by
  refine h.frame ?_ hext (fun _ _ => rfl) ?_ ?_ ?_ h.S_lt h.S_src h.below (Gh.set_lent _ _ hltn)
  ·intro c hc; simp only [St.setB]; split <;> (try split) <;> simp [hc]
  ·intro c k hc
   simp only [St.setB] at hc
   split at hc
   ·cases hc; exact .inr ⟨trivial, fun c hc => by cases hc⟩
   ·split at hc
    ·rename_i e2; subst e2; cases hc
     exact .inr ⟨hk _ rfl (by simp [Gh.set]) (by simp [Gh.set]), fun c hc => by cases hc⟩
    ·exact .inl ⟨hc, fun _ _ _ => rfl⟩
  ·intro c k β hc hr hβ
   simp only [St.setB] at hc
   rw [Gh.set_has] at hβ
   split at hc
   ·cases hc; cases hr
   ·split at hc
    ·rename_i e2; rw [if_pos e2] at hβ
     have := h.at_ok b _ β hb rfl (.inl (hl β hβ))
     exact ⟨⟨fun _ => this.1.1 hlt, this.1.2⟩, this.2⟩
    ·rename_i e2; rw [if_neg e2] at hβ; exact h.at_ok c k β hc hr hβ
  ·intro c c' k k' β hc hc' hr hr' hβ hβ'
   simp only [St.setB] at hc hc'
   rw [Gh.set_has] at hβ hβ'
   split at hc
   ·cases hc; cases hr
   rename_i hcb
   split at hc'
   ·cases hc'; cases hr'
   rename_i hcb'
   split at hc
   ·rename_i e2; rw [if_pos e2] at hβ
    split at hc'
    ·rename_i e3; rw [e2, e3]
    ·rename_i e3; rw [if_neg e3] at hβ'
     exact absurd (h.at_inj b c' _ k' β hb hc' rfl hr' (.inl (hl β hβ)) hβ').symm hcb'
   ·rename_i e2; rw [if_neg e2] at hβ
    split at hc'
    ·rename_i e3; rw [if_pos e3] at hβ'
     exact absurd (h.at_inj b c _ k β hb hc rfl hr (.inl (hl β hβ')) hβ).symm hcb
    ·rename_i e3; rw [if_neg e3] at hβ'; exact h.at_inj c c' k k' β hc hc' hr hr' hβ hβ'
 refine ⟨G.set nb l v, { h1 with env := ?_, live := ?_, blk := h1.blk, at_ok := h1.at_ok, at_inj := h1.at_inj, liveB := h1.liveB, nlt := h1.nlt, lent := h1.lent }⟩
 ·intro t d ht
  simp only [St.setB, St.put] at ht
  split at ht
  ·rename_i e2; cases ht
   rw [e2, hv]
   exact ⟨by simp [Gh.set], hl0⟩
  ·exact h1.env t d ht
 ·intro t d ht c hc
  simp only [St.setB, St.put] at ht
  split at ht
  ·cases ht
   simp [D.names, E.names, C.names] at hc
   subst hc; simp only [St.setB]; rw [if_neg (fun q => hbn q.symm)]; simp
  ·exact h1.live t d ht c hc
theorem TJ {st : St} {α : Type} (f : α → List T) (xs : List α) (s b nb e len : Nat) (hs : st.env s = some (.e (.one (.view b e 0 len)))) (hb : st.bx b = some (.vec e (xs.map f))) (hnb : st.bx nb = none) (hle : 0 + len ≤ xs.length) (hlt : Bf b = false) (hltn : Bf nb = false) :
  Gf P X st (St.setB (St.setB (St.put st (some s) (some (.e (.one (.own nb))))) nb (.vec e ((xs.take len).map f))) b .gone) :=
 VL s b nb e len _ _ hs hb hnb (by rw [zI]; exact hle) (List.map_take).symm hlt hltn
end Go.Lift
namespace Go.Lift
open List renaming mem_of_getElem? → lM
open List renaming getD_eq_getElem?_getD → lD
open Go.RowKit
variable {P : Program} {X : Jp} {ops : Array Oper}
section run
variable {dr : Bool} {Q : St → Prop} {r i : Nat} {st : St} {log : List (Nat × CO)} {o : Oper} {gs : List (Operand × D)}
theorem M8 {S : Nat → Prop} {w : World} {v : Value} (h : DQ w S v .nil0) : ∃ a, v = .slice a 0 0 := by
 cases h with
 | nil0 a => exact ⟨a, rfl⟩
theorem Sq {t el : TypeId} {w : World} {a : Option Addr} {n c : Nat} {ty : TypeId} (ht : sliceB P t el = true) : (Builtin.cap_ #[t] ty #[.slice a n c]).run P w = .ok (goInt c) w := by
 unfold sliceB at ht
 split at ht
 ·rename_i e' hu
  unfold Builtin.cap_
  refine Aj (AI hu w) ?_
  rfl
 ·cases ht
theorem YZ {x : Operand} {s : Nat} {t el : TypeId} (hat : At st.env ops i X.n (.call ⟨.builtin .cap, #[x], #[t]⟩) s gs)
  (hx : opd st.env x = some (one .nil0)) (ht : sliceB P t el = true)
  (next : A8 P X ops dr Q r (i + 1) (CO.upd ⟨gs ++ [(x, one .nil0)], [], some s, some (vD (.int .i64 0)), [], []⟩ st) ((i, ⟨gs ++ [(x, one .nil0)], [], some s, some (vD (.int .i64 0)), [], []⟩) :: log)) : A8 P X ops dr Q (r + 1) i st log := by
 obtain ⟨o, ho, hop, hd, hn, hg, hgp⟩ := hat.out
 refine A8.step next ⟨Al.2 ⟨hgp, hx, trivial⟩, trivial, trivial⟩ (LR.value ho hg rfl hd.symm (C6 hd hn) ?_)
 intro G st a w hs hpre
 obtain ⟨hx, _⟩ := (Al.1 hpre.r).2
 obtain ⟨b, he⟩ := M8 (hs.opd hx : DQ w G.S (a.eval x) .nil0)
 refine ⟨.int .i64 0, w, G, ?_, hs, ?_⟩
 ·simp only [execOp, hop]
  refine E6 fun cs => ?_
  simp only [xC, yH, xZ, builtin, he]
  exact Aj (Sq ht) rfl
 ·rintro d ⟨⟩
  exact ⟨.val _ rfl, fun b hb => by cases hb⟩
theorem Zf {x y : Operand} {t el s e : Nat} (hat : At st.env ops i X.n (.slice t x none (some y) none) s gs)
  (hx : opd st.env x = some (one .nil0)) (hy : opd st.env y = some (vD (.int .i64 0))) (ht : sliceB P t el = true) (he : Hs P el e = true)
  (next : A8 P X ops dr Q r (i + 1) (CO.upd ⟨gs ++ [(x, one .nil0), (y, vD (.int .i64 0))], [], some s, some (one .nil0), [], []⟩ st) ((i, ⟨gs ++ [(x, one .nil0), (y, vD (.int .i64 0))], [], some s, some (one .nil0), [], []⟩) :: log)) : A8 P X ops dr Q (r + 1) i st log := by
 obtain ⟨o, ho, hop, hd, hn, hg, hgp⟩ := hat.out
 refine A8.step next ⟨Al.2 ⟨hgp, hx, hy, trivial⟩, trivial, trivial⟩ (LR.value ho hg rfl hd.symm (C6 hd hn) ?_)
 intro G st a w hs hpre
 obtain ⟨hx, hy, _⟩ := (Al.1 hpre.r).2
 obtain ⟨p, hv⟩ := M8 (hs.opd hx : DQ w G.S (a.eval x) .nil0)
 have hY : a.eval y = .int .i64 0 := ES (hs.opd hy : DQ w G.S (a.eval y) (.val _))
 unfold sliceB at ht
 split at ht
 ·rename_i e' hu
  have : e' = el := by simpa using ht
  subst this
  refine ⟨.slice p 0 0, w, G, ?_, hs, ?_⟩
  ·simp only [execOp, hop, hv]
   refine Aj (w1 := w) (a := .slice p 0 0) ?_ rfl
   unfold Instr.sliceAt
   refine Aj (AI hu w) ?_
   unfold Instr.slice
   refine Aj (AI hu w) ?_
   refine Aj (a := (0, 0, 0)) (w1 := w) ?_ ?_
   ·simp only [yC, Option.map_none, hY]
    unfold Instr.sliceBounds
    refine Aj (a := 0) (w1 := w) rfl ?_
    refine Aj (a := 0) (w1 := w) (GN (P := P) (k := .i64) (v := 0) (by omega) (by simp) w) ?_
    exact Aj (a := 0) (w1 := w) rfl rfl
   ·refine Aj (DI he w) ?_
    rfl
  ·rintro d ⟨⟩
   exact ⟨.nil0 _, fun b hb => by cases hb⟩
 ·cases ht
theorem Xz {zc : Array Value} {n e i j : Nat} (hze : zc.size = e) (hi : i < n) (hj : j < e) : As (Builtin.zeroCells zc n) (i * e + j) = As zc j := by
 have hle : i * e + e ≤ n * e := by rw [← zW]; exact zB e hi
 have hlt : i * e + j < n * e := by omega
 have hmod : (i * e + j) % e = j := by rw [Nat.mul_comm, Nat.mul_add_mod]; exact Nat.mod_eq_of_lt hj
 unfold As Builtin.zeroCells
 simp [hze, hlt, hmod, hj]
theorem Ul {t t2 el e bytes : Nat} {w : World} {z : Value} {a : Option Addr} {k : Int} {ty : TypeId} (ht : sliceB P t el = true) (ht2 : P.underlying t2 = some (.int .i64)) (he : Hs P el e = true) (hby : Fl P el bytes = true) (hbs : bytes ≤ 4096)
  (hz : EC P el = some z) (hzs : z.cells.size = e) (h0 : 0 < k) (hl : k ≤ CP) (hep : 0 < e) :
  ∃ c rest, k.toNat ≤ c ∧ (Builtin.append_ #[t, t2] ty #[.slice a 0 0, .int .i64 k]).run P w = .ok (.slice (some ⟨w.heap.size, 0, none⟩) k.toNat c) (w.drew.alloc (.cells (#[] ++ Builtin.zeroCells z.cells k.toNat ++ rest) el)) ∧ rest.size = (c - k.toNat) * e := by
 obtain ⟨olds, k1, _, k3⟩ := E5 (P := P) (w := w) (a := a) (len := 0) (cap := 0) (e := e) (S := fun _ => False)
 have : olds = #[] := Array.eq_empty_of_size_eq_zero k3
 subst this
 unfold sliceB at ht
 split at ht
 ·rename_i e' hu
  have : e' = el := by simpa using ht
  subst this
  unfold Fl at hby
  split at hby
  ·rename_i inf hinf
   have hbytes : inf.bytes = bytes := by simpa using hby
   have hlim : (CP : Int) = 4294967296 := by simp [CP]
   have hw : IntKind.i64.wrap k = k := Qh (by omega) hl
   have hb : k * (inf.bytes : Int) ≤ 17592186044416 := by
    have h1 : k.toNat * inf.bytes ≤ 4294967296 * 4096 := Nat.mul_le_mul (by omega) (by omega)
    have h2 : ((k.toNat * inf.bytes : Nat) : Int) = k * (inf.bytes : Int) := by rw [Int.natCast_mul, Int.toNat_of_nonneg (by omega)]
    omega
   have hfit : ¬ (0 + k.toNat ≤ 0) := by omega
   have hnc : Builtin.nextslicecap (0 + k.toNat) 0 * inf.bytes ≤ 281474976710656 := growslice_fits (by omega) (by
    rw [hbytes]
    exact xA (Nat.mul_le_mul (by omega : 0 + k.toNat ≤ CP) hbs) YQ)
   obtain ⟨c, hc1, hc2⟩ := L3 (P := P) (need := 0 + k.toNat) (cap := 0) (el := e') (w := w)
   refine ⟨c, Builtin.zeroCells z.cells (c - (0 + k.toNat)), by omega, ?_, by simp [Builtin.zeroCells, hzs]⟩
   have hne : ¬ (k.toNat * e = 0) := by
    intro h
    rcases Nat.mul_eq_zero.1 h with h | h <;> omega
   have hc3 : ¬ (((0 + k.toNat : Nat) : Int) > IntKind.i64.max ∧ (True ∨ inf.bytes = 0)) := by
    have h1 : IntKind.i64.max = 9223372036854775807 := rfl
    rw [h1]; omega
   have hc4 : ¬ (Builtin.nextslicecap (0 + k.toNat) 0 * inf.bytes > 2 ^ 48) := by omega
   unfold Builtin.append_
   refine Aj (AI hu w) ?_
   refine Aj (DI he w) ?_
   refine Aj (AI ht2 w) ?_
   refine Aj (a := true) (w1 := w) rfl ?_
   dsimp only
   rw [if_pos rfl]
   refine Aj (a := k) (w1 := w) rfl ?_
   rw [hw, if_neg (by omega)]
   refine Aj (Gk hinf w) ?_
   rw [if_neg (by omega)]
   refine Aj (a := k.toNat) (w1 := w) rfl ?_
   simp only [hfit, if_false]
   refine Aj (Gk hinf w) ?_
   rw [if_neg hc3]
   refine Aj (Gk hinf w) ?_
   rw [if_neg hc4]
   refine Aj hc2 ?_
   refine Aj (Gk hinf w.drew) ?_
   refine Aj (run_askRoom P w.drew _) ?_
   refine Aj (k1 w.drew rfl) ?_
   refine Aj (a := Builtin.zeroCells z.cells k.toNat) (w1 := w.drew) ?_ ?_
   ·simp only [zV, vC, if_false, hne]
    exact Aj (EJ hz w.drew) rfl
   refine Aj (EJ hz w.drew) ?_
   simp only [zC]
   rfl
  ·cases hby
 ·cases ht
theorem V4 {x y : Operand} {t t2 el s e bytes : Nat} {z : Value} {zs : List Value} {rows : List (List T)} {k : Int} (hat : At st.env ops i X.n (.call ⟨.builtin .append, #[x, y], #[t, t2]⟩) s gs)
  (ht : sliceB P t el = true) (ht2 : P.underlying t2 = some (.int .i64)) (he : Hs P el e = true) (hby : Fl P el bytes = true) (hbs : bytes ≤ 4096) (hz : EC P el = some z) (hzs : z.cells.toList = zs) (hze : zs.length = e) (h1 : zs.all HI = true) (h0 : 0 < k) (hl : k ≤ CP) (hep : 0 < e) (hrows : zD k.toNat (zs.map fun v => (T.of v).nrm) = rows) :
  LR P X ops i ⟨gs ++ [(x, one .nil0), (y, vD (.int .i64 k))], [], some s, some (.e (.one (.own s))), [(s, .vec e rows)], [s]⟩ := by
 subst hrows
 obtain ⟨o, ho, hop, hd, hn, hg, hgp⟩ := hat.out
 refine LR.value ho hg rfl hd.symm (C6 hd hn) ?_
 intro G st a w hs hpre
 obtain ⟨hx, hy, _⟩ := (Al.1 hpre.r).2
 have hnew := hpre.n.1
 obtain ⟨p, hv⟩ := M8 (hs.opd hx : DQ w G.S (a.eval x) .nil0)
 have hY : a.eval y = .int .i64 k := ES (hs.opd hy : DQ w G.S (a.eval y) (.val _))
 have hzc : z.cells.size = e := by rw [← hze, ← hzs]; simp
 obtain ⟨c, rest, hc1, hrun1, hrest⟩ := Ul (P := P) (w := w) (a := p) (ty := o.type) ht ht2 he hby hbs hz hzc h0 hl hep
 have hrun : (execOp a.eval o).run P w = .ok (.value (.slice (some ⟨w.heap.size, 0, none⟩) k.toNat c)) (w.drew.alloc (.cells (#[] ++ Builtin.zeroCells z.cells k.toNat ++ rest) el)) := by
  simp only [execOp, hop]
  refine E6 fun cs => ?_
  simp only [xC, yH, xZ, builtin, hv, hY]
  exact Aj hrun1 rfl
 have hheap : ∀ γ, γ < w.heap.size → (w.drew.alloc (.cells (#[] ++ Builtin.zeroCells z.cells k.toNat ++ rest) el)).heap[γ]? = w.heap[γ]? := fun γ hγ => by rw [Da, if_neg (by rw [Gg]; omega)]; rfl
 have hat : (w.drew.alloc (.cells (#[] ++ Builtin.zeroCells z.cells k.toNat ++ rest) el)).heap[w.heap.size]? = some (.cells (#[] ++ Builtin.zeroCells z.cells k.toNat ++ rest) el) := by rw [Da, Gg, if_pos rfl]
 have hsz : (w.drew.alloc (.cells (#[] ++ Builtin.zeroCells z.cells k.toNat ++ rest) el)).heap.size = w.heap.size + 1 := by show (w.heap.push _).size = _; simp
 have hzl : (Builtin.zeroCells z.cells k.toNat).size = k.toNat * e := by simp [Builtin.zeroCells, hzc]
 have hrow : ∀ (i : Nat) (row : List T), (zD k.toNat (zs.map fun v => (T.of v).nrm))[i]? = some row → i < k.toNat ∧ row = zs.map fun v => (T.of v).nrm := fun i row hi => by
  have hlt := Aw hi
  simp only [List.length_replicate] at hlt
  rw [List.getElem?_replicate, if_pos hlt] at hi
  exact ⟨hlt, by simpa using hi.symm⟩
 refine ⟨_, _, G.set s (some w.heap.size) (.slice (some ⟨w.heap.size, 0, none⟩) k.toNat c), hrun, ?_, ?_⟩
 ·refine hs.newVec (gn := []) (hs.nl hn) hnew (fun b hb => by cases hb) ?_ (fun γ h1 _ => hheap γ h1) (by omega) ?_ ?_
  ·rintro β ⟨⟩
   exact ⟨hs.below.size, by omega, fun h => uF _ (hs.S_lt _ h), fun b k hk hr hb => absurd (hs.at_ok b k _ hk hr hb).2.1 (uF _)⟩
  ·exact (hs.below.drew).alloc (by rw [Gg]; exact hs.below.size) _
  ·refine .inr ⟨w.heap.size, c, _, el, by simp [Gh.set], by simp [Gh.set], hat, by simpa using hc1, ?_, fun i row hi => by rw [(hrow i row hi).2]; simpa using hze, fun i row j t hi hj => ?_⟩
   ·simp only [Array.size_append, hzl, hrest, Array.size_empty, zC]
    rw [← yO]; congr 1; omega
   ·obtain ⟨h2, h3⟩ := hrow i row hi
    subst h3
    have hj' := Aw hj
    simp only [zI] at hj'
    have hle : i * e + e ≤ k.toNat * e := by rw [← zW]; exact zB e h2
    rw [Cp (by simp [hzl]; omega), GH (by simp), Array.size_empty, Nat.sub_zero, Xz hzc h2 (by omega)]
    have hzj : z.cells.toList[j]? = some (zs[j]) := by rw [hzs]; simp [hj']
    have : t = (T.of zs[j]).nrm := by simpa [hj'] using hj.symm
    subst this
    have hc2 : As z.cells j = zs[j] := by
     have : z.cells[j]? = some zs[j] := by simpa using hzj
     simp [As, this]
    rw [hc2]
    exact (DQ.of (zG.1 h1 _ (xF hj'))).nrm
 ·rintro d' ⟨⟩
  refine ⟨⟨by simp [Gh.set], _, _, _, rfl⟩, fun b hb => ?_⟩
  simp [D.names, E.names, C.names] at hb
  subst hb; simp [A4]
theorem Xh {x y : Operand} {t t2 el s e bytes : Nat} {z : Value} {zs : List Value} {rows : List (List T)} {k : Int} (hat : At st.env ops i X.n (.call ⟨.builtin .append, #[x, y], #[t, t2]⟩) s gs)
  (hx : opd st.env x = some (one .nil0)) (hy : opd st.env y = some (vD (.int .i64 k))) (hnew : st.bx s = none)
  (ht : sliceB P t el = true) (ht2 : P.underlying t2 = some (.int .i64)) (he : Hs P el e = true) (hby : Fl P el bytes = true) (hbs : bytes ≤ 4096) (hz : EC P el = some z) (hzs : z.cells.toList = zs) (hze : zs.length = e) (h1 : zs.all HI = true) (h0 : 0 < k) (hl : k ≤ CP) (hep : 0 < e) (hrows : zD k.toNat (zs.map fun v => (T.of v).nrm) = rows)
  (next : A8 P X ops dr Q r (i + 1) (CO.upd ⟨gs ++ [(x, one .nil0), (y, vD (.int .i64 k))], [], some s, some (.e (.one (.own s))), [(s, .vec e rows)], [s]⟩ st) ((i, ⟨gs ++ [(x, one .nil0), (y, vD (.int .i64 k))], [], some s, some (.e (.one (.own s))), [(s, .vec e rows)], [s]⟩) :: log)) : A8 P X ops dr Q (r + 1) i st log := by
 obtain ⟨o, ho, hop, hd, hn, hg, hgp⟩ := hat.out
 exact A8.step next ⟨Al.2 ⟨hgp, hx, hy, trivial⟩, trivial, hnew, trivial⟩ (V4 hat ht ht2 he hby hbs hz hzs hze h1 h0 hl hep hrows)
theorem ZL {f s : Nat} {xs : List Operand} {ds0 ds : List D} {rv : List (Nat × List (List T))} {res : D} {ts : Array TypeId} (ns : List Nat) (hc : Ar P f ds rv res) (hat : At st.env ops i X.n (.call ⟨.value (.func f), xs.toArray, ts⟩) s gs)
  (hf : AH P f = true) (hl : xs.length = ds0.length) (hx : He st.env (JL xs ds0)) (hds : ds0 = ds) (hpub : ds.all Wg = true) (hns : ns.length = rv.length) (hndl : Nl ns) (hnew : OG st.bx ns) (hres : res.names.all (fun b => decide (b < rv.length)) = true)
  (next : A8 P X ops dr Q r (i + 1) (CO.upd ⟨gs ++ JL xs ds0, [], some s, some (res.ren (nm ns)), JW ns rv, ns⟩ st) ((i, ⟨gs ++ JL xs ds0, [], some s, some (res.ren (nm ns)), JW ns rv, ns⟩) :: log)) : A8 P X ops dr Q (r + 1) i st log := by
 obtain ⟨o, ho, hop, hd, hn, hg, hgp⟩ := hat.out
 have hnd := hndl.1
 subst hds
 refine A8.step next ⟨Al.2 ⟨hgp, hx⟩, trivial, hnew⟩ ?_
 intro st a w K Q' hs hpre hK
 obtain ⟨G, hs⟩ := hs
 have hx := (Al.1 hpre.r).2
 have hw := hs.wanted hg (Al.1 hpre.r).1
 have hnew := hpre.n
 have hnew' : ∀ c, c ∈ ns → st.bx c = none := by
  have : ∀ {l : List Nat}, OG st.bx l → ∀ c, c ∈ l → st.bx c = none := by
   intro l
   induction l with
   | nil => intro _ c hc; cases hc
   | cons b l ih =>
    intro h c hc
    rcases zO.1 hc with e | e
    ·subst e; exact h.1
    ·exact ih h.2 c e
  exact this hnew
 unfold wpOp
 rw [ho]
 simp only [hw, if_true]
 refine .inl ?_
 unfold Oper.wp
 have hrun : (execOp a.eval o).run P w = .ok (.enter f (xs.toArray.map a.eval)) w := by
  simp only [execOp, hop]
  exact IE hf rfl
 rw [hrun]
 show Calls P f (xs.toArray.map a.eval) w _
 refine (hc w G.S (xs.toArray.map a.eval) hs.S_lt hs.gok (by simpa using hl) ?_).mono ?_
 ·intro j d hj
  have hj0 := hj
  have hlt := Aw hj0
  have hxj : xs[j]? = some (xs[j]'(by omega)) := by simp [show j < xs.length from by omega]
  have hop' := Kc hl hx j _ d hxj hj0
  have hcell : As (xs.toArray.map a.eval) j = a.eval (xs[j]'(by omega)) := by simp [As, show j < xs.length from by omega]
  rw [hcell]
  refine (hs.opd hop').closed ?_ (fun _ h => h)
  have := zG.1 hpub _ (lM hj)
  simpa [Wg] using this
 ·rintro e w' ⟨v, G', rfl, hbel, hS1, hS2, hres', hvec, hvat, hvinj⟩
  show K (a.put o.dst v) w'
  rw [hd]
  -- the ghost of the caller
  let G2 : Gh := { S := fun β => G'.S β ∧ True, loc := fun c => if c ∈ ns then G'.loc (ns.idxOf c) else G.loc c, hd := fun c => if c ∈ ns then G'.hd (ns.idxOf c) else G.hd c, more := fun c => if c ∈ ns then G'.more (ns.idxOf c) else G.more c }
  have hidx : ∀ k, k < ns.length → ns.idxOf (nm ns k) = k := by
   intro k hk
   have hm := F3 hk
   have h1 : ns.idxOf (nm ns k) < ns.length := List.idxOf_lt_length_of_mem hm
   refine Qr hnd h1 hk ?_
   have h2 := List.getElem_idxOf h1
   show ns.getD (ns.idxOf (nm ns k)) 0 = nm ns k
   rw [lD, yD h1, yL, h2]
  have hvia : G'.via G2 (nm ns) (fun b => b < ns.length) := ⟨fun β h => ⟨h, trivial⟩, fun b hb => by simp only [G2]; rw [if_pos (F3 hb), hidx b hb], fun b hb => by simp only [G2]; rw [if_pos (F3 hb), hidx b hb], fun b hb => by simp only [G2]; rw [if_pos (F3 hb), hidx b hb]⟩
  have hext : G.ext G2 (fun b => (st.bx b).isSome = true) := by
   have : ∀ b, (st.bx b).isSome = true → b ∉ ns := fun b hb hm => by rw [hnew' b hm] at hb; cases hb
   exact ⟨fun β h => ⟨hS1 β h, trivial⟩, fun b hb => by simp only [G2]; rw [if_neg (this b hb)], fun b hb => by simp only [G2]; rw [if_neg (this b hb)], fun b hb => by simp only [G2]; rw [if_neg (this b hb)]⟩
  have hwS : ∀ β, G.S β → w'.heap[β]? = w.heap[β]? := fun β hβ => hbel.block β (hs.S_lt β hβ)
  have hsz := hbel.size
  have hle := hs.below.size
  have hS3 : ∀ β, G2.S β → G.S β ∨ (w.heap.size ≤ β ∧ β < w'.heap.size) := fun β h => hS2 β h.1
  have hvg := fun c => Md (bx := st.bx) (ns := ns) (rv := rv) (c := c) hns hnd
  have hblk : ∀ c k, A4 st.bx (JW ns rv) c = some k → (c ∉ ns ∧ st.bx c = some k) ∨ (∃ m x, m < ns.length ∧ nm ns m = c ∧ rv[m]? = some x ∧ k = .vec x.1 x.2) := by
   intro c k hc
   by_cases hm : c ∈ ns
   ·obtain ⟨m, hm1, hm2⟩ := O0 hm
    have hrx : rv[m]? = some (rv[m]'(by omega)) := by simp [show m < rv.length from by omega]
    have := (hvg c).2 m _ hrx
    rw [hm2, hc] at this
    exact .inr ⟨m, _, hm1, hm2, hrx, by simpa using this⟩
   ·rw [(hvg c).1 hm] at hc; exact .inl ⟨hm, hc⟩
  have key : Dx P X G2 ⟨st.env, A4 st.bx (JW ns rv)⟩ a w' := by
   refine hs.frame ?_ hext hwS ?_ ?_ ?_ ?_ ?_ (hs.below.trans (.of (hbel.mono hle))) (fun b hb => by
    have : b ∉ ns := fun hm => by rw [hndl.2 b hm] at hb; cases hb
    simp only [G2]; rw [if_neg this, if_neg this, if_neg this]; exact ⟨rfl, rfl, rfl⟩)
   ·intro c hc
    have hm : c ∉ ns := fun hm => by rw [hnew' c hm] at hc; cases hc
    rw [(hvg c).1 hm]; exact hc
   ·intro c k hc
    rcases hblk c k hc with ⟨_, h1⟩ | ⟨m, x, h1, h2, h3, h4⟩
    ·exact .inl ⟨h1, fun β hr hβ => hbel.block β (hs.at_ok c k β h1 hr hβ).2.1⟩
    ·subst h4
     refine .inr ⟨?_, fun c hc => by cases hc⟩
     rw [← h2]
     exact (hvec m x h3).ren hvia h1 (fun c hc => by cases hc)
   ·intro c k β hc hr hβ
    rcases hblk c k hc with ⟨h0, h1⟩ | ⟨m, x, h1, h2, h3, h4⟩
    ·have hβ := (hext.has (by rw [h1]; rfl)).1 hβ
     have := hs.at_ok c k β h1 hr hβ
     refine ⟨this.1, by omega, fun h => ?_⟩
     rcases hS3 β h with h | h
     ·exact this.2.2 h
     ·omega
    ·rw [← h2, hvia.has h1] at hβ
     have := hvat m β (by omega) hβ
     exact ⟨.new (by omega), this.2.1, fun h => this.2.2 h.1⟩
   ·intro c c' k k' β hc hc' hr hr' hβ hβ'
    rcases hblk c k hc with ⟨h0, h1⟩ | ⟨m, x, h1, h2, h3, h4⟩ <;> rcases hblk c' k' hc' with ⟨h0', h1'⟩ | ⟨m', x', h1', h2', h3', h4'⟩
    ·have hβ := (hext.has (by rw [h1]; rfl)).1 hβ
     have hβ' := (hext.has (by rw [h1']; rfl)).1 hβ'
     exact hs.at_inj c c' k k' β h1 h1' hr hr' hβ hβ'
    ·have hβ := (hext.has (by rw [h1]; rfl)).1 hβ
     rw [← h2', hvia.has h1'] at hβ'
     have h5 := hvat m' β (by omega) hβ'
     have h6 := (hs.at_ok c k β h1 hr hβ).2.1
     omega
    ·have hβ' := (hext.has (by rw [h1']; rfl)).1 hβ'
     rw [← h2, hvia.has h1] at hβ
     have h5 := hvat m β (by omega) hβ
     have h6 := (hs.at_ok c' k' β h1' hr' hβ').2.1
     omega
    ·rw [← h2, hvia.has h1] at hβ
     rw [← h2', hvia.has h1'] at hβ'
     have := hvinj m m' β (by omega) (by omega) hβ hβ'
     rw [← h2, ← h2', this]
   ·intro β h
    rcases hS3 β h with h | h
    ·have := hs.S_lt β h; omega
    ·exact h.2
   ·intro β h
    rcases hS3 β h with h | h
    ·exact hs.S_src β h
    ·exact .inr (by omega)
  have hrn : ∀ b, b ∈ res.names → b < ns.length := fun b hb => by
   have := zG.1 hres b hb
   rw [hns]; simpa using this
  refine hK _ _ ⟨G2, key.put (some s) (some (res.ren (nm ns))) v (by intro t e; cases e; exact hn) ?_⟩
  rintro d ⟨⟩
  refine ⟨hres'.ren hvia hrn, fun b hb => ?_⟩
  obtain ⟨b0, h1, h2⟩ := KG hb
  have hrx : rv[b0]? = some (rv[b0]'(by have := hrn b0 h1; omega)) := by simp [show b0 < rv.length from by have := hrn b0 h1; omega]
  show (A4 st.bx (JW ns rv) b).isSome = true
  rw [h2, (hvg b).2 b0 _ hrx]; rfl
end run
end Go.Lift
namespace Go.Lift
def Aq (n : Int) : List T := [.val (.int .i64 n)]
def El (n : Int) : List T := [.val (.int .u8 n)]
def fH (n : Int) : List T := [.val (.int .u16 n)]
abbrev QU (n : Int) : T := .val (.int .i64 n)
abbrev tB (b : Bool) : T := .val (.bool b)
def eB (b : Bool) : List T := [.val (.bool b)]
def DG {α : Type} (f : α → List T) (xs : List α) : List T := [.sl (xs.map f)]
theorem Tl : XF Aq := ⟨by intro x y h; simpa [Aq] using h⟩
theorem dS : XF El := ⟨by intro x y h; simpa [El] using h⟩
theorem eS : XF eB := ⟨by intro x y h; simpa [eB] using h⟩
theorem dt {α : Type} {f : α → List T} (h : XF f) : XF (DG f) := ⟨by intro x y hx; simp only [DG, List.cons.injEq, T.sl.injEq, and_true] at hx; exact My h.inj _ _ hx⟩
structure H6 where
 gd : Int
 ge : Int
 gi : Int
 gl : Bool
 gz : Int
 gA : Int
def HK (x : H6) : List T := [.val (.int .u8 x.gd), .val (.int .u8 x.ge), .val (.int .u8 x.gi), .val (.bool x.gl), .val (.int .u16 x.gz), .val (.int .u16 x.gA)]
structure Bz where
 f9 : List Int
 gf : List Int
 gj : List Int
 gy : List H6
def NF (x : Bz) : List T := [.sl (x.f9.map El), .sl (x.gf.map El), .sl (x.gj.map El), .sl (x.gy.map HK)]
structure Ao where
 gd : Int
 ge : Int
 gi : Int
 gl : Bool
 gh : List (List Bool)
 gk : List (List Bool)
def AJ (x : Ao) : List T := [.val (.int .i64 x.gd), .val (.int .i64 x.ge), .val (.int .i64 x.gi), .val (.bool x.gl), .sl (x.gh.map (DG eB)), .sl (x.gk.map (DG eB))]
structure Ab where
 f9 : List Int
 gf : List Int
 gj : List Int
 ga : List Ao
structure Aa where
 gt : Int
 gr : Int
 gu : Int
def Ac (x : Aa) : List T := [.val (.int .i64 x.gt), .val (.int .i64 x.gr), .val (.int .i64 x.gu)]
theorem QE : XF Ac := ⟨by
 rintro ⟨a1, a2, a3⟩ ⟨b1, b2, b3⟩ h
 simp only [Ac, List.cons.injEq, T.val.injEq, Value.int.injEq, and_true, true_and] at h
 obtain ⟨h1, h2, h3⟩ := h
 subst h1
 subst h2
 subst h3
 rfl⟩
def H3 (a b : Aa) : Bool := decide (a.gt = b.gt) && decide (a.gr = b.gr) && decide (a.gu = b.gu)
theorem O3 {a b : Aa} (h : H3 a b = true) : a = b := by
 cases a; cases b; simp only [H3, zH, decide_eq_true_eq] at h
 obtain ⟨⟨h1, h2⟩, h3⟩ := h
 subst h1
 subst h2
 subst h3
 rfl
structure Ae where
 gb : List Int
 f7 : List Int
 gc : List Int
def FL (x : Ae) : List T := [.sl (x.gb.map Aq), .sl (x.f7.map Aq), .sl (x.gc.map El)]
structure Af where
 gd : Int
 gg : Int
 gp : Int
def AD (x : Af) : List T := [.val (.int .i64 x.gd), .val (.int .i64 x.gg), .val (.int .i64 x.gp)]
theorem Qa : XF AD := ⟨by
 rintro ⟨a1, a2, a3⟩ ⟨b1, b2, b3⟩ h
 simp only [AD, List.cons.injEq, T.val.injEq, Value.int.injEq, and_true, true_and] at h
 obtain ⟨h1, h2, h3⟩ := h
 subst h1
 subst h2
 subst h3
 rfl⟩
structure AF where
 gx : Ae
 gB : Int
 gw : Af
def BM (x : AF) : List T := [.sl (x.gx.gb.map Aq), .sl (x.gx.f7.map Aq), .sl (x.gx.gc.map El), .val (.int .i64 x.gB), .val (.int .i64 x.gw.gd), .val (.int .i64 x.gw.gg), .val (.int .i64 x.gw.gp)]
structure AG where
 gq : Ae
 ge : Int
 gw : Af
 f7 : List Int
def Bk (x : AG) : List T := [.sl (x.gq.gb.map Aq), .sl (x.gq.f7.map Aq), .sl (x.gq.gc.map El), .val (.int .i64 x.ge), .val (.int .i64 x.gw.gd), .val (.int .i64 x.gw.gg), .val (.int .i64 x.gw.gp), .sl (x.f7.map Aq)]
theorem UI : XF Bk := ⟨by
 rintro ⟨⟨a1, a2, a3⟩, a4, ⟨a5, a6, a7⟩, a8⟩ ⟨⟨b1, b2, b3⟩, b4, ⟨b5, b6, b7⟩, b8⟩ h
 simp only [Bk, List.cons.injEq, T.val.injEq, T.sl.injEq, Value.int.injEq, and_true, true_and] at h
 obtain ⟨h1, h2, h3, h4, h5, h6, h7, h8⟩ := h
 have h1 := My Tl.inj _ _ h1
 subst h1
 have h2 := My Tl.inj _ _ h2
 subst h2
 have h3 := My dS.inj _ _ h3
 subst h3
 subst h4
 subst h5
 subst h6
 subst h7
 have h8 := My Tl.inj _ _ h8
 subst h8
 rfl⟩
open IntKind renaming wrap → wI
def EW (_ : Nat) (p0 : List Int) (p1 : Int) : Option Int :=
 AR ((decide (p1 < (p0.length : Int))))
  ((Bh p0 p1).bind fun v2 =>
  some ((wI .i64 v2)))
  (some 0)
def Bc (_ : Nat) (p0 : Ao) : Option Bool :=
 Bi (fun (v1 : Bool) =>
  some v1)
 fun j1 =>
 AR ((p0.gd == 3))
  (j1 true)
  (j1 (p0.gd == 4))
def CM (N : Nat) (p1 : Int) (p2 : Int) (p3 : Bool) (v1 : (List (List Bool)) × Int) (j4 : ((List Bool)) → Option ((List (List Bool)))) : Nat → ((List Bool) × Int) → Option ((List (List Bool)))
 | 0, _ => none
 | n4 + 1, v4 =>
  AR ((decide (v4.2 < p1)))
   (Bi (fun (v7 : (List Bool)) =>
    CM N p1 p2 p3 v1 j4 n4 (v7, (wI .i64 (v4.2 + 1))))
   fun j7 =>
   AR p3
    (AR ((v1.2 == v4.2))
     ((Dt (v4.1.length + (([true] : List Bool)).length ≤ CP)).bind fun _ =>
     j7 (v4.1 ++ (([true] : List Bool))))
     ((Dt (0 ≤ (wI .i64 ((wI .i64 (3 * v1.2)) + v4.2)))).bind fun _ =>
     (Dt (v4.1.length + (([((zY ((GW .u16 p2 ((wI .i64 ((wI .i64 (3 * v1.2)) + v4.2))))) 2) == 0)] : List Bool)).length ≤ CP)).bind fun _ =>
     j7 (v4.1 ++ (([((zY ((GW .u16 p2 ((wI .i64 ((wI .i64 (3 * v1.2)) + v4.2))))) 2) == 0)] : List Bool)))))
    ((Dt (0 ≤ (wI .i64 ((wI .i64 (3 * v1.2)) + v4.2)))).bind fun _ =>
    (Dt (v4.1.length + (([((zY ((GW .u16 p2 ((wI .i64 ((wI .i64 (3 * v1.2)) + v4.2))))) 2) == 0)] : List Bool)).length ≤ CP)).bind fun _ =>
    j7 (v4.1 ++ (([((zY ((GW .u16 p2 ((wI .i64 ((wI .i64 (3 * v1.2)) + v4.2))))) 2) == 0)] : List Bool)))))
   (j4 v4.1)
def CL (N : Nat) (p0 : Int) (p1 : Int) (p2 : Int) (p3 : Bool) (j1 : ((List (List Bool))) → Option ((List (List Bool)))) : Nat → ((List (List Bool)) × Int) → Option ((List (List Bool)))
 | 0, _ => none
 | n1 + 1, v1 =>
  AR ((decide (v1.2 < p0)))
   (CM N p1 p2 p3 v1 (fun (v5 : (List Bool)) =>
    (Dt (v1.1.length + (([v5] : List (List Bool))).length ≤ CP)).bind fun _ =>
    CL N p0 p1 p2 p3 j1 n1 (v1.1 ++ (([v5] : List (List Bool))), (wI .i64 (v1.2 + 1)))) N (([] : List Bool), 0))
   (j1 v1.1)
def EY (N : Nat) (p0 : Int) (p1 : Int) (p2 : Int) (p3 : Bool) : Option ((List (List Bool))) :=
 CL N p0 p1 p2 p3 (fun (v2 : (List (List Bool))) =>
  some v2) N (([] : List (List Bool)), 0)
def Df (N : Nat) (p0 : Bz) (j4 : ((List Int) × (List Int) × (List Int)) → Option (Ab × Bool)) : Nat → ((List Int) × (List Int) × (List Int) × Int) → Option (Ab × Bool)
 | 0, _ => none
 | n4 + 1, v4 =>
  AR ((decide (v4.2.2.2 < (p0.f9.length : Int))))
   ((Bh p0.f9 v4.2.2.2).bind fun v7 =>
   (Dt (v4.1.length + (([(wI .i64 (1 + (wI .i64 ((zY v7 3)))))] : List Int)).length ≤ CP)).bind fun _ =>
   (EW N p0.gf v4.2.2.2).bind fun v9 =>
   (Dt ((wI .i64 (1 + (wI .i64 ((zY v7 3))))) ≠ 0)).bind fun _ =>
   (Dt (v4.2.1.length + (([(zY v9 ((wI .i64 (1 + (wI .i64 ((zY v7 3)))))))] : List Int)).length ≤ CP)).bind fun _ =>
   (EW N p0.gj v4.2.2.2).bind fun v12 =>
   (Dt ((wI .i64 (1 + (wI .i64 ((zY v7 3))))) ≠ 0)).bind fun _ =>
   (Dt (v4.2.2.1.length + (([(zY v12 ((wI .i64 (1 + (wI .i64 ((zY v7 3)))))))] : List Int)).length ≤ CP)).bind fun _ =>
   Df N p0 j4 n4 (v4.1 ++ (([(wI .i64 (1 + (wI .i64 ((zY v7 3)))))] : List Int)), v4.2.1 ++ (([(zY v9 ((wI .i64 (1 + (wI .i64 ((zY v7 3)))))))] : List Int)), v4.2.2.1 ++ (([(zY v12 ((wI .i64 (1 + (wI .i64 ((zY v7 3)))))))] : List Int)), (wI .i64 (v4.2.2.2 + 1))))
   (j4 (v4.1, v4.2.1, v4.2.2.1))
def BI (N : Nat) (p0 : Bz) (v5 : (List Int) × (List Int) × (List Int)) (j15 : ((List Ao)) → Option (Ab × Bool)) : Nat → ((List Ao) × Int) → Option (Ab × Bool)
 | 0, _ => none
 | n15 + 1, v15 =>
  Bi (fun (v17 : Bool) =>
   AR v17
    ((Bh p0.gy v15.2).bind fun v20 =>
    (Dt ((v5.1.length : Int) ≠ 0)).bind fun _ =>
    (Dt ((v5.1.length : Int) ≠ 0)).bind fun _ =>
    Bi (fun (v23 : Bool) =>
     (Bh v5.1 ((zY ((wI .i64 v20.ge)) ((v5.1.length : Int))))).bind fun v26 =>
     (Bh v5.1 ((zY ((wI .i64 v20.gi)) ((v5.1.length : Int))))).bind fun v27 =>
     (EY N v26 v27 v20.gz false).bind fun v28 =>
     Bi (fun (v29 : (List (List Bool))) =>
      (Dt (v15.1.length + (([(Ao.mk ((wI .i64 (1 + (wI .i64 ((zY v20.gd 4)))))) ((zY ((wI .i64 v20.ge)) ((v5.1.length : Int)))) ((zY ((wI .i64 v20.gi)) ((v5.1.length : Int)))) v23 v28 v29)] : List Ao)).length ≤ CP)).bind fun _ =>
      BI N p0 v5 j15 n15 (v15.1 ++ (([(Ao.mk ((wI .i64 (1 + (wI .i64 ((zY v20.gd 4)))))) ((zY ((wI .i64 v20.ge)) ((v5.1.length : Int)))) ((zY ((wI .i64 v20.gi)) ((v5.1.length : Int)))) v23 v28 v29)] : List Ao)), (wI .i64 (v15.2 + 1))))
     fun j29 =>
     AR (((wI .i64 (1 + (wI .i64 ((zY v20.gd 4))))) == 4))
      ((Bh v5.1 ((zY ((wI .i64 v20.ge)) ((v5.1.length : Int))))).bind fun v31 =>
      (Bh v5.1 ((zY ((wI .i64 v20.ge)) ((v5.1.length : Int))))).bind fun v32 =>
      (EY N v31 v32 v20.gA true).bind fun v33 =>
      j29 v33)
      (j29 ([] : List (List Bool))))
    fun j23 =>
    AR v20.gl
     ((Bc N ((Ao.mk ((wI .i64 (1 + (wI .i64 ((zY v20.gd 4)))))) ((zY ((wI .i64 v20.ge)) ((v5.1.length : Int)))) ((zY ((wI .i64 v20.gi)) ((v5.1.length : Int)))) false (([] : List (List Bool))) (([] : List (List Bool)))))).bind fun v25 =>
     j23 (!v25))
     (j23 false))
    (j15 v15.1))
  fun j17 =>
  AR ((decide (v15.2 < (p0.gy.length : Int))))
   (j17 (decide (0 < (v5.1.length : Int))))
   (j17 false)
def Gw (N : Nat) (p0 : Bz) : Option (Ab × Bool) :=
 Bi (fun (v1 : Bool) =>
  AR v1
   (some ((Ab.mk (([] : List Int)) (([] : List Int)) (([] : List Int)) (([] : List Ao))), false))
   (Df N p0 (fun (v5 : (List Int) × (List Int) × (List Int)) =>
    BI N p0 v5 (fun (v16 : (List Ao)) =>
     some ((Ab.mk v5.1 v5.2.1 v5.2.2 v16), true)) N (([] : List Ao), 0)) N (([] : List Int), ([] : List Int), ([] : List Int), 0)))
 fun j1 =>
 AR ((decide (3 < (p0.f9.length : Int))))
  (j1 true)
  (j1 (decide (4 < (p0.gy.length : Int))))
def CB (N : Nat) (p0 : Ab) (v1 : (List Aa) × Int) (v4 : (List Aa) × Int) (j8 : ((List Aa)) → Option ((List Aa))) : Nat → ((List Aa) × Int) → Option ((List Aa))
 | 0, _ => none
 | n8 + 1, v8 =>
  (Bh p0.ga v1.2).bind fun v10 =>
  (Bh v10.gh v4.2).bind fun v11 =>
  AR ((decide (v8.2 < (v11.length : Int))))
   (Bi (fun (v13 : (List Aa)) =>
    CB N p0 v1 v4 j8 n8 (v13, (wI .i64 (v8.2 + 1))))
   fun j13 =>
   (Bh p0.ga v1.2).bind fun v14 =>
   (Bh v14.gh v4.2).bind fun v15 =>
   (Bh v15 v8.2).bind fun v16 =>
   AR ((!v16))
    ((Dt (v8.1.length + (([(Aa.mk v1.2 v4.2 v8.2)] : List Aa)).length ≤ CP)).bind fun _ =>
    j13 (v8.1 ++ (([(Aa.mk v1.2 v4.2 v8.2)] : List Aa))))
    (j13 v8.1))
   (j8 v8.1)
def B3 (N : Nat) (p0 : Ab) (v1 : (List Aa) × Int) (j4 : ((List Aa)) → Option ((List Aa))) : Nat → ((List Aa) × Int) → Option ((List Aa))
 | 0, _ => none
 | n4 + 1, v4 =>
  (Bh p0.ga v1.2).bind fun v6 =>
  AR ((decide (v4.2 < (v6.gh.length : Int))))
   (CB N p0 v1 v4 (fun (v9 : (List Aa)) =>
    B3 N p0 v1 j4 n4 (v9, (wI .i64 (v4.2 + 1)))) N (v4.1, 0))
   (j4 v4.1)
def BE (N : Nat) (p0 : Ab) (j1 : ((List Aa)) → Option ((List Aa))) : Nat → ((List Aa) × Int) → Option ((List Aa))
 | 0, _ => none
 | n1 + 1, v1 =>
  AR ((decide (v1.2 < (p0.ga.length : Int))))
   (B3 N p0 v1 (fun (v5 : (List Aa)) =>
    BE N p0 j1 n1 (v5, (wI .i64 (v1.2 + 1)))) N (v1.1, 0))
   (j1 v1.1)
def Dm (N : Nat) (p0 : Ab) : Option ((List Aa)) :=
 BE N p0 (fun (v2 : (List Aa)) =>
  some v2) N (([] : List Aa), 0)
def Ey (N : Nat) (p0 : List Aa) (p1 : Aa) (j1 : Unit → Option Bool) : Nat → Int → Option Bool
 | 0, _ => none
 | n1 + 1, v1 =>
  AR ((decide (v1 < (p0.length : Int))))
   ((Bh p0 v1).bind fun v4 =>
   AR (((v4.gt == p1.gt) && ((v4.gr == p1.gr) && ((v4.gu == p1.gu) && true))))
    (some true)
    (Ey N p0 p1 j1 n1 (wI .i64 (v1 + 1))))
   (j1 ())
def EO (N : Nat) (p0 : List Aa) (p1 : Aa) : Option Bool :=
 Ey N p0 p1 (fun (_ : Unit) =>
  some false) N 0
def Cy (N : Nat) (p1 : List Aa) (v4 : (List Ao) × Int) (v8 : (List (List Bool)) × Int) (j15 : ((List Bool)) → Option Ab) : Nat → ((List Bool) × Int) → Option Ab
 | 0, _ => none
 | n15 + 1, v15 =>
  AR ((decide (v15.2 < (v15.1.length : Int))))
   (Bi (fun (v18 : (List Bool)) =>
    Cy N p1 v4 v8 j15 n15 (v18, (wI .i64 (v15.2 + 1))))
   fun j18 =>
   (Bh v15.1 v15.2).bind fun v19 =>
   AR v19
    ((Bh v15.1 v15.2).bind fun _ =>
    j18 (v15.1.set ((v15.2).toNat) true))
    ((EO N p1 ((Aa.mk v4.2 v8.2 v15.2))).bind fun v22 =>
    (Bh v15.1 v15.2).bind fun _ =>
    j18 (v15.1.set ((v15.2).toNat) v22)))
   (j15 v15.1)
def Dq (N : Nat) (p0 : Ab) (p1 : List Aa) (v4 : (List Ao) × Int) (j8 : ((List (List Bool))) → Option Ab) : Nat → ((List (List Bool)) × Int) → Option Ab
 | 0, _ => none
 | n8 + 1, v8 =>
  (Bh p0.ga v4.2).bind fun v10 =>
  AR ((decide (v8.2 < (v10.gh.length : Int))))
   ((Bh p0.ga v4.2).bind fun v12 =>
   (Bh v12.gh v8.2).bind fun v13 =>
   (Dt ((([] : List Bool)).length + v13.length ≤ CP)).bind fun _ =>
   Cy N p1 v4 v8 (fun (v16 : (List Bool)) =>
    (Dt (v8.1.length + (([v16] : List (List Bool))).length ≤ CP)).bind fun _ =>
    Dq N p0 p1 v4 j8 n8 (v8.1 ++ (([v16] : List (List Bool))), (wI .i64 (v8.2 + 1)))) N ((([] : List Bool)) ++ v13, 0))
   (j8 v8.1)
def Cs (N : Nat) (p0 : Ab) (v4 : (List Ao) × Int) (j25 : ((List (List Bool))) → Option Ab) : Nat → ((List (List Bool)) × Int) → Option Ab
 | 0, _ => none
 | n25 + 1, v25 =>
  (Bh p0.ga v4.2).bind fun v27 =>
  AR ((decide (v25.2 < (v27.gk.length : Int))))
   ((Bh p0.ga v4.2).bind fun v29 =>
   (Bh v29.gk v25.2).bind fun v30 =>
   (Dt ((([] : List Bool)).length + v30.length ≤ CP)).bind fun _ =>
   (Dt (v25.1.length + (([(([] : List Bool)) ++ v30] : List (List Bool))).length ≤ CP)).bind fun _ =>
   Cs N p0 v4 j25 n25 (v25.1 ++ (([(([] : List Bool)) ++ v30] : List (List Bool))), (wI .i64 (v25.2 + 1))))
   (j25 v25.1)
def Ca (N : Nat) (p0 : Ab) (p1 : List Aa) (j4 : ((List Ao)) → Option Ab) : Nat → ((List Ao) × Int) → Option Ab
 | 0, _ => none
 | n4 + 1, v4 =>
  AR ((decide (v4.2 < (p0.ga.length : Int))))
   ((Bh p0.ga v4.2).bind fun v7 =>
   Dq N p0 p1 v4 (fun (v9 : (List (List Bool))) =>
    Cs N p0 v4 (fun (v26 : (List (List Bool))) =>
     (Dt (v4.1.length + (([(Ao.mk v7.gd v7.ge v7.gi v7.gl v9 v26)] : List Ao)).length ≤ CP)).bind fun _ =>
     Ca N p0 p1 j4 n4 (v4.1 ++ (([(Ao.mk v7.gd v7.ge v7.gi v7.gl v9 v26)] : List Ao)), (wI .i64 (v4.2 + 1)))) N (([] : List (List Bool)), 0)) N (([] : List (List Bool)), 0))
   (j4 v4.1)
def EZ (N : Nat) (p0 : Ab) (p1 : List Aa) : Option Ab :=
 (Dt ((([] : List Int)).length + p0.f9.length ≤ CP)).bind fun _ =>
 (Dt ((([] : List Int)).length + p0.gf.length ≤ CP)).bind fun _ =>
 (Dt ((([] : List Int)).length + p0.gj.length ≤ CP)).bind fun _ =>
 Ca N p0 p1 (fun (v5 : (List Ao)) =>
  some ((Ab.mk ((([] : List Int)) ++ p0.f9) ((([] : List Int)) ++ p0.gf) ((([] : List Int)) ++ p0.gj) v5))) N (([] : List Ao), 0)
def CS (N : Nat) (p0 : List (List Bool)) (p1 : Int) (p2 : Int) (j2 : Unit → Option Bool) : Nat → Int → Option Bool
 | 0, _ => none
 | n2 + 1, v2 =>
  AR ((decide (v2 < p1)))
   ((Bh p0 v2).bind fun v5 =>
   AR (((v5.length : Int) != p2))
    (some false)
    (CS N p0 p1 p2 j2 n2 (wI .i64 (v2 + 1))))
   (j2 ())
def Ed (N : Nat) (p0 : List (List Bool)) (p1 : Int) (p2 : Int) : Option Bool :=
 AR (((p0.length : Int) != p1))
  (some false)
  (CS N p0 p1 p2 (fun (_ : Unit) =>
   some true) N 0)
def Ch (N : Nat) (p1 : Ao) (j22 : Unit → Option Int) : Nat → Int → Option Int
 | 0, _ => none
 | n22 + 1, v22 =>
  AR ((decide (v22 < (p1.gk.length : Int))))
   ((Bh p1.gk v22).bind fun v25 =>
   (Bh v25 v22).bind fun v26 =>
   AR ((!v26))
    (some 1)
    (Ch N p1 j22 n22 (wI .i64 (v22 + 1))))
   (j22 ())
def FD (N : Nat) (p0 : Ab) (p1 : Ao) : Option Int :=
 Bi (fun (v1 : Bool) =>
  AR v1
   (some 1)
   (Bi (fun (v7 : Bool) =>
    AR v7
     (some 4)
     ((Bh p0.f9 p1.ge).bind fun v12 =>
     (Bh p0.f9 p1.gi).bind fun v13 =>
     (Ed N p1.gh v12 v13).bind fun v14 =>
     AR ((!v14))
      (some 6)
      (AR ((p1.gd != 4))
       (AR (((p1.gk.length : Int) != 0))
        (some 6)
        (some 0))
       ((Bh p0.f9 p1.ge).bind fun v18 =>
       (Bh p0.f9 p1.ge).bind fun v19 =>
       (Ed N p1.gk v18 v19).bind fun v20 =>
       AR ((!v20))
        (some 6)
        (Ch N p1 (fun (_ : Unit) =>
         some 0) N 0)))))
   fun j7 =>
   AR ((decide (p1.ge < 0)))
    (j7 true)
    (AR ((decide ((p0.f9.length : Int) ≤ p1.ge)))
     (j7 true)
     (AR ((decide (p1.gi < 0)))
      (j7 true)
      (j7 (decide ((p0.f9.length : Int) ≤ p1.gi)))))))
 fun j1 =>
 AR ((decide (p1.gd < 1)))
  (j1 true)
  (AR ((decide (4 < p1.gd)))
   (j1 true)
   (AR p1.gl
    ((Bc N p1).bind fun v5 =>
    j1 v5)
    (j1 false)))
def Bq (N : Nat) (p0 : Ab) (j7 : Unit → Option Int) : Nat → Int → Option Int
 | 0, _ => none
 | n7 + 1, v7 =>
  AR ((decide (v7 < (p0.f9.length : Int))))
   ((Bh p0.f9 v7).bind fun v10 =>
   Bi (fun (v11 : Bool) =>
    AR v11
     (some 7)
     (Bq N p0 j7 n7 (wI .i64 (v7 + 1))))
   fun j11 =>
   AR ((decide (v10 < 1)))
    (j11 true)
    (AR ((decide (6 < v10)))
     (j11 true)
     ((Bh p0.gf v7).bind fun v14 =>
     AR ((decide (v14 < 0)))
      (j11 true)
      ((Bh p0.gf v7).bind fun v16 =>
      AR ((decide (v10 ≤ v16)))
       (j11 true)
       ((Bh p0.gj v7).bind fun v18 =>
       AR ((decide (v18 < 0)))
        (j11 true)
        ((Bh p0.gj v7).bind fun v20 =>
        j11 (decide (v10 ≤ v20))))))))
   (j7 ())
def Bg (N : Nat) (p0 : Ab) (j22 : Unit → Option Int) : Nat → Int → Option Int
 | 0, _ => none
 | n22 + 1, v22 =>
  AR ((decide (v22 < (p0.ga.length : Int))))
   ((Bh p0.ga v22).bind fun v25 =>
   (FD N p0 v25).bind fun v26 =>
   AR ((v26 != 0))
    (some v26)
    (Bg N p0 j22 n22 (wI .i64 (v22 + 1))))
   (j22 ())
def Cb (N : Nat) (p0 : Ab) : Option Int :=
 Bi (fun (v1 : Bool) =>
  AR v1
   (some 3)
   (Bi (fun (v4 : Bool) =>
    AR v4
     (some 6)
     (Bq N p0 (fun (_ : Unit) =>
      Bg N p0 (fun (_ : Unit) =>
       some 0) N 0) N 0))
   fun j4 =>
   AR (((p0.gf.length : Int) != (p0.f9.length : Int)))
    (j4 true)
    (j4 ((p0.gj.length : Int) != (p0.f9.length : Int)))))
 fun j1 =>
 AR ((decide (6 < (p0.f9.length : Int))))
  (j1 true)
  (j1 (decide (12 < (p0.ga.length : Int))))
def Cv (N : Nat) (p0 : Ab) (j3 : ((List Int) × (List Int)) → Option (Ae × Int)) : Nat → ((List Int) × (List Int) × Int) → Option (Ae × Int)
 | 0, _ => none
 | n3 + 1, v3 =>
  AR ((decide (v3.2.2 < (p0.f9.length : Int))))
   ((Bh p0.gf v3.2.2).bind fun v6 =>
   (Dt (v3.1.length + (([v6] : List Int)).length ≤ CP)).bind fun _ =>
   (Dt (v3.2.1.length + (([(-1)] : List Int)).length ≤ CP)).bind fun _ =>
   Cv N p0 j3 n3 (v3.1 ++ (([v6] : List Int)), v3.2.1 ++ (([(-1)] : List Int)), (wI .i64 (v3.2.2 + 1))))
   (j3 (v3.1, v3.2.1))
def Bo (N : Nat) (p0 : Ab) (j9 : ((List Int)) → Option (Ae × Int)) : Nat → ((List Int) × Int) → Option (Ae × Int)
 | 0, _ => none
 | n9 + 1, v9 =>
  AR ((decide (v9.2 < (p0.ga.length : Int))))
   (Bi (fun (v12 : Int) =>
    (Dt (v9.1.length + (([v12] : List Int)).length ≤ CP)).bind fun _ =>
    Bo N p0 j9 n9 (v9.1 ++ (([v12] : List Int)), (wI .i64 (v9.2 + 1))))
   fun j12 =>
   (Bh p0.ga v9.2).bind fun v13 =>
   (Bc N v13).bind fun v14 =>
   AR v14
    ((Bh p0.ga v9.2).bind fun v16 =>
    (Bh p0.gf v16.ge).bind fun v17 =>
    (Dt (0 ≤ v17)).bind fun _ =>
    j12 (EI .u8 1 v17))
    (j12 0))
   (j9 v9.1)
def Ep (N : Nat) (p0 : Ab) : Option (Ae × Int) :=
 (Cb N p0).bind fun v1 =>
 AR ((v1 != 0))
  (some ((Ae.mk (([] : List Int)) (([] : List Int)) (([] : List Int))), v1))
  (Cv N p0 (fun (v4 : (List Int) × (List Int)) =>
   Bo N p0 (fun (v10 : (List Int)) =>
    some ((Ae.mk v4.1 v4.2 v10), 0)) N (([] : List Int), 0)) N (([] : List Int), ([] : List Int), 0))
def Fb (_ : Nat) (p0 : Ae) : Option Ae :=
 (Dt ((([] : List Int)).length + p0.gb.length ≤ CP)).bind fun _ =>
 (Dt ((([] : List Int)).length + p0.f7.length ≤ CP)).bind fun _ =>
 (Dt ((([] : List Int)).length + p0.gc.length ≤ CP)).bind fun _ =>
 some ((Ae.mk ((([] : List Int)) ++ p0.gb) ((([] : List Int)) ++ p0.f7) ((([] : List Int)) ++ p0.gc)))
def CZ (N : Nat) (p0 : Ae) (j1 : Int → Option ((List Ae))) : Nat → (Int × Int) → Option ((List Ae))
 | 0, _ => none
 | n1 + 1, v1 =>
  AR ((decide (v1.2 < (p0.f7.length : Int))))
   (Bi (fun (v4 : Int) =>
    CZ N p0 j1 n1 (v4, (wI .i64 (v1.2 + 1))))
   fun j4 =>
   (Bh p0.f7 v1.2).bind fun v5 =>
   AR ((decide (0 ≤ v5)))
    (j4 (wI .i64 (v1.1 + 1)))
    (j4 v1.1))
   (j1 v1.1)
def Ce (N : Nat) (p0 : Ae) (v7 : (List Ae) × Int) (j12 : ((List Int)) → Option ((List Ae))) : Nat → ((List Int) × Int × Int) → Option ((List Ae))
 | 0, _ => none
 | n12 + 1, v12 =>
  AR ((decide (v12.2.2 < (p0.f7.length : Int))))
   (Bi (fun (v15 : (List Int) × Int) =>
    Ce N p0 v7 j12 n12 (v15.1, v15.2, (wI .i64 (v12.2.2 + 1))))
   fun j15 =>
   (Bh p0.f7 v12.2.2).bind fun v16 =>
   AR ((decide (v16 < 0)))
    (j15 (v12.1, v12.2.1))
    (Bi (fun (v18 : (List Int)) =>
     j15 (v18, (wI .i64 (v12.2.1 + 1))))
    fun j18 =>
    (Dt (0 ≤ v12.2.1)).bind fun _ =>
    AR (((zY ((GW .i64 v7.2 v12.2.1)) 2) == 1))
     ((Bh v12.1 v12.2.2).bind fun _ =>
     j18 (v12.1.set ((v12.2.2).toNat) ((-1))))
     (j18 v12.1)))
   (j12 v12.1)
def BH (N : Nat) (p0 : Ae) (v2 : Int) (j7 : ((List Ae)) → Option ((List Ae))) : Nat → ((List Ae) × Int) → Option ((List Ae))
 | 0, _ => none
 | n7 + 1, v7 =>
  (Dt (0 ≤ v2)).bind fun _ =>
  AR ((decide (v7.2 < (EI .i64 1 v2))))
   ((Fb N p0).bind fun v11 =>
   Ce N p0 v7 (fun (v13 : (List Int)) =>
    (Dt (v7.1.length + (([(Ae.mk v11.gb v13 v11.gc)] : List Ae)).length ≤ CP)).bind fun _ =>
    BH N p0 v2 j7 n7 (v7.1 ++ (([(Ae.mk v11.gb v13 v11.gc)] : List Ae)), (wI .i64 (v7.2 + 1)))) N (v11.f7, 0, 0))
   (j7 v7.1)
def Fn (N : Nat) (p0 : Ae) : Option ((List Ae)) :=
 CZ N p0 (fun (v2 : Int) =>
  BH N p0 v2 (fun (v8 : (List Ae)) =>
   some v8) N (([] : List Ae), 0)) N (0, 0)
def Cc (_ : Nat) (p0 : Ae) (p1 : Int) : Option Int :=
 (Bh p0.gb p1).bind fun v1 =>
 (Dt (0 ≤ v1)).bind fun _ =>
 Bi (fun (v3 : Int) =>
  some v3)
 fun j3 =>
 (Bh p0.f7 p1).bind fun v4 =>
 AR ((decide (0 ≤ v4)))
  ((Bh p0.f7 p1).bind fun v6 =>
  (Dt (0 ≤ v6)).bind fun _ =>
  j3 (Q3 .u8 ((EI .u8 1 v1)) ((EI .u8 1 v6))))
  (j3 (EI .u8 1 v1))
def CV (_ : Nat) (p0 : Int) (p1 : Int) : Option Bool :=
 (Dt (0 ≤ p1)).bind fun _ =>
 some (((HG .u8 ((GW .u8 p0 p1)) 1) == 1))
def Bv (N : Nat) (p0 : Ab) (p1 : Ae) (v1 : (List Aa) × Int) (v4 : Ao) (v10 : (List Aa) × Int) (j17 : ((List Aa) × Bool) → Option ((List Aa))) : Nat → ((List Aa) × Bool × Int) → Option ((List Aa))
 | 0, _ => none
 | n17 + 1, v17 =>
  (Bh p0.f9 v4.gi).bind fun v19 =>
  AR ((decide (v17.2.2 < v19)))
   (Bi (fun (v21 : (List Aa) × Bool) =>
    Bv N p0 p1 v1 v4 v10 j17 n17 (v21.1, v21.2, (wI .i64 (v17.2.2 + 1))))
   fun j21 =>
   (Cc N p1 v4.gi).bind fun v22 =>
   (CV N v22 v17.2.2).bind fun v23 =>
   AR ((!v23))
    (j21 (v17.1, v17.2.1))
    (Bi (fun (v25 : Bool) =>
     Bi (fun (v29 : Bool) =>
      AR v29
       ((Dt (v17.1.length + (([(Aa.mk v1.2 v10.2 v17.2.2)] : List Aa)).length ≤ CP)).bind fun _ =>
       j21 (v17.1 ++ (([(Aa.mk v1.2 v10.2 v17.2.2)] : List Aa)), v25))
       (j21 (v17.1, v25)))
     fun j29 =>
     AR ((!v4.gl))
      ((Bh v4.gh v10.2).bind fun v31 =>
      (Bh v31 v17.2.2).bind fun v32 =>
      j29 (!v32))
      (j29 false))
    fun j25 =>
    AR v17.2.1
     (j25 true)
     ((Bh v4.gh v10.2).bind fun v27 =>
     (Bh v27 v17.2.2).bind fun v28 =>
     j25 v28)))
   (j17 (v17.1, v17.2.1))
def BN (N : Nat) (p0 : Ab) (p1 : Ae) (v1 : (List Aa) × Int) (v4 : Ao) (v6 : Int) (j10 : ((List Aa)) → Option ((List Aa))) : Nat → ((List Aa) × Int) → Option ((List Aa))
 | 0, _ => none
 | n10 + 1, v10 =>
  (Bh p0.f9 v4.ge).bind fun v12 =>
  AR ((decide (v10.2 < v12)))
   (Bi (fun (v14 : (List Aa)) =>
    BN N p0 p1 v1 v4 v6 j10 n10 (v14, (wI .i64 (v10.2 + 1))))
   fun j14 =>
   (CV N v6 v10.2).bind fun v15 =>
   AR ((!v15))
    (j14 v10.1)
    (Bv N p0 p1 v1 v4 v10 (fun (v18 : (List Aa) × Bool) =>
     Bi (fun (v35 : Bool) =>
      AR v35
       ((Dt (v18.1.length + (([(Aa.mk v1.2 v10.2 ((-1)))] : List Aa)).length ≤ CP)).bind fun _ =>
       j14 (v18.1 ++ (([(Aa.mk v1.2 v10.2 ((-1)))] : List Aa))))
       (j14 v18.1))
     fun j35 =>
     AR v4.gl
      (j35 (!v18.2))
      (j35 false)) N (v10.1, false, 0)))
   (j10 v10.1)
def C9 (N : Nat) (p0 : Ab) (p1 : Ae) (j1 : ((List Aa)) → Option ((List Aa))) : Nat → ((List Aa) × Int) → Option ((List Aa))
 | 0, _ => none
 | n1 + 1, v1 =>
  AR ((decide (v1.2 < (p0.ga.length : Int))))
   ((Bh p0.ga v1.2).bind fun v4 =>
   (Cc N p1 v4.ge).bind fun v5 =>
   Bi (fun (v6 : Int) =>
    BN N p0 p1 v1 v4 v6 (fun (v11 : (List Aa)) =>
     C9 N p0 p1 j1 n1 (v11, (wI .i64 (v1.2 + 1)))) N (v1.1, 0))
   fun j6 =>
   (Bc N v4).bind fun v7 =>
   AR v7
    ((Bh p1.gc v1.2).bind fun v9 =>
    j6 v9)
    (j6 v5))
   (j1 v1.1)
def FC (N : Nat) (p0 : Ab) (p1 : Ae) : Option ((List Aa)) :=
 C9 N p0 p1 (fun (v2 : (List Aa)) =>
  some v2) N (([] : List Aa), 0)
def Fc (N : Nat) (p0 : Ab) (p1 : Ae) : Option Bool :=
 (FC N p0 p1).bind fun v1 =>
 some (((v1.length : Int) == 0))
def Cn (N : Nat) (p0 : Ab) (v1 : (List Ae)) (j2 : Unit → Option Bool) : Nat → Int → Option Bool
 | 0, _ => none
 | n2 + 1, v2 =>
  AR ((decide (v2 < (v1.length : Int))))
   ((Bh v1 v2).bind fun v5 =>
   (Fc N p0 v5).bind fun v6 =>
   AR ((!v6))
    (some false)
    (Cn N p0 v1 j2 n2 (wI .i64 (v2 + 1))))
   (j2 ())
def C2 (N : Nat) (p0 : Ab) (p1 : Ae) : Option Bool :=
 (Fn N p1).bind fun v1 =>
 Cn N p0 v1 (fun (_ : Unit) =>
  some true) N 0
def Cu (N : Nat) (p0 : Ab) (p1 : Ae) (j7 : Unit → Option Int) : Nat → Int → Option Int
 | 0, _ => none
 | n7 + 1, v7 =>
  AR ((decide (v7 < (p0.f9.length : Int))))
   (Bi (fun (v10 : Bool) =>
    AR v10
     (some 7)
     ((Bh p1.gb v7).bind fun v21 =>
     (Bh p1.f7 v7).bind fun v22 =>
     AR ((v21 == v22))
      (some 1)
      (Cu N p0 p1 j7 n7 (wI .i64 (v7 + 1)))))
   fun j10 =>
   (Bh p1.gb v7).bind fun v11 =>
   AR ((decide (v11 < 0)))
    (j10 true)
    ((Bh p1.gb v7).bind fun v13 =>
    (Bh p0.f9 v7).bind fun v14 =>
    AR ((decide (v14 ≤ v13)))
     (j10 true)
     ((Bh p1.f7 v7).bind fun v16 =>
     AR ((decide (v16 < (-1))))
      (j10 true)
      ((Bh p1.f7 v7).bind fun v18 =>
      (Bh p0.f9 v7).bind fun v19 =>
      j10 (decide (v19 ≤ v18))))))
   (j7 ())
def Cj (N : Nat) (p0 : Ab) (p1 : Ae) (j24 : Unit → Option Int) : Nat → Int → Option Int
 | 0, _ => none
 | n24 + 1, v24 =>
  AR ((decide (v24 < (p0.ga.length : Int))))
   ((Bh p0.ga v24).bind fun v27 =>
   (Bh p0.f9 v27.ge).bind fun v28 =>
   (Dt (0 ≤ v28)).bind fun _ =>
   Bi (fun (v30 : Bool) =>
    AR v30
     (some 1)
     (Cj N p0 p1 j24 n24 (wI .i64 (v24 + 1))))
   fun j30 =>
   (Bc N v27).bind fun v31 =>
   AR ((!v31))
    ((Bh p1.gc v24).bind fun v33 =>
    AR ((v33 != 0))
     (j30 true)
     ((Bc N v27).bind fun v35 =>
     AR v35
      ((Bh p1.gc v24).bind fun v37 =>
      AR (((DX .u8 v37 ((wI .u8 ((EI .u8 1 v28) - 1)))) != 0))
       (j30 true)
       ((Cc N p1 v27.ge).bind fun v39 =>
       (Bh p1.gc v24).bind fun v40 =>
       j30 ((DX .u8 v39 v40) != 0)))
      (j30 false)))
    ((Bc N v27).bind fun v41 =>
    AR v41
     ((Bh p1.gc v24).bind fun v43 =>
     AR (((DX .u8 v43 ((wI .u8 ((EI .u8 1 v28) - 1)))) != 0))
      (j30 true)
      ((Cc N p1 v27.ge).bind fun v45 =>
      (Bh p1.gc v24).bind fun v46 =>
      j30 ((DX .u8 v45 v46) != 0)))
     (j30 false)))
   (j24 ())
def DO (N : Nat) (p0 : Ab) (p1 : Ae) : Option Int :=
 (Cb N p0).bind fun v1 =>
 AR ((v1 != 0))
  (some v1)
  (Bi (fun (v3 : Bool) =>
   AR v3
    (some 6)
    (Cu N p0 p1 (fun (_ : Unit) =>
     Cj N p0 p1 (fun (_ : Unit) =>
      some 0) N 0) N 0))
  fun j3 =>
  AR (((p1.gb.length : Int) != (p0.f9.length : Int)))
   (j3 true)
   (AR (((p1.f7.length : Int) != (p0.f9.length : Int)))
    (j3 true)
    (j3 ((p1.gc.length : Int) != (p0.ga.length : Int)))))
def Fx (_ : Nat) (p0 : Af) : Option Bool :=
 Bi (fun (v1 : Bool) =>
  some v1)
 fun j1 =>
 AR ((decide (1 ≤ p0.gd)))
  (AR ((decide (p0.gd ≤ 4)))
   (AR ((decide (0 ≤ p0.gg)))
    (AR ((decide (0 ≤ p0.gp)))
     (AR ((p0.gd == 1))
      (j1 true)
      (j1 (p0.gp == 0)))
     (j1 false))
    (j1 false))
   (j1 false))
  (j1 false)
def Ck (N : Nat) (p0 : Ab) (p2 : Af) (j12 : ((List Int)) → Option (Ae × Bool)) : Nat → ((List Int) × Int) → Option (Ae × Bool)
 | 0, _ => none
 | n12 + 1, v12 =>
  AR ((decide (v12.2 < (p0.ga.length : Int))))
   (Bi (fun (v15 : (List Int)) =>
    Ck N p0 p2 j12 n12 (v15, (wI .i64 (v12.2 + 1))))
   fun j15 =>
   Bi (fun (v16 : Bool) =>
    AR v16
     ((Bh v12.1 v12.2).bind fun v22 =>
     (Dt (0 ≤ p2.gp)).bind fun _ =>
     (Bh v12.1 v12.2).bind fun _ =>
     j15 (v12.1.set ((v12.2).toNat) ((Q3 .u8 v22 ((EI .u8 1 p2.gp))))))
     (j15 v12.1))
   fun j16 =>
   (Bh p0.ga v12.2).bind fun v17 =>
   AR ((v17.ge == p2.gg))
    ((Bh p0.ga v12.2).bind fun v19 =>
    (Bc N v19).bind fun v20 =>
    j16 v20)
    (j16 false))
   (j12 v12.1)
def BP (N : Nat) (p0 : Ab) (p1 : Ae) (p2 : Af) (v32 : Ao) (v35 : Int) (j38 : Unit → Option (Ae × Bool)) : Nat → Int → Option (Ae × Bool)
 | 0, _ => none
 | n38 + 1, v38 =>
  (Bh p0.f9 v32.ge).bind fun v40 =>
  AR ((decide (v38 < v40)))
   (Bi (fun (v42 : Bool) =>
    Bi (fun (v47 : Bool) =>
     AR v47
      (some ((Ae.mk (([] : List Int)) (([] : List Int)) (([] : List Int))), false))
      (BP N p0 p1 p2 v32 v35 j38 n38 (wI .i64 (v38 + 1))))
    fun j47 =>
    AR v42
     (AR ((v32.gd == 4))
      ((Bh v32.gk v38).bind fun v50 =>
      (Bh p1.gb v32.ge).bind fun v51 =>
      (Bh v50 v51).bind fun v52 =>
      j47 (!v52))
      (j47 false))
     (j47 false))
   fun j42 =>
   (Bh p1.gc p2.gg).bind fun v43 =>
   (CV N v43 v38).bind fun v44 =>
   AR v44
    ((CV N v35 v38).bind fun v46 =>
    j42 (!v46))
    (j42 false))
   (j38 ())
def Dd (N : Nat) (p0 : Ab) (p1 : Ae) (p2 : Af) : Option (Ae × Bool) :=
 (Dt ((([] : List Int)).length + p1.gb.length ≤ CP)).bind fun _ =>
 (Dt ((([] : List Int)).length + p1.f7.length ≤ CP)).bind fun _ =>
 (Dt ((([] : List Int)).length + p1.gc.length ≤ CP)).bind fun _ =>
 Bi (fun (v4 : (List Int) × (List Int) × (List Int)) =>
  some ((Ae.mk v4.1 v4.2.1 v4.2.2), true))
 fun j4 =>
 AR ((p2.gd == 1))
  (Bi (fun (v6 : Bool) =>
   AR v6
    (some ((Ae.mk (([] : List Int)) (([] : List Int)) (([] : List Int))), false))
    ((Bh ((([] : List Int)) ++ p1.f7) p2.gg).bind fun _ =>
    Ck N p0 p2 (fun (v13 : (List Int)) =>
     j4 ((([] : List Int)) ++ p1.gb, ((([] : List Int)) ++ p1.f7).set ((p2.gg).toNat) p2.gp, v13)) N ((([] : List Int)) ++ p1.gc, 0)))
  fun j6 =>
  (Bh p1.f7 p2.gg).bind fun v7 =>
  AR ((decide (0 ≤ v7)))
   (j6 true)
   ((Bh p1.gb p2.gg).bind fun v9 =>
   j6 (p2.gp == v9)))
  (AR ((p2.gd == 2))
   ((Bh p1.f7 p2.gg).bind fun v26 =>
   AR ((decide (v26 < 0)))
    (some ((Ae.mk (([] : List Int)) (([] : List Int)) (([] : List Int))), false))
    ((Bh p1.f7 p2.gg).bind fun v28 =>
    (Bh ((([] : List Int)) ++ p1.gb) p2.gg).bind fun _ =>
    (Bh ((([] : List Int)) ++ p1.f7) p2.gg).bind fun _ =>
    j4 (((([] : List Int)) ++ p1.gb).set ((p2.gg).toNat) v28, ((([] : List Int)) ++ p1.f7).set ((p2.gg).toNat) ((-1)), (([] : List Int)) ++ p1.gc)))
   (AR ((p2.gd == 3))
    ((Bh p0.ga p2.gg).bind fun v32 =>
    (Bc N v32).bind fun v33 =>
    AR ((!v33))
     (some ((Ae.mk (([] : List Int)) (([] : List Int)) (([] : List Int))), false))
     ((Cc N p1 v32.ge).bind fun v35 =>
     (Bh p1.gc p2.gg).bind fun v36 =>
     AR ((v36 == v35))
      (some ((Ae.mk (([] : List Int)) (([] : List Int)) (([] : List Int))), false))
      (BP N p0 p1 p2 v32 v35 (fun (_ : Unit) =>
       (Bh ((([] : List Int)) ++ p1.gc) p2.gg).bind fun _ =>
       j4 ((([] : List Int)) ++ p1.gb, (([] : List Int)) ++ p1.f7, ((([] : List Int)) ++ p1.gc).set ((p2.gg).toNat) v35)) N 0)))
    ((Bh p1.f7 p2.gg).bind fun v55 =>
    AR ((decide (v55 < 0)))
     (some ((Ae.mk (([] : List Int)) (([] : List Int)) (([] : List Int))), false))
     ((Bh ((([] : List Int)) ++ p1.f7) p2.gg).bind fun _ =>
     j4 ((([] : List Int)) ++ p1.gb, ((([] : List Int)) ++ p1.f7).set ((p2.gg).toNat) ((-1)), (([] : List Int)) ++ p1.gc)))))
def FB (N : Nat) (p0 : Ab) (p1 : Ae) (p2 : Af) : Option (Ae × Int) :=
 (DO N p0 p1).bind fun v1 =>
 AR ((v1 != 0))
  (some ((Ae.mk (([] : List Int)) (([] : List Int)) (([] : List Int))), v1))
  ((Fx N p2).bind fun v3 =>
  AR ((!v3))
   (some ((Ae.mk (([] : List Int)) (([] : List Int)) (([] : List Int))), 1))
   (Bi (fun (v5 : Bool) =>
    AR v5
     (some ((Ae.mk (([] : List Int)) (([] : List Int)) (([] : List Int))), 4))
     (Bi (fun (v11 : Bool) =>
      AR v11
       (some ((Ae.mk (([] : List Int)) (([] : List Int)) (([] : List Int))), 4))
       ((Dd N p0 p1 p2).bind fun v15 =>
       AR ((!v15.2))
        (some ((Ae.mk (([] : List Int)) (([] : List Int)) (([] : List Int))), 11))
        (some (v15.1, 0))))
     fun j11 =>
     AR ((p2.gd == 1))
      ((Bh p0.f9 p2.gg).bind fun v13 =>
      j11 (decide (v13 ≤ p2.gp)))
      (j11 false)))
   fun j5 =>
   AR ((p2.gd == 3))
    (AR ((decide ((p0.ga.length : Int) ≤ p2.gg)))
     (j5 true)
     (AR ((p2.gd != 3))
      (j5 (decide ((p0.f9.length : Int) ≤ p2.gg)))
      (j5 false)))
    (AR ((p2.gd != 3))
     (j5 (decide ((p0.f9.length : Int) ≤ p2.gg)))
     (j5 false))))
def Ct (N : Nat) (p0 : Ab) (p1 : Ae) (v1 : (List Af) × Int) (v4 : (List Af) × Int) (j7 : ((List Af)) → Option ((List Af))) : Nat → ((List Af) × Int) → Option ((List Af))
 | 0, _ => none
 | n7 + 1, v7 =>
  AR ((decide (v7.2 < 6)))
   (Bi (fun (v10 : (List Af)) =>
    Ct N p0 p1 v1 v4 j7 n7 (v10, (wI .i64 (v7.2 + 1))))
   fun j10 =>
   (FB N p0 p1 ((Af.mk v1.2 v4.2 v7.2))).bind fun v11 =>
   AR ((v11.2 == 0))
    ((Dt (v7.1.length + (([(Af.mk v1.2 v4.2 v7.2)] : List Af)).length ≤ CP)).bind fun _ =>
    j10 (v7.1 ++ (([(Af.mk v1.2 v4.2 v7.2)] : List Af))))
    (j10 v7.1))
   (j7 v7.1)
def Cw (N : Nat) (p0 : Ab) (p1 : Ae) (v1 : (List Af) × Int) (j4 : ((List Af)) → Option ((List Af))) : Nat → ((List Af) × Int) → Option ((List Af))
 | 0, _ => none
 | n4 + 1, v4 =>
  AR ((decide (v4.2 < (Xx ((p0.f9.length : Int)) ((p0.ga.length : Int))))))
   (Ct N p0 p1 v1 v4 (fun (v8 : (List Af)) =>
    Cw N p0 p1 v1 j4 n4 (v8, (wI .i64 (v4.2 + 1)))) N (v4.1, 0))
   (j4 v4.1)
def BD (N : Nat) (p0 : Ab) (p1 : Ae) (j1 : ((List Af)) → Option ((List Af))) : Nat → ((List Af) × Int) → Option ((List Af))
 | 0, _ => none
 | n1 + 1, v1 =>
  AR ((decide (v1.2 ≤ 3)))
   (Cw N p0 p1 v1 (fun (v5 : (List Af)) =>
    BD N p0 p1 j1 n1 (v5, (wI .i64 (v1.2 + 1)))) N (v1.1, 0))
   (j1 v1.1)
def FA (N : Nat) (p0 : Ab) (p1 : Ae) : Option ((List Af)) :=
 BD N p0 p1 (fun (v2 : (List Af)) =>
  some v2) N (([] : List Af), 1)
def DY (N : Nat) (p0 : List Int) (p1 : List Int) (j1 : Unit → Option Int) : Nat → Int → Option Int
 | 0, _ => none
 | n1 + 1, v1 =>
  Bi (fun (v3 : Bool) =>
   AR v3
    ((Bh p0 v1).bind fun v6 =>
    (Bh p1 v1).bind fun v7 =>
    AR ((decide (v6 < v7)))
     (some ((-1)))
     ((Bh p0 v1).bind fun v9 =>
     (Bh p1 v1).bind fun v10 =>
     AR ((decide (v10 < v9)))
      (some 1)
      (DY N p0 p1 j1 n1 (wI .i64 (v1 + 1)))))
    (j1 ()))
  fun j3 =>
  AR ((decide (v1 < (p0.length : Int))))
   (j3 (decide (v1 < (p1.length : Int))))
   (j3 false)
def D2 (N : Nat) (p0 : List Int) (p1 : List Int) : Option Int :=
 DY N p0 p1 (fun (_ : Unit) =>
  AR ((decide ((p0.length : Int) < (p1.length : Int))))
   (some ((-1)))
   (AR ((decide ((p1.length : Int) < (p0.length : Int))))
    (some 1)
    (some 0))) N 0
def Dj (N : Nat) (p0 : List Int) (j1 : ((List Int)) → Option ((List Int))) : Nat → ((List Int) × Int) → Option ((List Int))
 | 0, _ => none
 | n1 + 1, v1 =>
  AR ((decide (v1.2 < (p0.length : Int))))
   ((Bh p0 v1.2).bind fun v4 =>
   (Dt (v1.1.length + (([(wI .i64 v4)] : List Int)).length ≤ CP)).bind fun _ =>
   Dj N p0 j1 n1 (v1.1 ++ (([(wI .i64 v4)] : List Int)), (wI .i64 (v1.2 + 1))))
   (j1 v1.1)
def DT (N : Nat) (p0 : List Int) : Option ((List Int)) :=
 Dj N p0 (fun (v2 : (List Int)) =>
  some v2) N (([] : List Int), 0)
def EQ (N : Nat) (p0 : Ae) (p1 : Ae) : Option Int :=
 (D2 N p0.gb p1.gb).bind fun v1 =>
 AR ((v1 != 0))
  (some v1)
  ((D2 N p0.f7 p1.f7).bind fun v3 =>
  AR ((v3 != 0))
   (some v3)
   ((DT N p0.gc).bind fun v5 =>
   (DT N p1.gc).bind fun v6 =>
   (D2 N v5 v6).bind fun v7 =>
   some v7))
def Fy (N : Nat) (p0 : Ae) (p1 : Ae) : Option Bool :=
 (EQ N p0 p1).bind fun v1 =>
 some ((v1 == 0))
def CE (N : Nat) (p0 : List AF) (p1 : Ae) (j1 : Unit → Option Int) : Nat → Int → Option Int
 | 0, _ => none
 | n1 + 1, v1 =>
  AR ((decide (v1 < (p0.length : Int))))
   ((Bh p0 v1).bind fun v4 =>
   (Fy N ((Ae.mk v4.gx.gb v4.gx.f7 v4.gx.gc)) p1).bind fun v5 =>
   AR v5
    (some v1)
    (CE N p0 p1 j1 n1 (wI .i64 (v1 + 1))))
   (j1 ())
def EV (N : Nat) (p0 : List AF) (p1 : Ae) : Option Int :=
 CE N p0 p1 (fun (_ : Unit) =>
  some ((-1))) N 0
def BY (N : Nat) (p0 : Ab) (p2 : Int) (v1 : (List AF) × Int) (v5 : (List Af)) (j6 : ((List AF)) → Option ((List AF) × Bool)) : Nat → ((List AF) × Int) → Option ((List AF) × Bool)
 | 0, _ => none
 | n6 + 1, v6 =>
  AR ((decide (v6.2 < (v5.length : Int))))
   ((Bh v6.1 v1.2).bind fun v9 =>
   (Bh v5 v6.2).bind fun v10 =>
   (Dd N p0 ((Ae.mk v9.gx.gb v9.gx.f7 v9.gx.gc)) v10).bind fun v11 =>
   Bi (fun (v12 : (List AF)) =>
    AR ((decide (p2 < (v12.length : Int))))
     (some (([] : List AF), false))
     (BY N p0 p2 v1 v5 j6 n6 (v12, (wI .i64 (v6.2 + 1)))))
   fun j12 =>
   Bi (fun (v13 : Bool) =>
    AR v13
     ((Bh v5 v6.2).bind fun v18 =>
     (Dt (v6.1.length + (([(AF.mk v11.1 v1.2 v18)] : List AF)).length ≤ CP)).bind fun _ =>
     j12 (v6.1 ++ (([(AF.mk v11.1 v1.2 v18)] : List AF))))
     (j12 v6.1))
   fun j13 =>
   (C2 N p0 v11.1).bind fun v14 =>
   AR v14
    ((EV N v6.1 v11.1).bind fun v16 =>
    j13 (decide (v16 < 0)))
    (j13 false))
   (j6 v6.1)
def BZ (N : Nat) (p0 : Ab) (p2 : Int) (j1 : ((List AF)) → Option ((List AF) × Bool)) : Nat → ((List AF) × Int) → Option ((List AF) × Bool)
 | 0, _ => none
 | n1 + 1, v1 =>
  AR ((decide (v1.2 < (v1.1.length : Int))))
   ((Bh v1.1 v1.2).bind fun v4 =>
   (FA N p0 ((Ae.mk v4.gx.gb v4.gx.f7 v4.gx.gc))).bind fun v5 =>
   BY N p0 p2 v1 v5 (fun (v7 : (List AF)) =>
    BZ N p0 p2 j1 n1 (v7, (wI .i64 (v1.2 + 1)))) N (v1.1, 0))
   (j1 v1.1)
def De (N : Nat) (p0 : Ab) (p1 : Ae) (p2 : Int) : Option ((List AF) × Bool) :=
 BZ N p0 p2 (fun (v2 : (List AF)) =>
  some (v2, true)) N (([(AF.mk p1 ((-1)) ((Af.mk 0 0 0)))] : List AF), 0)
def Fv (N : Nat) (p0 : Ab) (p1 : Int) : Option Bool :=
 (Ep N p0).bind fun v1 =>
 Bi (fun (v2 : Bool) =>
  AR v2
   (some true)
   ((De N p0 v1.1 p1).bind fun v6 =>
   some v6.2))
 fun j2 =>
 AR ((v1.2 != 0))
  (j2 true)
  ((C2 N p0 v1.1).bind fun v4 =>
  j2 (!v4))
def Gr (N : Nat) (p0 : Ab) : Option Bool :=
 (Dm N p0).bind fun v1 =>
 Bi (fun (v2 : Bool) =>
  some v2)
 fun j2 =>
 AR ((decide ((v1.length : Int) ≤ 7)))
  ((EZ N p0 v1).bind fun v4 =>
  (Fv N v4 60).bind fun v5 =>
  j2 v5)
  (j2 false)
def Gp (N : Nat) (p0 : Bz) : Option (Ab × Bool) :=
 (Gw N p0).bind fun v1 =>
 Bi (fun (v2 : Bool) =>
  some (v1.1, v2))
 fun j2 =>
 AR v1.2
  (AR ((decide ((v1.1.f9.length : Int) ≤ 2)))
   ((Gr N v1.1).bind fun v5 =>
   j2 v5)
   (j2 false))
  (j2 false)
def D1 (_ : Nat) : Option Ab :=
 some ((Ab.mk (([2, 2] : List Int)) (([0, 0] : List Int)) (([1, 1] : List Int)) (([(Ao.mk 1 0 1 false (([([true, false] : List Bool), ([false, true] : List Bool)] : List (List Bool))) (([] : List (List Bool))))] : List Ao))))
def E0 (_ : Nat) (p0 : Int) (p1 : Int) : Option Bool :=
 Bi (fun (v1 : Bool) =>
  some v1)
 fun j1 =>
 AR ((decide (0 ≤ p0)))
  (j1 (decide (p0 < p1)))
  (j1 false)
def HZ (_ : Nat) (p0 : Int) (p1 : Bool) : Option Bool :=
 Bi (fun (v1 : Bool) =>
  some v1)
 fun j1 =>
 AR ((p0 == 1))
  (j1 true)
  (AR ((p0 == 2))
   (j1 true)
   (AR ((p0 == 3))
    (j1 (!p1))
    (AR ((p0 == 4))
     (j1 (!p1))
     (j1 false))))
def EN (_ : Nat) (p0 : List Bool) (p1 : Int) : Option Bool :=
 some (((p0.length : Int) != p1))
def By (N : Nat) (p0 : List (List Bool)) (p1 : (List Bool) → Option Bool) (j1 : Unit → Option Int) : Nat → Int → Option Int
 | 0, _ => none
 | n1 + 1, v1 =>
  AR ((decide (v1 < (p0.length : Int))))
   ((Bh p0 v1).bind fun v4 =>
   (p1 v4).bind fun v5 =>
   AR v5
    (some v1)
    (By N p0 p1 j1 n1 (wI .i64 (v1 + 1))))
   (j1 ())
def D5 (N : Nat) (p0 : List (List Bool)) (p1 : (List Bool) → Option Bool) : Option Int :=
 By N p0 p1 (fun (_ : Unit) =>
  some ((-1))) N 0
def DB (N : Nat) (p0 : List (List Bool)) (p1 : (List Bool) → Option Bool) : Option Bool :=
 (D5 N p0 p1).bind fun v1 =>
 some ((decide (0 ≤ v1)))
def Gi (N : Nat) (p0 : List (List Bool)) (p1 : Int) (p2 : Int) : Option Bool :=
 Bi (fun (v1 : Bool) =>
  some v1)
 fun j1 =>
 AR (((p0.length : Int) == p1))
  ((DB N p0 ((fun (x : List Bool) => EN N x p2))).bind fun v3 =>
  j1 (!v3))
  (j1 false)
def DN (N : Nat) (p1 : Ao) (j19 : Unit → Option Int) : Nat → Int → Option Int
 | 0, _ => none
 | n19 + 1, v19 =>
  AR ((decide (v19 < (p1.gk.length : Int))))
   ((Bh p1.gk v19).bind fun v22 =>
   (Bh v22 v19).bind fun v23 =>
   AR ((!v23))
    (some 1)
    (DN N p1 j19 n19 (wI .i64 (v19 + 1))))
   (j19 ())
def Hv (N : Nat) (p0 : Ab) (p1 : Ao) : Option Int :=
 (HZ N p1.gd p1.gl).bind fun v1 =>
 AR ((!v1))
  (some 1)
  (Bi (fun (v3 : Bool) =>
   AR v3
    (some 4)
    ((Bh p0.f9 p1.ge).bind fun v8 =>
    Bi (fun (v9 : Bool) =>
     AR v9
      (some 6)
      (DN N p1 (fun (_ : Unit) =>
       some 0) N 0))
    fun j9 =>
    (Bh p0.f9 p1.gi).bind fun v10 =>
    (Gi N p1.gh v8 v10).bind fun v11 =>
    AR ((!v11))
     (j9 true)
     (AR ((p1.gd == 4))
      ((Gi N p1.gk v8 v8).bind fun v14 =>
      AR ((!v14))
       (j9 true)
       (AR ((!((p1.gd == 4))))
        (j9 (decide (0 < (p1.gk.length : Int))))
        (j9 false)))
      (AR ((!((p1.gd == 4))))
       (j9 (decide (0 < (p1.gk.length : Int))))
       (j9 false)))))
  fun j3 =>
  (E0 N p1.ge ((p0.f9.length : Int))).bind fun v4 =>
  AR ((!v4))
   (j3 true)
   ((E0 N p1.gi ((p0.f9.length : Int))).bind fun v6 =>
   j3 (!v6)))
def Cg (N : Nat) (p0 : Ab) (j7 : Unit → Option Int) : Nat → Int → Option Int
 | 0, _ => none
 | n7 + 1, v7 =>
  AR ((decide (v7 < (p0.f9.length : Int))))
   ((Bh p0.f9 v7).bind fun v10 =>
   Bi (fun (v11 : Bool) =>
    AR v11
     (some 7)
     (Cg N p0 j7 n7 (wI .i64 (v7 + 1))))
   fun j11 =>
   AR ((decide (v10 < 1)))
    (j11 true)
    (AR ((decide (6 < v10)))
     (j11 true)
     ((Bh p0.gf v7).bind fun v14 =>
     (E0 N v14 v10).bind fun v15 =>
     AR ((!v15))
      (j11 true)
      ((Bh p0.gj v7).bind fun v17 =>
      (E0 N v17 v10).bind fun v18 =>
      j11 (!v18)))))
   (j7 ())
def B6 (N : Nat) (p0 : Ab) (j20 : Unit → Option Int) : Nat → Int → Option Int
 | 0, _ => none
 | n20 + 1, v20 =>
  AR ((decide (v20 < (p0.ga.length : Int))))
   ((Bh p0.ga v20).bind fun v23 =>
   (Hv N p0 v23).bind fun v24 =>
   AR ((v24 != 0))
    (some v24)
    (B6 N p0 j20 n20 (wI .i64 (v20 + 1))))
   (j20 ())
def BG (N : Nat) (p0 : Ab) : Option Int :=
 Bi (fun (v1 : Bool) =>
  AR v1
   (some 3)
   (Bi (fun (v4 : Bool) =>
    AR v4
     (some 6)
     (Cg N p0 (fun (_ : Unit) =>
      B6 N p0 (fun (_ : Unit) =>
       some 0) N 0) N 0))
   fun j4 =>
   AR (((p0.gf.length : Int) != (p0.f9.length : Int)))
    (j4 true)
    (j4 ((p0.gj.length : Int) != (p0.f9.length : Int)))))
 fun j1 =>
 AR ((decide (6 < (p0.f9.length : Int))))
  (j1 true)
  (j1 (decide (12 < (p0.ga.length : Int))))
def Dz (N : Nat) (v1 : (List Aa) × Int) (v5 : (List Aa) × Int) (v8 : List Bool) (j9 : ((List Aa)) → Option ((List Aa))) : Nat → ((List Aa) × Int) → Option ((List Aa))
 | 0, _ => none
 | n9 + 1, v9 =>
  AR ((decide (v9.2 < (v8.length : Int))))
   (Bi (fun (v12 : (List Aa)) =>
    Dz N v1 v5 v8 j9 n9 (v12, (wI .i64 (v9.2 + 1))))
   fun j12 =>
   (Bh v8 v9.2).bind fun v13 =>
   AR ((!v13))
    ((Dt (v9.1.length + (([(Aa.mk v1.2 v5.2 v9.2)] : List Aa)).length ≤ CP)).bind fun _ =>
    j12 (v9.1 ++ (([(Aa.mk v1.2 v5.2 v9.2)] : List Aa))))
    (j12 v9.1))
   (j9 v9.1)
def C0 (N : Nat) (v1 : (List Aa) × Int) (v4 : Ao) (j5 : ((List Aa)) → Option ((List Aa))) : Nat → ((List Aa) × Int) → Option ((List Aa))
 | 0, _ => none
 | n5 + 1, v5 =>
  AR ((decide (v5.2 < (v4.gh.length : Int))))
   ((Bh v4.gh v5.2).bind fun v8 =>
   Dz N v1 v5 v8 (fun (v10 : (List Aa)) =>
    C0 N v1 v4 j5 n5 (v10, (wI .i64 (v5.2 + 1)))) N (v5.1, 0))
   (j5 v5.1)
def Cq (N : Nat) (p0 : Ab) (j1 : ((List Aa)) → Option ((List Aa))) : Nat → ((List Aa) × Int) → Option ((List Aa))
 | 0, _ => none
 | n1 + 1, v1 =>
  AR ((decide (v1.2 < (p0.ga.length : Int))))
   ((Bh p0.ga v1.2).bind fun v4 =>
   C0 N v1 v4 (fun (v6 : (List Aa)) =>
    Cq N p0 j1 n1 (v6, (wI .i64 (v1.2 + 1)))) N (v1.1, 0))
   (j1 v1.1)
def Ek (N : Nat) (p0 : Ab) : Option ((List Aa)) :=
 Cq N p0 (fun (v2 : (List Aa)) =>
  some v2) N (([] : List Aa), 0)
def Fj (N : Nat) (p0 : Ab) : Option ((List Aa) × Int) :=
 (BG N p0).bind fun v1 =>
 AR ((v1 != 0))
  (some (([] : List Aa), v1))
  ((Ek N p0).bind fun v3 =>
  some (v3, 0))
def Eo (N : Nat) (v5 : Aa) (v7 : (List (List Aa))) (j8 : ((List (List Aa))) → Option ((List (List Aa)))) : Nat → ((List (List Aa)) × Int) → Option ((List (List Aa)))
 | 0, _ => none
 | n8 + 1, v8 =>
  AR ((decide (v8.2 < (v7.length : Int))))
   ((Bh v7 v8.2).bind fun v11 =>
   (Dt ((([v5] : List Aa)).length + v11.length ≤ CP)).bind fun _ =>
   (Dt (v8.1.length + (([(([v5] : List Aa)) ++ v11] : List (List Aa))).length ≤ CP)).bind fun _ =>
   Eo N v5 v7 j8 n8 (v8.1 ++ (([(([v5] : List Aa)) ++ v11] : List (List Aa))), (wI .i64 (v8.2 + 1))))
   (j8 v8.1)
def DK (N : Nat) (p0 : List Aa) (p1 : Int) (rc : (List Aa) → Int → Option ((List (List Aa)))) (j2 : ((List (List Aa))) → Option ((List (List Aa)))) : Nat → ((List (List Aa)) × Int) → Option ((List (List Aa)))
 | 0, _ => none
 | n2 + 1, v2 =>
  AR ((decide (v2.2 < (p0.length : Int))))
   ((Bh p0 v2.2).bind fun v5 =>
   (Dt ((0 : Int) ≤ (wI .i64 (v2.2 + 1)) ∧ ((wI .i64 (v2.2 + 1))).toNat ≤ p0.length ∧ p0.length ≤ p0.length)).bind fun _ =>
   (rc (((p0.drop ((wI .i64 (v2.2 + 1))).toNat).take (p0.length - ((wI .i64 (v2.2 + 1))).toNat))) ((wI .i64 (p1 - 1)))).bind fun v7 =>
   Eo N v5 v7 (fun (v9 : (List (List Aa))) =>
    DK N p0 p1 rc j2 n2 (v9, (wI .i64 (v2.2 + 1)))) N (v2.1, 0))
   (j2 v2.1)
def Hk (N : Nat) (rc : (List Aa) → Int → Option ((List (List Aa)))) (p0 : List Aa) (p1 : Int) : Option ((List (List Aa))) :=
 AR ((p1 == 0))
  (some (([([] : List Aa)] : List (List Aa))))
  (DK N p0 p1 rc (fun (v3 : (List (List Aa))) =>
   some v3) N (([] : List (List Aa)), 0))
def D9 (N : Nat) : Nat → (List Aa) → Int → Option ((List (List Aa)))
 | 0, _, _ => none
 | k + 1, p0, p1 => Hk N (D9 N k) p0 p1
def Jr (N : Nat) (p0 : List Aa) (p1 : Int) : Option ((List (List Aa))) := D9 N N p0 p1
def A1 (_ : Nat) (p0 : List Int) : Option ((List Int)) :=
 (Dt ((([] : List Int)).length + p0.length ≤ CP)).bind fun _ =>
 some ((([] : List Int)) ++ p0)
def Dk (_ : Nat) (p0 : List (List Bool)) : Option ((List (List Bool))) :=
 (Dt ((([] : List (List Bool))).length + p0.length ≤ CP)).bind fun _ =>
 some ((([] : List (List Bool))) ++ p0)
def CW (_ : Nat) (p0 : List Bool) : Option ((List Bool)) :=
 (Dt ((([] : List Bool)).length + p0.length ≤ CP)).bind fun _ =>
 some ((([] : List Bool)) ++ p0)
def DM (N : Nat) (v1 : (List (List Bool))) (j3 : ((List (List Bool))) → Option Ao) : Nat → ((List (List Bool)) × Int) → Option Ao
 | 0, _ => none
 | n3 + 1, v3 =>
  AR ((decide (v3.2 < (v1.length : Int))))
   ((Bh v3.1 v3.2).bind fun v6 =>
   (CW N v6).bind fun v7 =>
   (Bh v3.1 v3.2).bind fun _ =>
   (Dt (((v3.2).toNat) + 1 = ((wI .i64 (v3.2 + 1))).toNat)).bind fun _ =>
   DM N v1 j3 n3 (v3.1.set ((v3.2).toNat) v7, (wI .i64 (v3.2 + 1))))
   ((Dt ((v3.2).toNat = v3.1.length)).bind fun _ =>
   j3 v3.1)
def B0 (N : Nat) (v2 : (List (List Bool))) (j11 : ((List (List Bool))) → Option Ao) : Nat → ((List (List Bool)) × Int) → Option Ao
 | 0, _ => none
 | n11 + 1, v11 =>
  AR ((decide (v11.2 < (v2.length : Int))))
   ((Bh v11.1 v11.2).bind fun v14 =>
   (CW N v14).bind fun v15 =>
   (Bh v11.1 v11.2).bind fun _ =>
   (Dt (((v11.2).toNat) + 1 = ((wI .i64 (v11.2 + 1))).toNat)).bind fun _ =>
   B0 N v2 j11 n11 (v11.1.set ((v11.2).toNat) v15, (wI .i64 (v11.2 + 1))))
   ((Dt ((v11.2).toNat = v11.1.length)).bind fun _ =>
   j11 v11.1)
def Gl (N : Nat) (p0 : Ao) : Option Ao :=
 (Dk N p0.gh).bind fun v1 =>
 (Dk N p0.gk).bind fun v2 =>
 DM N v1 (fun (v4 : (List (List Bool))) =>
  B0 N v2 (fun (v12 : (List (List Bool))) =>
   some ((Ao.mk p0.gd p0.ge p0.gi p0.gl v4 v12))) N (v2, 0)) N (v1, 0)
def Dw (N : Nat) (p0 : Ab) (j6 : ((List Ao)) → Option (Ab × Int)) : Nat → ((List Ao) × Int) → Option (Ab × Int)
 | 0, _ => none
 | n6 + 1, v6 =>
  AR ((decide (v6.2 < (p0.ga.length : Int))))
   ((Bh p0.ga v6.2).bind fun v9 =>
   (Gl N v9).bind fun v10 =>
   (Dt (v6.1.length + (([v10] : List Ao)).length ≤ CP)).bind fun _ =>
   Dw N p0 j6 n6 (v6.1 ++ (([v10] : List Ao)), (wI .i64 (v6.2 + 1))))
   (j6 v6.1)
def F5 (N : Nat) (p0 : Ab) (p1 : List Int) (p2 : List Int) : Option (Ab × Int) :=
 (BG N p0).bind fun v1 =>
 AR ((v1 != 0))
  (some ((Ab.mk (([] : List Int)) (([] : List Int)) (([] : List Int)) (([] : List Ao))), v1))
  ((A1 N p0.f9).bind fun v3 =>
  (A1 N p1).bind fun v4 =>
  (A1 N p2).bind fun v5 =>
  Dw N p0 (fun (v7 : (List Ao)) =>
   (BG N ((Ab.mk v3 v4 v5 v7))).bind fun v12 =>
   AR ((v12 != 0))
    (some ((Ab.mk (([] : List Int)) (([] : List Int)) (([] : List Int)) (([] : List Ao))), v12))
    (some ((Ab.mk v3 v4 v5 v7), 0))) N (([] : List Ao), 0))
def Em (N : Nat) (p1 : List Aa) (j2 : ((List Ao)) → Option Ab) : Nat → ((List Ao) × Int) → Option Ab
 | 0, _ => none
 | n2 + 1, v2 =>
  AR ((decide (v2.2 < (p1.length : Int))))
   ((Bh p1 v2.2).bind fun v5 =>
   (Bh v2.1 v5.gt).bind fun v6 =>
   (Bh v6.gh v5.gr).bind fun v7 =>
   (Bh v2.1 v5.gt).bind fun _ =>
   (Bh v6.gh v5.gr).bind fun _ =>
   (Bh v7 v5.gu).bind fun _ =>
   Em N p1 j2 n2 (v2.1.set ((v5.gt).toNat) ((Ao.mk v6.gd v6.ge v6.gi v6.gl (v6.gh.set ((v5.gr).toNat) (v7.set ((v5.gu).toNat) true)) v6.gk)), (wI .i64 (v2.2 + 1))))
   (j2 v2.1)
def Hd (N : Nat) (p0 : Ab) (p1 : List Aa) : Option Ab :=
 (F5 N p0 p0.gf p0.gj).bind fun v1 =>
 Em N p1 (fun (v3 : (List Ao)) =>
  some ((Ab.mk v1.1.f9 v1.1.gf v1.1.gj v3))) N (v1.1.ga, 0)
def Ig (_ : Nat) (p0 : Int) (p1 : Int) : Option (Int × Int) :=
 some ((wI .u32 ((GW .u64 ((wI .u64 ((wI .u64 p0) * (wI .u64 p1)))) 32))), (wI .u32 ((wI .u64 ((wI .u64 p0) * (wI .u64 p1))))))
def Id (_ : Nat) (p0 : Int) (p1 : Int) : Option (Int × Int) :=
 some ((wI .u64 ((wI .u64 ((wI .u64 ((GW .u64 p0 32) * (GW .u64 p1 32))) + (GW .u64 ((wI .u64 ((wI .u64 ((GW .u64 p0 32) * (HG .u64 p1 4294967295))) + (GW .u64 ((wI .u64 ((HG .u64 p0 4294967295) * (HG .u64 p1 4294967295)))) 32)))) 32))) + (GW .u64 ((wI .u64 ((HG .u64 ((wI .u64 ((wI .u64 ((GW .u64 p0 32) * (HG .u64 p1 4294967295))) + (GW .u64 ((wI .u64 ((HG .u64 p0 4294967295) * (HG .u64 p1 4294967295)))) 32)))) 4294967295) + (wI .u64 ((HG .u64 p0 4294967295) * (GW .u64 p1 32)))))) 32))), (wI .u64 (p0 * p1)))
def IZ (N : Nat) (p0 : Int) (p1 : Int) : Option (Int × Int) :=
 AR false
  ((Ig N ((wI .u32 p0)) ((wI .u32 p1))).bind fun v2 =>
  some ((wI .u64 v2.1), (wI .u64 v2.2)))
  ((Id N p0 p1).bind fun v3 =>
  some (v3.1, v3.2))
def EE (N : Nat) (j9 : ((List Int)) → Option ((List Int))) : Nat → ((List Int) × Int) → Option ((List Int))
 | 0, _ => none
 | n9 + 1, v9 =>
  AR ((decide (v9.2 < (v9.1.length : Int))))
   ((Dt ((0 : Int) ≤ v9.2 ∧ (v9.2).toNat ≤ v9.1.length ∧ v9.1.length ≤ v9.1.length)).bind fun _ =>
   (Dt ((0 : Int) ≤ v9.2 ∧ 0 ≤ (v9.2).toNat ∧ (v9.2).toNat ≤ v9.1.length)).bind fun _ =>
   EE N j9 n9 (GZ v9.1 ((v9.2).toNat) ((((v9.1.drop 0).take ((v9.2).toNat))).take (xE (((v9.1.drop 0).take ((v9.2).toNat))).length ((v9.1.length - (v9.2).toNat)))), (wI .i64 (v9.2 + (((xE (((v9.1.drop 0).take ((v9.2).toNat))).length ((v9.1.length - (v9.2).toNat))) : Nat) : Int)))))
   (j9 v9.1)
def Ft (N : Nat) (p0 : List Int) (p1 : Int) : Option ((List Int)) :=
 Bi (fun (_ : Unit) =>
  (IZ N ((wI .u64 ((p0.length : Int)))) ((wI .u64 p1))).bind fun v3 =>
  Bi (fun (_ : Unit) =>
   (Dt ((0 : Int) ≤ (wI .i64 v3.2) ∧ (wI .i64 v3.2) ≤ (wI .i64 v3.2) ∧ (wI .i64 v3.2) ≤ (CP : Int))).bind fun _ =>
   EE N (fun (v10 : (List Int)) =>
    some v10) N (GZ (zD ((wI .i64 v3.2)).toNat ((0 : Int))) 0 (p0.take (xE p0.length ((zD ((wI .i64 v3.2)).toNat ((0 : Int))).length))), (((xE p0.length ((zD ((wI .i64 v3.2)).toNat ((0 : Int))).length)) : Nat) : Int)))
  fun j4 =>
  Bi (fun (v5 : Bool) =>
   AR v5
    (none)
    (j4 ()))
  fun j5 =>
  AR ((decide (0 < v3.1)))
   (j5 true)
   (j5 (decide (9223372036854775807 < v3.2))))
 fun j1 =>
 AR ((decide (p1 < 0)))
  (none)
  (j1 ())
def Gx (_ : Nat) (p0 : Ao) : Option Bool :=
 Bi (fun (v1 : Bool) =>
  some v1)
 fun j1 =>
 AR ((p0.gd == 3))
  (j1 true)
  (j1 (p0.gd == 4))
def E3 (N : Nat) (p0 : Ab) (j6 : ((List Int)) → Option (Ae × Int)) : Nat → ((List Int) × Int) → Option (Ae × Int)
 | 0, _ => none
 | n6 + 1, v6 =>
  AR ((decide (v6.2 < (p0.ga.length : Int))))
   (Bi (fun (v9 : (List Int)) =>
    E3 N p0 j6 n6 (v9, (wI .i64 (v6.2 + 1))))
   fun j9 =>
   (Bh p0.ga v6.2).bind fun v10 =>
   (Gx N v10).bind fun v11 =>
   AR v11
    ((Bh p0.gf v10.ge).bind fun v13 =>
    (Dt (0 ≤ v13)).bind fun _ =>
    (Bh v6.1 v6.2).bind fun _ =>
    j9 (v6.1.set ((v6.2).toNat) ((EI .u8 1 v13))))
    (j9 v6.1))
   (j6 v6.1)
def Ix (N : Nat) (p0 : Ab) : Option (Ae × Int) :=
 (BG N p0).bind fun v1 =>
 AR ((v1 != 0))
  (some ((Ae.mk (([] : List Int)) (([] : List Int)) (([] : List Int))), v1))
  ((A1 N p0.gf).bind fun v3 =>
  (Ft N (([(-1)] : List Int)) ((p0.gf.length : Int))).bind fun v4 =>
  (Dt ((0 : Int) ≤ (p0.ga.length : Int) ∧ (p0.ga.length : Int) ≤ (p0.ga.length : Int) ∧ (p0.ga.length : Int) ≤ (CP : Int))).bind fun _ =>
  E3 N p0 (fun (v7 : (List Int)) =>
   some ((Ae.mk v3 v4 v7), 0)) N (zD ((p0.ga.length : Int)).toNat ((0 : Int)), 0))
def Ga (_ : Nat) (p0 : Ae) (p1 : Int) : Option Int :=
 (Bh p0.gb p1).bind fun v1 =>
 (Dt (0 ≤ v1)).bind fun _ =>
 Bi (fun (v3 : Int) =>
  some v3)
 fun j3 =>
 (Bh p0.f7 p1).bind fun v4 =>
 AR ((decide (0 ≤ v4)))
  ((Bh p0.f7 p1).bind fun v6 =>
  (Dt (0 ≤ v6)).bind fun _ =>
  j3 (Q3 .u8 ((EI .u8 1 v1)) ((EI .u8 1 v6))))
  (j3 (EI .u8 1 v1))
def E2 (N : Nat) (p0 : Ab) (p1 : Ae) (j7 : Unit → Option Int) : Nat → Int → Option Int
 | 0, _ => none
 | n7 + 1, v7 =>
  AR ((decide (v7 < (p0.f9.length : Int))))
   ((Bh p0.f9 v7).bind fun v10 =>
   Bi (fun (v11 : Bool) =>
    AR v11
     (some 7)
     ((Bh p1.gb v7).bind fun v20 =>
     (Bh p1.f7 v7).bind fun v21 =>
     AR ((v20 == v21))
      (some 1)
      (E2 N p0 p1 j7 n7 (wI .i64 (v7 + 1)))))
   fun j11 =>
   (Bh p1.gb v7).bind fun v12 =>
   AR ((decide (v12 < 0)))
    (j11 true)
    ((Bh p1.gb v7).bind fun v14 =>
    AR ((decide (v10 ≤ v14)))
     (j11 true)
     ((Bh p1.f7 v7).bind fun v16 =>
     AR ((decide (v16 < (-1))))
      (j11 true)
      ((Bh p1.f7 v7).bind fun v18 =>
      j11 (decide (v10 ≤ v18))))))
   (j7 ())
def Es (N : Nat) (p0 : Ab) (p1 : Ae) (j23 : Unit → Option Int) : Nat → Int → Option Int
 | 0, _ => none
 | n23 + 1, v23 =>
  AR ((decide (v23 < (p0.ga.length : Int))))
   ((Bh p0.ga v23).bind fun v26 =>
   Bi (fun (v27 : Int × Int) =>
    Bi (fun (v33 : Bool) =>
     AR v33
      (some 1)
      (Es N p0 p1 j23 n23 (wI .i64 (v23 + 1))))
    fun j33 =>
    (Bh p1.gc v23).bind fun v34 =>
    AR (((DX .u8 v27.1 v34) != 0))
     (j33 true)
     ((Bh p1.gc v23).bind fun v36 =>
     j33 ((DX .u8 v36 v27.2) != 0)))
   fun j27 =>
   (Gx N v26).bind fun v28 =>
   AR v28
    ((Ga N p1 v26.ge).bind fun v30 =>
    (Bh p0.f9 v26.ge).bind fun v31 =>
    (Dt (0 ≤ v31)).bind fun _ =>
    j27 (v30, (wI .u8 ((EI .u8 1 v31) - 1))))
    (j27 (0, 0)))
   (j23 ())
def Gv (N : Nat) (p0 : Ab) (p1 : Ae) : Option Int :=
 (BG N p0).bind fun v1 =>
 AR ((v1 != 0))
  (some v1)
  (Bi (fun (v3 : Bool) =>
   AR v3
    (some 6)
    (E2 N p0 p1 (fun (_ : Unit) =>
     Es N p0 p1 (fun (_ : Unit) =>
      some 0) N 0) N 0))
  fun j3 =>
  AR (((p1.gb.length : Int) != (p0.f9.length : Int)))
   (j3 true)
   (AR (((p1.f7.length : Int) != (p0.f9.length : Int)))
    (j3 true)
    (j3 ((p1.gc.length : Int) != (p0.ga.length : Int)))))
def B8 (_ : Nat) (p0 : List Int) : Option ((List Int)) :=
 (Dt ((([] : List Int)).length + p0.length ≤ CP)).bind fun _ =>
 some ((([] : List Int)) ++ p0)
def EB (N : Nat) (p1 : Ae) (j3 : ((List Int)) → Option ((List Ae) × Int)) : Nat → ((List Int) × Int) → Option ((List Ae) × Int)
 | 0, _ => none
 | n3 + 1, v3 =>
  AR ((decide (v3.2 < (p1.f7.length : Int))))
   (Bi (fun (v6 : (List Int)) =>
    EB N p1 j3 n3 (v6, (wI .i64 (v3.2 + 1))))
   fun j6 =>
   (Bh p1.f7 v3.2).bind fun v7 =>
   AR ((decide (0 ≤ v7)))
    ((Dt (v3.1.length + (([v3.2] : List Int)).length ≤ CP)).bind fun _ =>
    j6 (v3.1 ++ (([v3.2] : List Int))))
    (j6 v3.1))
   (j3 v3.1)
def DD (N : Nat) (v4 : (List Int)) (v11 : (List Ae) × Int) (j17 : ((List Int)) → Option ((List Ae) × Int)) : Nat → ((List Int) × Int) → Option ((List Ae) × Int)
 | 0, _ => none
 | n17 + 1, v17 =>
  AR ((decide (v17.2 < (v4.length : Int))))
   (Bi (fun (v20 : (List Int)) =>
    DD N v4 v11 j17 n17 (v20, (wI .i64 (v17.2 + 1))))
   fun j20 =>
   (Bh v4 v17.2).bind fun v21 =>
   (Dt (0 ≤ v17.2)).bind fun _ =>
   AR (((HG .i64 ((GW .i64 v11.2 v17.2)) 1) == 1))
    ((Bh v17.1 v21).bind fun _ =>
    j20 (v17.1.set ((v21).toNat) ((-1))))
    (j20 v17.1))
   (j17 v17.1)
def DC (N : Nat) (p1 : Ae) (v4 : (List Int)) (j11 : ((List Ae)) → Option ((List Ae) × Int)) : Nat → ((List Ae) × Int) → Option ((List Ae) × Int)
 | 0, _ => none
 | n11 + 1, v11 =>
  AR ((decide (v11.2 < (EI .i64 1 ((v4.length : Int))))))
   ((A1 N p1.gb).bind fun v14 =>
   (A1 N p1.f7).bind fun v15 =>
   (B8 N p1.gc).bind fun v16 =>
   DD N v4 v11 (fun (v18 : (List Int)) =>
    (Dt (v11.1.length + (([(Ae.mk v14 v18 v16)] : List Ae)).length ≤ CP)).bind fun _ =>
    DC N p1 v4 j11 n11 (v11.1 ++ (([(Ae.mk v14 v18 v16)] : List Ae)), (wI .i64 (v11.2 + 1)))) N (v15, 0))
   (j11 v11.1)
def HV (N : Nat) (p0 : Ab) (p1 : Ae) : Option ((List Ae) × Int) :=
 (Gv N p0 p1).bind fun v1 =>
 AR ((v1 != 0))
  (some (([] : List Ae), v1))
  (EB N p1 (fun (v4 : (List Int)) =>
   (Dt (0 ≤ (v4.length : Int))).bind fun _ =>
   DC N p1 v4 (fun (v12 : (List Ae)) =>
    some (v12, 0)) N (([] : List Ae), 0)) N (([] : List Int), 0))
def Cf (N : Nat) (v1 : (List Aa) × Int) (v4 : Ao) (v6 : Int) (v11 : (List Aa) × Int) (v17 : List Bool) (j18 : ((List Aa) × Bool) → Option ((List Aa))) : Nat → ((List Aa) × Bool × Int) → Option ((List Aa))
 | 0, _ => none
 | n18 + 1, v18 =>
  AR ((decide (v18.2.2 < (v17.length : Int))))
   (Bi (fun (v21 : (List Aa) × Bool) =>
    Cf N v1 v4 v6 v11 v17 j18 n18 (v21.1, v21.2, (wI .i64 (v18.2.2 + 1))))
   fun j21 =>
   (Bh v17 v18.2.2).bind fun v22 =>
   (Dt (0 ≤ v18.2.2)).bind fun _ =>
   AR (((HG .u8 ((GW .u8 v6 v18.2.2)) 1) == 0))
    (j21 (v18.1, v18.2.1))
    (Bi (fun (v25 : Bool) =>
     Bi (fun (v27 : Bool) =>
      AR v27
       ((Dt (v18.1.length + (([(Aa.mk v1.2 v11.2 v18.2.2)] : List Aa)).length ≤ CP)).bind fun _ =>
       j21 (v18.1 ++ (([(Aa.mk v1.2 v11.2 v18.2.2)] : List Aa)), v25))
       (j21 (v18.1, v25)))
     fun j27 =>
     AR ((!v22))
      (j27 (!v4.gl))
      (j27 false))
    fun j25 =>
    AR v18.2.1
     (j25 true)
     (j25 v22)))
   (j18 (v18.1, v18.2.1))
def CK (N : Nat) (v1 : (List Aa) × Int) (v4 : Ao) (v6 : Int) (v7 : Int) (j11 : ((List Aa)) → Option ((List Aa))) : Nat → ((List Aa) × Int) → Option ((List Aa))
 | 0, _ => none
 | n11 + 1, v11 =>
  AR ((decide (v11.2 < (v4.gh.length : Int))))
   (Bi (fun (v14 : (List Aa)) =>
    CK N v1 v4 v6 v7 j11 n11 (v14, (wI .i64 (v11.2 + 1))))
   fun j14 =>
   (Dt (0 ≤ v11.2)).bind fun _ =>
   AR (((HG .u8 ((GW .u8 v7 v11.2)) 1) == 0))
    (j14 v11.1)
    ((Bh v4.gh v11.2).bind fun v17 =>
    Cf N v1 v4 v6 v11 v17 (fun (v19 : (List Aa) × Bool) =>
     Bi (fun (v31 : Bool) =>
      AR v31
       ((Dt (v19.1.length + (([(Aa.mk v1.2 v11.2 ((-1)))] : List Aa)).length ≤ CP)).bind fun _ =>
       j14 (v19.1 ++ (([(Aa.mk v1.2 v11.2 ((-1)))] : List Aa))))
       (j14 v19.1))
     fun j31 =>
     AR v4.gl
      (j31 (!v19.2))
      (j31 false)) N (v11.1, false, 0)))
   (j11 v11.1)
def D4 (N : Nat) (p0 : Ab) (p1 : Ae) (j1 : ((List Aa)) → Option ((List Aa))) : Nat → ((List Aa) × Int) → Option ((List Aa))
 | 0, _ => none
 | n1 + 1, v1 =>
  AR ((decide (v1.2 < (p0.ga.length : Int))))
   ((Bh p0.ga v1.2).bind fun v4 =>
   (Ga N p1 v4.ge).bind fun v5 =>
   (Ga N p1 v4.gi).bind fun v6 =>
   Bi (fun (v7 : Int) =>
    CK N v1 v4 v6 v7 (fun (v12 : (List Aa)) =>
     D4 N p0 p1 j1 n1 (v12, (wI .i64 (v1.2 + 1)))) N (v1.1, 0))
   fun j7 =>
   (Gx N v4).bind fun v8 =>
   AR v8
    ((Bh p1.gc v1.2).bind fun v10 =>
    j7 v10)
    (j7 v5))
   (j1 v1.1)
def GP (N : Nat) (p0 : Ab) (p1 : Ae) : Option ((List Aa)) :=
 D4 N p0 p1 (fun (v2 : (List Aa)) =>
  some v2) N (([] : List Aa), 0)
def FP (N : Nat) (p0 : Ab) (v1 : (List Ae) × Int) (j3 : Unit → Option (Ae × Aa × Int)) : Nat → Int → Option (Ae × Aa × Int)
 | 0, _ => none
 | n3 + 1, v3 =>
  AR ((decide (v3 < (v1.1.length : Int))))
   ((Bh v1.1 v3).bind fun v6 =>
   (GP N p0 v6).bind fun v7 =>
   AR ((decide (0 < (v7.length : Int))))
    ((Bh v7 0).bind fun v9 =>
    some (v6, v9, 0))
    (FP N p0 v1 j3 n3 (wI .i64 (v3 + 1))))
   (j3 ())
def Iu (N : Nat) (p0 : Ab) (p1 : Ae) : Option (Ae × Aa × Int) :=
 (HV N p0 p1).bind fun v1 =>
 AR ((v1.2 != 0))
  (some ((Ae.mk (([] : List Int)) (([] : List Int)) (([] : List Int))), (Aa.mk 0 0 0), v1.2))
  (FP N p0 v1 (fun (_ : Unit) =>
   some ((Ae.mk (([] : List Int)) (([] : List Int)) (([] : List Int))), (Aa.mk 0 0 0), 15)) N 0)
def Hf (N : Nat) (p0 : Ab) (p1 : Ae) : Option (Bool × Int) :=
 (Iu N p0 p1).bind fun v1 =>
 AR ((v1.2.2 == 0))
  (some (false, 0))
  (AR ((v1.2.2 == 15))
   (some (true, 0))
   (some (false, v1.2.2)))
def FG (N : Nat) (p0 : Ae) (j2 : ((List Int)) → Option ByteArray) : Nat → ((List Int) × Int) → Option ByteArray
 | 0, _ => none
 | n2 + 1, v2 =>
  AR ((decide (v2.2 < (p0.gb.length : Int))))
   ((Bh p0.gb v2.2).bind fun v5 =>
   (Bh p0.f7 v2.2).bind fun v6 =>
   (Dt (v2.1.length + (([(wI .u8 v5), (wI .u8 ((wI .i64 (v6 + 1))))] : List Int)).length ≤ CP)).bind fun _ =>
   FG N p0 j2 n2 (v2.1 ++ (([(wI .u8 v5), (wI .u8 ((wI .i64 (v6 + 1))))] : List Int)), (wI .i64 (v2.2 + 1))))
   (j2 v2.1)
def Eh (N : Nat) (p0 : Ae) (j8 : ((List Int)) → Option ByteArray) : Nat → ((List Int) × Int) → Option ByteArray
 | 0, _ => none
 | n8 + 1, v8 =>
  AR ((decide (v8.2 < (p0.gc.length : Int))))
   ((Bh p0.gc v8.2).bind fun v11 =>
   (Dt (v8.1.length + (([v11] : List Int)).length ≤ CP)).bind fun _ =>
   Eh N p0 j8 n8 (v8.1 ++ (([v11] : List Int)), (wI .i64 (v8.2 + 1))))
   (j8 v8.1)
def Io (N : Nat) (p0 : Ae) : Option ByteArray :=
 (Dt ((0 : Int) ≤ 0 ∧ 0 ≤ (wI .i64 ((wI .i64 (2 * (p0.gb.length : Int))) + (p0.gc.length : Int))) ∧ (wI .i64 ((wI .i64 (2 * (p0.gb.length : Int))) + (p0.gc.length : Int))) ≤ (CP : Int))).bind fun _ =>
 FG N p0 (fun (v3 : (List Int)) =>
  Eh N p0 (fun (v9 : (List Int)) =>
   some ((C1 v9))) N (v3, 0)) N (zD (0 : Int).toNat ((0 : Int)), 0)
def Fw (N : Nat) (v1 : (List Af) × Int) (v4 : Int) (j5 : ((List Af)) → Option ((List Af))) : Nat → ((List Af) × Int) → Option ((List Af))
 | 0, _ => none
 | n5 + 1, v5 =>
  AR ((decide (v5.2 < v4)))
   ((Dt (v5.1.length + (([(Af.mk 1 v1.2 v5.2)] : List Af)).length ≤ CP)).bind fun _ =>
   Fw N v1 v4 j5 n5 (v5.1 ++ (([(Af.mk 1 v1.2 v5.2)] : List Af)), (wI .i64 (v5.2 + 1))))
   (j5 v5.1)
def DJ (N : Nat) (p0 : Ab) (j1 : ((List Af)) → Option ((List Af))) : Nat → ((List Af) × Int) → Option ((List Af))
 | 0, _ => none
 | n1 + 1, v1 =>
  AR ((decide (v1.2 < (p0.f9.length : Int))))
   ((Bh p0.f9 v1.2).bind fun v4 =>
   Fw N v1 v4 (fun (v6 : (List Af)) =>
    DJ N p0 j1 n1 (v6, (wI .i64 (v1.2 + 1)))) N (v1.1, 0))
   (j1 v1.1)
def CG (N : Nat) (p0 : Ab) (j9 : ((List Af)) → Option ((List Af))) : Nat → ((List Af) × Int) → Option ((List Af))
 | 0, _ => none
 | n9 + 1, v9 =>
  AR ((decide (v9.2 < (p0.f9.length : Int))))
   ((Dt (v9.1.length + (([(Af.mk 2 v9.2 0)] : List Af)).length ≤ CP)).bind fun _ =>
   CG N p0 j9 n9 (v9.1 ++ (([(Af.mk 2 v9.2 0)] : List Af)), (wI .i64 (v9.2 + 1))))
   (j9 v9.1)
def BA (N : Nat) (p0 : Ab) (j13 : ((List Af)) → Option ((List Af))) : Nat → ((List Af) × Int) → Option ((List Af))
 | 0, _ => none
 | n13 + 1, v13 =>
  AR ((decide (v13.2 < (p0.ga.length : Int))))
   ((Dt (v13.1.length + (([(Af.mk 3 v13.2 0)] : List Af)).length ≤ CP)).bind fun _ =>
   BA N p0 j13 n13 (v13.1 ++ (([(Af.mk 3 v13.2 0)] : List Af)), (wI .i64 (v13.2 + 1))))
   (j13 v13.1)
def Jg (N : Nat) (p0 : Ab) : Option ((List Af)) :=
 DJ N p0 (fun (v2 : (List Af)) =>
  CG N p0 (fun (v10 : (List Af)) =>
   BA N p0 (fun (v14 : (List Af)) =>
    some v14) N (v10, 0)) N (v2, 0)) N (([] : List Af), 0)
def Hx (N : Nat) (p0 : Ae) : Option Ae :=
 (A1 N p0.gb).bind fun v1 =>
 (A1 N p0.f7).bind fun v2 =>
 (B8 N p0.gc).bind fun v3 =>
 some ((Ae.mk v1 v2 v3))
def GS (_ : Nat) (p0 : Ao) : Option Bool :=
 Bi (fun (v1 : Bool) =>
  some v1)
 fun j1 =>
 AR ((p0.gd == 3))
  (j1 true)
  (j1 (p0.gd == 4))
def Eu (N : Nat) (p0 : Ab) (p2 : Af) (j7 : ((List Int)) → Option (Bool × (List Int) × (List Int))) : Nat → ((List Int) × Int) → Option (Bool × (List Int) × (List Int))
 | 0, _ => none
 | n7 + 1, v7 =>
  AR ((decide (v7.2 < (p0.ga.length : Int))))
   (Bi (fun (v10 : (List Int)) =>
    Eu N p0 p2 j7 n7 (v10, (wI .i64 (v7.2 + 1))))
   fun j10 =>
   (Bh p0.ga v7.2).bind fun v11 =>
   Bi (fun (v12 : Bool) =>
    AR v12
     ((Bh v7.1 v7.2).bind fun v16 =>
     (Dt (0 ≤ p2.gp)).bind fun _ =>
     (Bh v7.1 v7.2).bind fun _ =>
     j10 (v7.1.set ((v7.2).toNat) ((Q3 .u8 v16 ((EI .u8 1 p2.gp))))))
     (j10 v7.1))
   fun j12 =>
   AR ((v11.ge == p2.gg))
    ((GS N v11).bind fun v14 =>
    j12 v14)
    (j12 false))
   (j7 v7.1)
def Ja (N : Nat) (p0 : Ab) (p1 : Ae) (p2 : Af) : Option (Bool × (List Int) × (List Int)) :=
 Bi (fun (v1 : Bool) =>
  AR v1
   (some (false, p1.f7, p1.gc))
   ((Bh p1.f7 p2.gg).bind fun _ =>
   Eu N p0 p2 (fun (v8 : (List Int)) =>
    some (true, p1.f7.set ((p2.gg).toNat) p2.gp, v8)) N (p1.gc, 0)))
 fun j1 =>
 (Bh p1.f7 p2.gg).bind fun v2 =>
 AR ((decide (0 ≤ v2)))
  (j1 true)
  ((Bh p1.gb p2.gg).bind fun v4 =>
  j1 (v4 == p2.gp))
def Hb (_ : Nat) (p0 : Ae) (p1 : Int) : Option Int :=
 (Bh p0.gb p1).bind fun v1 =>
 (Dt (0 ≤ v1)).bind fun _ =>
 Bi (fun (v3 : Int) =>
  some v3)
 fun j3 =>
 (Bh p0.f7 p1).bind fun v4 =>
 AR ((decide (0 ≤ v4)))
  ((Bh p0.f7 p1).bind fun v6 =>
  (Dt (0 ≤ v6)).bind fun _ =>
  j3 (Q3 .u8 ((EI .u8 1 v1)) ((EI .u8 1 v6))))
  (j3 (EI .u8 1 v1))
def DA (_ : Nat) (p0 : Int) : Option Int :=
 (ZE ((⟨⟨(List.append (List.append [8, 0, 1, 0, 2, 0, 1, 0, 3, 0, 1, 0, 2, 0, 1, 0, 4, 0, 1, 0, 2, 0, 1, 0, 3, 0, 1, 0, 2, 0, 1, 0, 5, 0, 1, 0, 2, 0, 1, 0, 3, 0, 1, 0, 2, 0, 1, 0, 4, 0, 1, 0, 2, 0, 1, 0, 3, 0, 1, 0, 2, 0, 1, 0] [6, 0, 1, 0, 2, 0, 1, 0, 3, 0, 1, 0, 2, 0, 1, 0, 4, 0, 1, 0, 2, 0, 1, 0, 3, 0, 1, 0, 2, 0, 1, 0, 5, 0, 1, 0, 2, 0, 1, 0, 3, 0, 1, 0, 2, 0, 1, 0, 4, 0, 1, 0, 2, 0, 1, 0, 3, 0, 1, 0, 2, 0, 1, 0]) (List.append [7, 0, 1, 0, 2, 0, 1, 0, 3, 0, 1, 0, 2, 0, 1, 0, 4, 0, 1, 0, 2, 0, 1, 0, 3, 0, 1, 0, 2, 0, 1, 0, 5, 0, 1, 0, 2, 0, 1, 0, 3, 0, 1, 0, 2, 0, 1, 0, 4, 0, 1, 0, 2, 0, 1, 0, 3, 0, 1, 0, 2, 0, 1, 0] [6, 0, 1, 0, 2, 0, 1, 0, 3, 0, 1, 0, 2, 0, 1, 0, 4, 0, 1, 0, 2, 0, 1, 0, 3, 0, 1, 0, 2, 0, 1, 0, 5, 0, 1, 0, 2, 0, 1, 0, 3, 0, 1, 0, 2, 0, 1, 0, 4, 0, 1, 0, 2, 0, 1, 0, 3, 0, 1, 0, 2, 0, 1, 0]))⟩⟩ : ByteArray)) p0).bind fun v1 =>
 some ((wI .i64 v1))
def Ee (N : Nat) (p0 : Ao) (p2 : Int) (j1 : Unit → Option Bool) : Nat → Int → Option Bool
 | 0, _ => none
 | n1 + 1, v1 =>
  AR ((v1 != 0))
   ((DA N v1).bind fun v4 =>
   (Bh p0.gk v4).bind fun v5 =>
   (Bh v5 p2).bind fun v6 =>
   AR ((!v6))
    (some false)
    (Ee N p0 p2 j1 n1 (HG .u8 v1 ((wI .u8 (v1 - 1))))))
   (j1 ())
def GX (N : Nat) (p0 : Ao) (p1 : Int) (p2 : Int) : Option Bool :=
 Ee N p0 p2 (fun (_ : Unit) =>
  some true) N p1
def H0 (N : Nat) (p0 : Ab) (p1 : Ae) (p2 : Int) : Option (Bool × (List Int)) :=
 (Bh p0.ga p2).bind fun v1 =>
 (GS N v1).bind fun v2 =>
 AR ((!v2))
  (some (false, p1.gc))
  ((Hb N p1 v1.ge).bind fun v4 =>
  (Bh p1.gc p2).bind fun v5 =>
  Bi (fun (v6 : Bool) =>
   AR v6
    (some (false, p1.gc))
    ((Bh p1.gc p2).bind fun _ =>
    some (true, p1.gc.set ((p2).toNat) v4)))
  fun j6 =>
  (Bh p1.gc p2).bind fun v7 =>
  AR ((v7 == v4))
   (j6 true)
   (AR ((v1.gd == 4))
    ((Bh p1.gb v1.ge).bind fun v10 =>
    (GX N v1 ((DX .u8 v5 v4)) v10).bind fun v11 =>
    j6 (!v11))
    (j6 false)))
def GD (N : Nat) (p0 : Ab) (p1 : Ae) (p2 : Af) : Option (Ae × Bool) :=
 (Hx N p1).bind fun v1 =>
 AR ((p2.gd == 1))
  ((Ja N p0 v1 p2).bind fun v3 =>
  some ((Ae.mk v1.gb v3.2.1 v3.2.2), v3.1))
  (AR ((p2.gd == 3))
   ((H0 N p0 v1 p2.gg).bind fun v5 =>
   some ((Ae.mk v1.gb v1.f7 v5.2), v5.1))
   ((Bh v1.f7 p2.gg).bind fun v6 =>
   AR ((decide (v6 < 0)))
    (some (v1, false))
    ((Bh v1.f7 p2.gg).bind fun _ =>
    Bi (fun (v9 : (List Int)) =>
     some ((Ae.mk v9 (v1.f7.set ((p2.gg).toNat) ((-1))) v1.gc), true))
    fun j9 =>
    AR ((p2.gd == 2))
     ((Bh v1.gb p2.gg).bind fun _ =>
     j9 (v1.gb.set ((p2.gg).toNat) v6))
     (j9 v1.gb))))
def D8 (N : Nat) (p0 : Af) (p1 : List Int) (p2 : List Int) (p3 : List Int) (p4 : List Ao) (p5 : List Int) (p6 : List Int) (p7 : List Int) : Option Bool :=
 (GD N ((Ab.mk p1 p2 p3 p4)) ((Ae.mk p5 p6 p7)) p0).bind fun v1 =>
 some ((!v1.2))
def A6 (N : Nat) (p0 : List Af) (p1 : Af → Option Bool) (j1 : Unit → Option Int) : Nat → Int → Option Int
 | 0, _ => none
 | n1 + 1, v1 =>
  AR ((decide (v1 < (p0.length : Int))))
   ((Bh p0 v1).bind fun v4 =>
   (p1 v4).bind fun v5 =>
   AR v5
    (some v1)
    (A6 N p0 p1 j1 n1 (wI .i64 (v1 + 1))))
   (j1 ())
def BW (N : Nat) (p0 : List Af) (p1 : Af → Option Bool) : Option Int :=
 A6 N p0 p1 (fun (_ : Unit) =>
  some ((-1))) N 0
def AY (N : Nat) (p1 : Af → Option Bool) (j3 : ((List Af) × Int) → Option (Nat × (List Af))) : Nat → ((List Af) × Int × Int) → Option (Nat × (List Af))
 | 0, _ => none
 | n3 + 1, v3 =>
  AR ((decide (v3.2.2 < (v3.1.length : Int))))
   (Bi (fun (v6 : (List Af) × Int) =>
    AY N p1 j3 n3 (v6.1, v6.2, (wI .i64 (v3.2.2 + 1))))
   fun j6 =>
   (Bh v3.1 v3.2.2).bind fun v7 =>
   (p1 v7).bind fun v8 =>
   AR ((!v8))
    ((Bh v3.1 v3.2.1).bind fun _ =>
    j6 (v3.1.set ((v3.2.1).toNat) v7, (wI .i64 (v3.2.1 + 1))))
    (j6 (v3.1, v3.2.1)))
   (j3 (v3.1, v3.2.1))
def BR (N : Nat) (p0 : List Af) (p1 : Af → Option Bool) : Option (Nat × (List Af)) :=
 (BW N p0 p1).bind fun v1 =>
 AR ((v1 == (-1)))
  (some (p0.length, p0))
  (AY N p1 (fun (v4 : (List Af) × Int) =>
   (Dt ((0 : Int) ≤ v4.2 ∧ (v4.2).toNat ≤ v4.1.length ∧ v4.1.length ≤ v4.1.length)).bind fun _ =>
   (Dt ((0 : Int) ≤ v4.2 ∧ 0 ≤ (v4.2).toNat ∧ (v4.2).toNat ≤ (GZ v4.1 ((v4.2).toNat) (zD ((v4.1.length - (v4.2).toNat)) ((Af.mk 0 0 0)))).length)).bind fun _ =>
   some ((v4.2).toNat, GZ v4.1 ((v4.2).toNat) (zD ((v4.1.length - (v4.2).toNat)) ((Af.mk 0 0 0))))) N (p0, v1, (wI .i64 (v1 + 1))))
def Ha (N : Nat) (p0 : Ab) (p1 : Ae) : Option ((List Af) × Int) :=
 (Gv N p0 p1).bind fun v1 =>
 AR ((v1 != 0))
  (some (([] : List Af), v1))
  ((Jg N p0).bind fun v3 =>
  (BR N v3 ((fun (x : Af) => D8 N x p0.f9 p0.gf p0.gj p0.ga p1.gb p1.f7 p1.gc))).bind fun v4 =>
  (Dt (v4.1 ≤ v4.2.length)).bind fun _ =>
  some (v4.2.take v4.1, 0))
def HS (_ : Nat) (p0 : Af) : Option Bool :=
 Bi (fun (v1 : Bool) =>
  AR v1
   (some false)
   (Bi (fun (v5 : Bool) =>
    some v5)
   fun j5 =>
   AR ((p0.gd == 1))
    (j5 true)
    (j5 (p0.gp == 0))))
 fun j1 =>
 AR ((decide ((Yy p0.gg p0.gp) < 0)))
  (j1 true)
  (AR ((decide (p0.gd < 1)))
   (j1 true)
   (j1 (decide (4 < p0.gd))))
def HD (_ : Nat) (p0 : Ab) (p1 : Af) : Option Bool :=
 AR ((p1.gd == 3))
  (some ((decide (p1.gg < (p0.ga.length : Int)))))
  (Bi (fun (v2 : Bool) =>
   some v2)
  fun j2 =>
  AR ((decide (p1.gg < (p0.f9.length : Int))))
   (AR ((p1.gd != 1))
    (j2 true)
    ((Bh p0.f9 p1.gg).bind fun v5 =>
    j2 (decide (p1.gp < v5))))
   (j2 false))
def H1 (N : Nat) (p0 : Ab) (p1 : Ae) (p2 : Af) : Option (Ae × Int) :=
 (HS N p2).bind fun v1 =>
 AR ((!v1))
  (some ((Ae.mk (([] : List Int)) (([] : List Int)) (([] : List Int))), 1))
  ((HD N p0 p2).bind fun v3 =>
  AR ((!v3))
   (some ((Ae.mk (([] : List Int)) (([] : List Int)) (([] : List Int))), 4))
   ((GD N p0 p1 p2).bind fun v5 =>
   AR ((!v5.2))
    (some ((Ae.mk (([] : List Int)) (([] : List Int)) (([] : List Int))), 11))
    (some (v5.1, 0))))
def H2 (N : Nat) (p0 : Ab) (p1 : Ae) (p2 : Af) : Option (Ae × Int) :=
 (Gv N p0 p1).bind fun v1 =>
 AR ((v1 != 0))
  (some ((Ae.mk (([] : List Int)) (([] : List Int)) (([] : List Int))), v1))
  ((H1 N p0 p1 p2).bind fun v3 =>
  some (v3.1, v3.2))
def CI (N : Nat) (p0 : Ab) (v2 : (List AG) × (List (ByteArray × Int)) × Int) (v6 : (List Af) × Int) (j8 : ((List AG) × (List (ByteArray × Int))) → Option ((List AG) × Int)) : Nat → ((List AG) × (List (ByteArray × Int)) × Int) → Option ((List AG) × Int)
 | 0, _ => none
 | n8 + 1, v8 =>
  AR ((decide (v8.2.2 < (v6.1.length : Int))))
   ((Bh v6.1 v8.2.2).bind fun v11 =>
   (Bh v8.1 v2.2.2).bind fun v12 =>
   (H2 N p0 ((Ae.mk v12.gq.gb v12.gq.f7 v12.gq.gc)) v11).bind fun v13 =>
   AR ((v13.2 != 0))
    (some (([] : List AG), v13.2))
    ((Io N v13.1).bind fun v15 =>
    Bi (fun (v16 : (List AG) × (List (ByteArray × Int)) × Int) =>
     Bi (fun (v24 : (List AG)) =>
      AR ((decide (20000 < (v24.length : Int))))
       (some (([] : List AG), 3))
       (CI N p0 v2 v6 j8 n8 (v24, v16.2.1, (wI .i64 (v8.2.2 + 1)))))
     fun j24 =>
     AR ((decide (0 ≤ v16.2.2)))
      ((Bh v16.1 v2.2.2).bind fun v26 =>
      (Dt (v26.f7.length + (([v16.2.2] : List Int)).length ≤ CP)).bind fun _ =>
      (Bh v16.1 v2.2.2).bind fun v28 =>
      j24 (v16.1.set ((v2.2.2).toNat) ((AG.mk ((Ae.mk v28.gq.gb v28.gq.f7 v28.gq.gc)) v28.ge ((Af.mk v28.gw.gd v28.gw.gg v28.gw.gp)) (v26.f7 ++ (([v16.2.2] : List Int)))))))
      (j24 v16.1))
    fun j16 =>
    AR ((!((Mb v15 v8.2.1).isSome)))
     (Bi (fun (v18 : (List AG) × Int) =>
      j16 (v18.1, NR v15 v18.2 v8.2.1, v18.2))
     fun j18 =>
     (Hf N p0 v13.1).bind fun v19 =>
     Bi (fun (v20 : Bool) =>
      AR v20
       (j18 (v8.1, (-1)))
       ((Dt (v8.1.length + (([(AG.mk v13.1 v2.2.2 v11 (([] : List Int)))] : List AG)).length ≤ CP)).bind fun _ =>
       j18 (v8.1 ++ (([(AG.mk v13.1 v2.2.2 v11 (([] : List Int)))] : List AG)), (v8.1.length : Int))))
     fun j20 =>
     AR ((v19.2 != 0))
      (j20 true)
      (j20 (!v19.1)))
     (j16 (v8.1, v8.2.1, ((Mb v15 v8.2.1).getD 0)))))
   (j8 (v8.1, v8.2.1))
def Ea (N : Nat) (p0 : Ab) (j2 : ((List AG)) → Option ((List AG) × Int)) : Nat → ((List AG) × (List (ByteArray × Int)) × Int) → Option ((List AG) × Int)
 | 0, _ => none
 | n2 + 1, v2 =>
  AR ((decide (v2.2.2 < (v2.1.length : Int))))
   ((Bh v2.1 v2.2.2).bind fun v5 =>
   (Ha N p0 ((Ae.mk v5.gq.gb v5.gq.f7 v5.gq.gc))).bind fun v6 =>
   AR ((v6.2 != 0))
    (some (([] : List AG), v6.2))
    (CI N p0 v2 v6 (fun (v9 : (List AG) × (List (ByteArray × Int))) =>
     Ea N p0 j2 n2 (v9.1, v9.2, (wI .i64 (v2.2.2 + 1)))) N (v2.1, v2.2.1, 0)))
   (j2 v2.1)
def HA (N : Nat) (p0 : Ab) (p1 : Ae) : Option ((List AG) × Int) :=
 (Io N p1).bind fun v1 =>
 Ea N p0 (fun (v3 : (List AG)) =>
  some (v3, 0)) N (([(AG.mk p1 ((-1)) ((Af.mk 0 0 0)) (([] : List Int)))] : List AG), NR v1 0 (([] : List (ByteArray × Int))), 0)
def Cm (N : Nat) (p0 : List Int) (p1 : List Int) (j2 : Unit → Option Bool) : Nat → Int → Option Bool
 | 0, _ => none
 | n2 + 1, v2 =>
  AR ((decide (v2 < (p0.length : Int))))
   ((Bh p0 v2).bind fun v5 =>
   (Bh p1 v2).bind fun v6 =>
   AR ((v5 != v6))
    (some false)
    (Cm N p0 p1 j2 n2 (wI .i64 (v2 + 1))))
   (j2 ())
def Ew (N : Nat) (p0 : List Int) (p1 : List Int) : Option Bool :=
 AR (((p0.length : Int) != (p1.length : Int)))
  (some false)
  (Cm N p0 p1 (fun (_ : Unit) =>
   some true) N 0)
def Bp (N : Nat) (p0 : List Int) (p1 : Int → Option Bool) (j1 : Unit → Option Int) : Nat → Int → Option Int
 | 0, _ => none
 | n1 + 1, v1 =>
  AR ((decide (v1 < (p0.length : Int))))
   ((Bh p0 v1).bind fun v4 =>
   (p1 v4).bind fun v5 =>
   AR v5
    (some v1)
    (Bp N p0 p1 j1 n1 (wI .i64 (v1 + 1))))
   (j1 ())
def EF (N : Nat) (p0 : List Int) (p1 : Int → Option Bool) : Option Int :=
 Bp N p0 p1 (fun (_ : Unit) =>
  some ((-1))) N 0
def C5 (N : Nat) (p0 : List Int) (p1 : Int → Option Bool) : Option Bool :=
 (EF N p0 p1).bind fun v1 =>
 some ((decide (0 ≤ v1)))
def HT (_ : Nat) (p0 : Int) : Option Bool :=
 some ((decide (0 ≤ p0)))
def Ji (N : Nat) (p0 : Ab) (p1 : Ae) : Option Bool :=
 Bi (fun (v1 : Bool) =>
  some v1)
 fun j1 =>
 (Gv N p0 p1).bind fun v2 =>
 AR ((v2 == 0))
  ((Ew N p1.gb p0.gj).bind fun v4 =>
  AR v4
   ((C5 N p1.f7 ((fun (x : Int) => HT N x))).bind fun v6 =>
   j1 (!v6))
   (j1 false))
  (j1 false)
def FE (N : Nat) (p0 : AG) (p1 : List Int) (p2 : List Int) (p3 : List Int) (p4 : List Ao) : Option Bool :=
 (Ji N ((Ab.mk p1 p2 p3 p4)) ((Ae.mk p0.gq.gb p0.gq.f7 p0.gq.gc))).bind fun v1 =>
 some v1
def AX (N : Nat) (p0 : List AG) (p1 : AG → Option Bool) (j1 : Unit → Option Int) : Nat → Int → Option Int
 | 0, _ => none
 | n1 + 1, v1 =>
  AR ((decide (v1 < (p0.length : Int))))
   ((Bh p0 v1).bind fun v4 =>
   (p1 ((AG.mk ((Ae.mk v4.gq.gb v4.gq.f7 v4.gq.gc)) v4.ge ((Af.mk v4.gw.gd v4.gw.gg v4.gw.gp)) v4.f7))).bind fun v5 =>
   AR v5
    (some v1)
    (AX N p0 p1 j1 n1 (wI .i64 (v1 + 1))))
   (j1 ())
def CA (N : Nat) (p0 : List AG) (p1 : AG → Option Bool) : Option Int :=
 AX N p0 p1 (fun (_ : Unit) =>
  some ((-1))) N 0
def Bn (N : Nat) (j1 : ((List Af)) → Option ((List Af))) : Nat → ((List Af) × Int × Int) → Option ((List Af))
 | 0, _ => none
 | n1 + 1, v1 =>
  AR ((decide (v1.2.1 < v1.2.2)))
   ((Bh v1.1 v1.2.2).bind fun v4 =>
   (Bh v1.1 v1.2.1).bind fun v5 =>
   (Bh v1.1 v1.2.1).bind fun _ =>
   (Bh (v1.1.set ((v1.2.1).toNat) v4) v1.2.2).bind fun _ =>
   Bn N j1 n1 ((v1.1.set ((v1.2.1).toNat) v4).set ((v1.2.2).toNat) v5, (wI .i64 (v1.2.1 + 1)), (wI .i64 (v1.2.2 - 1))))
   (j1 v1.1)
def BC (N : Nat) (p0 : List Af) : Option ((List Af)) :=
 Bn N (fun (v2 : (List Af)) =>
  some v2) N (p0, 0, (wI .i64 ((p0.length : Int) - 1)))
def GQ (N : Nat) (p0 : List AG) (j1 : ((List Af)) → Option ((List Af))) : Nat → (Int × (List Af)) → Option ((List Af))
 | 0, _ => none
 | n1 + 1, v1 =>
  (Bh p0 v1.1).bind fun v3 =>
  AR ((decide (0 ≤ v3.ge)))
   ((Bh p0 v1.1).bind fun v5 =>
   (Dt (v1.2.length + (([(Af.mk v5.gw.gd v5.gw.gg v5.gw.gp)] : List Af)).length ≤ CP)).bind fun _ =>
   (Bh p0 v1.1).bind fun v7 =>
   GQ N p0 j1 n1 (v7.ge, v1.2 ++ (([(Af.mk v5.gw.gd v5.gw.gg v5.gw.gp)] : List Af))))
   (j1 v1.2)
def Kz (N : Nat) (p0 : List AG) (p1 : Int) : Option ((List Af)) :=
 GQ N p0 (fun (v2 : (List Af)) =>
  (BC N v2).bind fun v8 =>
  some v8) N (p1, ([] : List Af))
def Gn (N : Nat) (p0 : Ab) (p1 : Ae) : Option ((List Af) × Int) :=
 (Hf N p0 p1).bind fun v1 =>
 AR ((v1.2 != 0))
  (some (([] : List Af), v1.2))
  (AR ((!v1.1))
   (some (([] : List Af), 13))
   ((HA N p0 p1).bind fun v4 =>
   AR ((v4.2 != 0))
    (some (([] : List Af), v4.2))
    ((CA N v4.1 ((fun (x : AG) => FE N x p0.f9 p0.gf p0.gj p0.ga))).bind fun v6 =>
    AR ((decide (v6 < 0)))
     (some (([] : List Af), 14))
     ((Kz N v4.1 v6).bind fun v8 =>
     some (v8, 0)))))
def G1 (N : Nat) (p0 : Ab) : Option ((List Af) × Int) :=
 (Ix N p0).bind fun v1 =>
 AR ((v1.2 != 0))
  (some (([] : List Af), v1.2))
  ((Gn N p0 v1.1).bind fun v3 =>
  some (v3.1, v3.2))
def Ei (N : Nat) (p0 : Ab) (p1 : List Aa) : Option (Bool × Int) :=
 (Hd N p0 p1).bind fun v1 =>
 (G1 N v1).bind fun v2 =>
 AR ((v2.2 == 3))
  (some (false, v2.2))
  (some ((v2.2 == 0), 0))
def D7 (N : Nat) (p0 : Ab) (v7 : (List (List Aa))) (j8 : ((List (List Aa))) → Option ((List (List Aa)) × Int)) : Nat → ((List (List Aa)) × Int) → Option ((List (List Aa)) × Int)
 | 0, _ => none
 | n8 + 1, v8 =>
  AR ((decide (v8.2 < (v7.length : Int))))
   (Bi (fun (v11 : (List (List Aa))) =>
    D7 N p0 v7 j8 n8 (v11, (wI .i64 (v8.2 + 1))))
   fun j11 =>
   (Bh v7 v8.2).bind fun v12 =>
   (Ei N p0 v12).bind fun v13 =>
   AR ((v13.2 != 0))
    (some (([] : List (List Aa)), v13.2))
    (AR v13.1
     ((Dt (v8.1.length + (([v12] : List (List Aa))).length ≤ CP)).bind fun _ =>
     j11 (v8.1 ++ (([v12] : List (List Aa)))))
     (j11 v8.1)))
   (j8 v8.1)
def ER (N : Nat) (p0 : Ab) (j4 : Unit → Option ((List (List Aa)) × Int)) : Nat → ((List Aa) × Int) → Option ((List (List Aa)) × Int)
 | 0, _ => none
 | n4 + 1, v4 =>
  AR ((decide (v4.2 ≤ 3)))
   ((Jr N v4.1 v4.2).bind fun v7 =>
   D7 N p0 v7 (fun (v9 : (List (List Aa))) =>
    AR ((decide (0 < (v9.length : Int))))
     (some (v9, 0))
     (ER N p0 j4 n4 (v4.1, (wI .i64 (v4.2 + 1))))) N (([] : List (List Aa)), 0))
   (j4 ())
def FH (N : Nat) (p0 : Ab) : Option ((List (List Aa)) × Int) :=
 (Fj N p0).bind fun v1 =>
 AR ((v1.2 != 0))
  (some (([] : List (List Aa)), v1.2))
  (AR ((decide (24 < (v1.1.length : Int))))
   (some (([] : List (List Aa)), 3))
   (ER N p0 (fun (_ : Unit) =>
    some (([] : List (List Aa)), 14)) N (v1.1, 0)))
def BV (N : Nat) (p0 : List Aa) (p1 : Aa) (j1 : Unit → Option Int) : Nat → Int → Option Int
 | 0, _ => none
 | n1 + 1, v1 =>
  AR ((decide (v1 < (p0.length : Int))))
   ((Bh p0 v1).bind fun v4 =>
   AR (((p1.gt == v4.gt) && ((p1.gr == v4.gr) && ((p1.gu == v4.gu) && true))))
    (some v1)
    (BV N p0 p1 j1 n1 (wI .i64 (v1 + 1))))
   (j1 ())
def Dr (N : Nat) (p0 : List Aa) (p1 : Aa) : Option Int :=
 BV N p0 p1 (fun (_ : Unit) =>
  some ((-1))) N 0
def C4 (N : Nat) (p0 : List Aa) (p1 : Aa) : Option Bool :=
 (Dr N p0 p1).bind fun v1 =>
 some ((decide (0 ≤ v1)))
def GI (N : Nat) (p1 : List Aa) (v3 : (List Aa)) (j4 : Unit → Option Int) : Nat → Int → Option Int
 | 0, _ => none
 | n4 + 1, v4 =>
  AR ((decide (v4 < (p1.length : Int))))
   ((Bh p1 v4).bind fun v7 =>
   (C4 N v3 v7).bind fun v8 =>
   AR ((!v8))
    (some 4)
    (GI N p1 v3 j4 n4 (wI .i64 (v4 + 1))))
   (j4 ())
def I3 (N : Nat) (p0 : Ab) (p1 : List Aa) : Option Int :=
 (BG N p0).bind fun v1 =>
 AR ((v1 != 0))
  (some v1)
  ((Ek N p0).bind fun v3 =>
  GI N p1 v3 (fun (_ : Unit) =>
   some 0) N 0)
def Cl (_ : Nat) (p0 : List Aa) : Option ((List Aa)) :=
 (Dt ((([] : List Aa)).length + p0.length ≤ CP)).bind fun _ =>
 some ((([] : List Aa)) ++ p0)
def BX (_ : Nat) (p0 : List Aa) (p1 : (Aa × Aa) → Option Int) : Option (List Aa) := RH p1 H3 p0
def GO (_ : Nat) (p0 : Int) : Option Bool :=
 some ((p0 != p0))
def En (N : Nat) (p0 : Int) (p1 : Int) : Option Int :=
 (GO N p0).bind fun v1 =>
 (GO N p1).bind fun v2 =>
 AR v1
  (AR v2
   (some 0)
   (some ((-1))))
  (AR v2
   (some 1)
   (AR ((decide (p0 < p1)))
    (some ((-1)))
    (AR ((decide (p1 < p0)))
     (some 1)
     (some 0))))
def FZ (N : Nat) (p0 : List Int) (j1 : Unit → Option Int) : Nat → Int → Option Int
 | 0, _ => none
 | n1 + 1, v1 =>
  AR ((decide (v1 < (p0.length : Int))))
   ((Bh p0 v1).bind fun v4 =>
   AR ((v4 != 0))
    (some v4)
    (FZ N p0 j1 n1 (wI .i64 (v1 + 1))))
   (j1 ())
def HW (N : Nat) (p0 : List Int) : Option Int :=
 FZ N p0 (fun (_ : Unit) =>
  some 0) N 0
def CU (N : Nat) (p0 : Aa) (p1 : Aa) : Option Int :=
 (En N p0.gt p1.gt).bind fun v1 =>
 (En N p0.gr p1.gr).bind fun v2 =>
 (En N p0.gu p1.gu).bind fun v3 =>
 (HW N (([v1, v2, v3] : List Int))).bind fun v4 =>
 some v4
def BL (N : Nat) (p0 : List Aa) (v2 : Int) (j10 : ((List Aa) × Int) → Option (Nat × (List Aa))) : Nat → ((List Aa) × Int × Int) → Option (Nat × (List Aa))
 | 0, _ => none
 | n10 + 1, v10 =>
  AR ((decide (v10.2.2 < ((((p0.length - (v2).toNat)) : Nat) : Int))))
   (Bi (fun (v13 : (List Aa) × Int) =>
    BL N p0 v2 j10 n10 (v13.1, v13.2, (wI .i64 (v10.2.2 + 1))))
   fun j13 =>
   (Dt (((v2).toNat) + ((p0.length - (v2).toNat)) ≤ v10.1.length)).bind fun _ =>
   (Bh (((v10.1.drop ((v2).toNat)).take ((p0.length - (v2).toNat)))) v10.2.2).bind fun v14 =>
   (Bh (((v10.1.drop ((v2).toNat)).take ((p0.length - (v2).toNat)))) ((wI .i64 (v10.2.2 - 1)))).bind fun v16 =>
   AR ((!((v14.gt == v16.gt) && ((v14.gr == v16.gr) && ((v14.gu == v16.gu) && true)))))
    ((Bh (((v10.1.drop ((v2).toNat)).take ((p0.length - (v2).toNat)))) v10.2.2).bind fun v18 =>
    (Bh v10.1 v10.2.1).bind fun _ =>
    j13 (v10.1.set ((v10.2.1).toNat) v18, (wI .i64 (v10.2.1 + 1))))
    (j13 (v10.1, v10.2.1)))
   (j10 (v10.1, v10.2.1))
def BQ (N : Nat) (p0 : List Aa) (j2 : Unit → Option (Nat × (List Aa))) : Nat → Int → Option (Nat × (List Aa))
 | 0, _ => none
 | n2 + 1, v2 =>
  AR ((decide (v2 < (p0.length : Int))))
   ((Bh p0 v2).bind fun v5 =>
   (Bh p0 ((wI .i64 (v2 - 1)))).bind fun v6 =>
   AR (((v5.gt == v6.gt) && ((v5.gr == v6.gr) && ((v5.gu == v6.gu) && true))))
    ((Dt ((0 : Int) ≤ v2 ∧ (v2).toNat ≤ p0.length ∧ p0.length ≤ p0.length)).bind fun _ =>
    BL N p0 v2 (fun (v11 : (List Aa) × Int) =>
     (Dt ((0 : Int) ≤ v11.2 ∧ (v11.2).toNat ≤ v11.1.length ∧ v11.1.length ≤ v11.1.length)).bind fun _ =>
     (Dt ((0 : Int) ≤ v11.2 ∧ 0 ≤ (v11.2).toNat ∧ (v11.2).toNat ≤ (GZ v11.1 ((v11.2).toNat) (zD ((v11.1.length - (v11.2).toNat)) ((Aa.mk 0 0 0)))).length)).bind fun _ =>
     some ((v11.2).toNat, GZ v11.1 ((v11.2).toNat) (zD ((v11.1.length - (v11.2).toNat)) ((Aa.mk 0 0 0))))) N (p0, v2, 1))
    (BQ N p0 j2 n2 (wI .i64 (v2 + 1))))
   (j2 ())
def Bt (N : Nat) (p0 : List Aa) : Option (Nat × (List Aa)) :=
 AR ((decide ((p0.length : Int) < 2)))
  (some (p0.length, p0))
  (BQ N p0 (fun (_ : Unit) =>
   some (p0.length, p0)) N 1)
def Dn (_ : Nat) (p0 : List Aa) (p1 : Int) (p2 : Int) : Option (Nat × (List Aa)) :=
 (Dt ((0 : Int) ≤ p1 ∧ (p1).toNat ≤ (p2).toNat ∧ 0 ≤ p2 ∧ (p2).toNat ≤ ((p0.length : Int)).toNat ∧ 0 ≤ (p0.length : Int) ∧ ((p0.length : Int)).toNat ≤ p0.length)).bind fun _ =>
 AR ((p1 == p2))
  (some (p0.length, p0))
  ((Dt ((0 : Int) ≤ p1 ∧ 0 ≤ (p1).toNat ∧ (p1).toNat ≤ p0.length)).bind fun _ =>
  (Dt ((0 : Int) ≤ p2 ∧ (p2).toNat ≤ p0.length ∧ p0.length ≤ p0.length)).bind fun _ =>
  (Dt ((p1).toNat + (((p0.drop ((p2).toNat)).take ((p0.length - (p2).toNat)))).length ≤ p0.length)).bind fun _ =>
  (Dt ((0 : Int) ≤ (((((p1).toNat + (((p0.drop ((p2).toNat)).take ((p0.length - (p2).toNat)))).length)) : Nat) : Int) ∧ (0 : Int) ≤ (p0.length : Int) ∧ ((((((p1).toNat + (((p0.drop ((p2).toNat)).take ((p0.length - (p2).toNat)))).length)) : Nat) : Int)).toNat ≤ ((p0.length : Int)).toNat ∧ ((p0.length : Int)).toNat ≤ (GZ p0 (0 + ((p1).toNat)) (((p0.drop ((p2).toNat)).take ((p0.length - (p2).toNat))))).length)).bind fun _ =>
  some (((p1).toNat + (((p0.drop ((p2).toNat)).take ((p0.length - (p2).toNat)))).length), GZ (GZ p0 (0 + ((p1).toNat)) (((p0.drop ((p2).toNat)).take ((p0.length - (p2).toNat))))) (((((((p1).toNat + (((p0.drop ((p2).toNat)).take ((p0.length - (p2).toNat)))).length)) : Nat) : Int)).toNat) (zD ((((p0.length : Int)).toNat - ((((((p1).toNat + (((p0.drop ((p2).toNat)).take ((p0.length - (p2).toNat)))).length)) : Nat) : Int)).toNat)) ((Aa.mk 0 0 0)))))
def FX (N : Nat) (p0 : Ab) (v5 : Nat × (List Aa)) (j14 : Bool → Option (Bool × Int)) : Nat → (Bool × Int) → Option (Bool × Int)
 | 0, _ => none
 | n14 + 1, v14 =>
  AR ((decide (v14.2 < ((v5.2.take v5.1).length : Int))))
   (Bi (fun (v17 : Bool) =>
    FX N p0 v5 j14 n14 (v17, (wI .i64 (v14.2 + 1))))
   fun j17 =>
   (Cl N (v5.2.take v5.1)).bind fun v18 =>
   (Dn N v18 v14.2 ((wI .i64 (v14.2 + 1)))).bind fun v19 =>
   (Dt (v19.1 ≤ v19.2.length)).bind fun _ =>
   (Ei N p0 (((v19.2.drop 0).take v19.1))).bind fun v22 =>
   AR ((v22.2 != 0))
    (some (false, v22.2))
    (AR v14.1
     (j17 (!v22.1))
     (j17 false)))
   (j14 v14.1)
def Ia (N : Nat) (p0 : Ab) (p1 : List Aa) : Option (Bool × Int) :=
 (I3 N p0 p1).bind fun v1 =>
 AR ((v1 != 0))
  (some (false, v1))
  ((Cl N p1).bind fun v3 =>
  (BX N v3 ((fun (x : Aa × Aa) => CU N x.1 x.2))).bind fun v4 =>
  (Bt N v4).bind fun v5 =>
  (Dt (v5.1 ≤ v5.2.length)).bind fun _ =>
  Bi (fun (v8 : Bool) =>
   AR v8
    (some (false, 3))
    ((Ei N p0 (v5.2.take v5.1)).bind fun v12 =>
    AR ((v12.2 != 0))
     (some (false, v12.2))
     (FX N p0 v5 (fun (v15 : Bool) =>
      some (v15, 0)) N (v12.1, 0))))
  fun j8 =>
  (Ek N p0).bind fun v9 =>
  AR ((decide (24 < (v9.length : Int))))
   (j8 true)
   (j8 (decide (3 < ((v5.2.take v5.1).length : Int)))))
def F1 (N : Nat) (p0 : Ab) : Option ((List Aa) × Int) :=
 (FH N p0).bind fun v1 =>
 AR ((v1.2 != 0))
  (some (([] : List Aa), v1.2))
  ((Bh v1.1 0).bind fun v3 =>
  some (v3, 0))
def Ex (N : Nat) : Option Bool :=
 (D1 N).bind fun v1 =>
 (FH N v1).bind fun v2 =>
 (D1 N).bind fun v3 =>
 (Fj N v3).bind fun v4 =>
 (D1 N).bind fun v5 =>
 (Ia N v5 v4.1).bind fun v6 =>
 (D1 N).bind fun v7 =>
 (F1 N v7).bind fun v8 =>
 Bi (fun (v9 : Bool) =>
  some v9)
 fun j9 =>
 AR ((v2.2 == 0))
  (AR ((v4.2 == 0))
   (AR ((v6.2 == 0))
    (AR ((v8.2 == 0))
     (AR (((v2.1.length : Int) == 2))
      (AR (((v4.1.length : Int) == 2))
       ((Bh v4.1 0).bind fun v16 =>
       AR (((v16.gt == 0) && ((v16.gr == 0) && ((v16.gu == 1) && true))))
        (AR ((!v6.1))
         (AR (((v8.1.length : Int) == 1))
          ((Bh v8.1 0).bind fun v20 =>
          j9 ((v20.gt == 0) && ((v20.gr == 0) && ((v20.gu == 1) && true))))
          (j9 false))
         (j9 false))
        (j9 false))
       (j9 false))
      (j9 false))
     (j9 false))
    (j9 false))
   (j9 false))
  (j9 false)
def CT (N : Nat) (p0 : List Aa) (v2 : (List (List Aa)) × Int) (v6 : (List (List Aa))) (j7 : ((List (List Aa))) → Option ((List (List Aa)))) : Nat → ((List (List Aa)) × Int) → Option ((List (List Aa)))
 | 0, _ => none
 | n7 + 1, v7 =>
  AR ((decide (v7.2 < (v6.length : Int))))
   ((Bh p0 v2.2).bind fun v10 =>
   (Bh v6 v7.2).bind fun v11 =>
   (Dt ((([v10] : List Aa)).length + v11.length ≤ CP)).bind fun _ =>
   (Dt (v7.1.length + (([((([v10] : List Aa)) ++ v11)] : List (List Aa))).length ≤ CP)).bind fun _ =>
   CT N p0 v2 v6 j7 n7 (v7.1 ++ (([((([v10] : List Aa)) ++ v11)] : List (List Aa))), (wI .i64 (v7.2 + 1))))
   (j7 v7.1)
def Ci (N : Nat) (p0 : List Aa) (p1 : Int) (rc : (List Aa) → Int → Option ((List (List Aa)))) (j2 : ((List (List Aa))) → Option ((List (List Aa)))) : Nat → ((List (List Aa)) × Int) → Option ((List (List Aa)))
 | 0, _ => none
 | n2 + 1, v2 =>
  AR ((decide (v2.2 < (p0.length : Int))))
   ((Dt ((0 : Int) ≤ (wI .i64 (v2.2 + 1)) ∧ ((wI .i64 (v2.2 + 1))).toNat ≤ p0.length ∧ p0.length ≤ p0.length)).bind fun _ =>
   (rc (((p0.drop ((wI .i64 (v2.2 + 1))).toNat).take (p0.length - ((wI .i64 (v2.2 + 1))).toNat))) ((wI .i64 (p1 - 1)))).bind fun v6 =>
   CT N p0 v2 v6 (fun (v8 : (List (List Aa))) =>
    Ci N p0 p1 rc j2 n2 (v8, (wI .i64 (v2.2 + 1)))) N (v2.1, 0))
   (j2 v2.1)
def FI (N : Nat) (rc : (List Aa) → Int → Option ((List (List Aa)))) (p0 : List Aa) (p1 : Int) : Option ((List (List Aa))) :=
 AR ((p1 == 0))
  (some (([([] : List Aa)] : List (List Aa))))
  (Ci N p0 p1 rc (fun (v3 : (List (List Aa))) =>
   some v3) N (([] : List (List Aa)), 0))
def Cx (N : Nat) : Nat → (List Aa) → Int → Option ((List (List Aa)))
 | 0, _, _ => none
 | k + 1, p0, p1 => FI N (Cx N k) p0 p1
def Hh (N : Nat) (p0 : List Aa) (p1 : Int) : Option ((List (List Aa))) := Cx N N p0 p1
def Dl (N : Nat) (p0 : Ab) (p1 : Ae) (j3 : Unit → Option Bool) : Nat → Int → Option Bool
 | 0, _ => none
 | n3 + 1, v3 =>
  AR ((decide (v3 < (p1.gb.length : Int))))
   (Bi (fun (v6 : Bool) =>
    AR v6
     (some false)
     (Dl N p0 p1 j3 n3 (wI .i64 (v3 + 1))))
   fun j6 =>
   (Bh p1.f7 v3).bind fun v7 =>
   AR ((decide (0 ≤ v7)))
    (j6 true)
    ((Bh p1.gb v3).bind fun v9 =>
    (Bh p0.gj v3).bind fun v10 =>
    j6 (v9 != v10)))
   (j3 ())
def FR (N : Nat) (p0 : Ab) (p1 : Ae) : Option Bool :=
 (DO N p0 p1).bind fun v1 =>
 AR ((v1 != 0))
  (some false)
  (Dl N p0 p1 (fun (_ : Unit) =>
   some true) N 0)
def Ec (N : Nat) (p0 : List AF) (j1 : ((List Af)) → Option ((List Af))) : Nat → (Int × (List Af)) → Option ((List Af))
 | 0, _ => none
 | n1 + 1, v1 =>
  (Bh p0 v1.1).bind fun v3 =>
  AR ((decide (0 ≤ v3.gB)))
   ((Bh p0 v1.1).bind fun v5 =>
   (Dt ((([(Af.mk v5.gw.gd v5.gw.gg v5.gw.gp)] : List Af)).length + v1.2.length ≤ CP)).bind fun _ =>
   (Bh p0 v1.1).bind fun v7 =>
   Ec N p0 j1 n1 (v7.gB, (([(Af.mk v5.gw.gd v5.gw.gg v5.gw.gp)] : List Af)) ++ v1.2))
   (j1 v1.2)
def GY (N : Nat) (p0 : List AF) (p1 : Int) : Option ((List Af)) :=
 Ec N p0 (fun (v2 : (List Af)) =>
  some v2) N (p1, ([] : List Af))
def CJ (N : Nat) (p0 : Ab) (v5 : (List AF) × Bool) (j7 : Unit → Option ((List Af) × Int)) : Nat → Int → Option ((List Af) × Int)
 | 0, _ => none
 | n7 + 1, v7 =>
  AR ((decide (v7 < (v5.1.length : Int))))
   ((Bh v5.1 v7).bind fun v10 =>
   (FR N p0 ((Ae.mk v10.gx.gb v10.gx.f7 v10.gx.gc))).bind fun v11 =>
   AR v11
    ((GY N v5.1 v7).bind fun v13 =>
    some (v13, 0))
    (CJ N p0 v5 j7 n7 (wI .i64 (v7 + 1))))
   (j7 ())
def ET (N : Nat) (p0 : Ab) (p1 : Ae) : Option ((List Af) × Int) :=
 (DO N p0 p1).bind fun v1 =>
 AR ((v1 != 0))
  (some (([] : List Af), v1))
  ((C2 N p0 p1).bind fun v3 =>
  AR ((!v3))
   (some (([] : List Af), 13))
   ((De N p0 p1 20000).bind fun v5 =>
   AR ((!v5.2))
    (some (([] : List Af), 3))
    (CJ N p0 v5 (fun (_ : Unit) =>
     some (([] : List Af), 14)) N 0)))
def zFS (N : Nat) (p0 : Ab) : Option ((List Af) × Int) :=
 (Ep N p0).bind fun v1 =>
 AR ((v1.2 != 0))
  (some (([] : List Af), v1.2))
  ((ET N p0 v1.1).bind fun v3 =>
  some (v3.1, v3.2))
def EK (N : Nat) (p0 : Ab) (p1 : List Aa) : Option (Bool × Int) :=
 (EZ N p0 p1).bind fun v1 =>
 (zFS N v1).bind fun v2 =>
 AR ((v2.2 == 3))
  (some (false, v2.2))
  (some ((v2.2 == 0), 0))
def CY (N : Nat) (p0 : Ab) (v8 : (List (List Aa))) (j9 : ((List (List Aa))) → Option ((List (List Aa)) × Int)) : Nat → ((List (List Aa)) × Int) → Option ((List (List Aa)) × Int)
 | 0, _ => none
 | n9 + 1, v9 =>
  AR ((decide (v9.2 < (v8.length : Int))))
   (Bi (fun (v12 : (List (List Aa))) =>
    CY N p0 v8 j9 n9 (v12, (wI .i64 (v9.2 + 1))))
   fun j12 =>
   (Bh v8 v9.2).bind fun v13 =>
   (EK N p0 v13).bind fun v14 =>
   AR ((v14.2 != 0))
    (some (([] : List (List Aa)), v14.2))
    (AR v14.1
     ((Bh v8 v9.2).bind fun v17 =>
     (Dt (v9.1.length + (([v17] : List (List Aa))).length ≤ CP)).bind fun _ =>
     j12 (v9.1 ++ (([v17] : List (List Aa)))))
     (j12 v9.1)))
   (j9 v9.1)
def Dy (N : Nat) (p0 : Ab) (j5 : Unit → Option ((List (List Aa)) × Int)) : Nat → ((List Aa) × Int) → Option ((List (List Aa)) × Int)
 | 0, _ => none
 | n5 + 1, v5 =>
  AR ((decide (v5.2 ≤ 3)))
   ((Hh N v5.1 v5.2).bind fun v8 =>
   CY N p0 v8 (fun (v10 : (List (List Aa))) =>
    AR ((decide (0 < (v10.length : Int))))
     (some (v10, 0))
     (Dy N p0 j5 n5 (v5.1, (wI .i64 (v5.2 + 1))))) N (([] : List (List Aa)), 0))
   (j5 ())
def Fo (N : Nat) (p0 : Ab) : Option ((List (List Aa)) × Int) :=
 (Cb N p0).bind fun v1 =>
 AR ((v1 != 0))
  (some (([] : List (List Aa)), v1))
  ((Dm N p0).bind fun v3 =>
  AR ((decide (24 < (v3.length : Int))))
   (some (([] : List (List Aa)), 3))
   (Dy N p0 (fun (_ : Unit) =>
    some (([] : List (List Aa)), 14)) N (v3, 0)))
def A0 (_ : Nat) (p0 : Int) : Option ((List Aa)) :=
 Bi (fun (_ : Unit) =>
  Bi (fun (v3 : (List Aa)) =>
   some v3)
  fun j3 =>
  AR ((decide (0 < (wI .i64 (p0 - (wI .i64 (0 - ((0 : Nat) : Int))))))))
   ((Dt (0 < (wI .i64 (p0 - (wI .i64 (0 - ((0 : Nat) : Int))))) ∧ (wI .i64 (p0 - (wI .i64 (0 - ((0 : Nat) : Int))))) ≤ CP)).bind fun _ =>
   (Dt ((0 : Int) ≤ ((0 : Nat) : Int) ∧ 0 ≤ (((0 : Nat) : Int)).toNat ∧ (((0 : Nat) : Int)).toNat ≤ (zD ((wI .i64 (p0 - (wI .i64 (0 - ((0 : Nat) : Int)))))).toNat ((Aa.mk 0 0 0))).length)).bind fun _ =>
   j3 ((zD ((wI .i64 (p0 - (wI .i64 (0 - ((0 : Nat) : Int)))))).toNat ((Aa.mk 0 0 0))).take ((((0 : Nat) : Int)).toNat)))
   (j3 ([] : List Aa)))
 fun j1 =>
 AR ((decide (p0 < 0)))
  (none)
  (j1 ())
def A9 (N : Nat) (p0 : List (List Aa)) (j1 : Int → Option ((List Aa))) : Nat → (Int × Int) → Option ((List Aa))
 | 0, _ => none
 | n1 + 1, v1 =>
  AR ((decide (v1.2 < (p0.length : Int))))
   (Bi (fun (v4 : Int) =>
    A9 N p0 j1 n1 (v4, (wI .i64 (v1.2 + 1))))
   fun j4 =>
   (Bh p0 v1.2).bind fun v5 =>
   AR ((decide ((wI .i64 (v1.1 + (v5.length : Int))) < 0)))
    (none)
    (j4 (wI .i64 (v1.1 + (v5.length : Int)))))
   (j1 v1.1)
def AV (N : Nat) (p0 : List (List Aa)) (j8 : ((List Aa)) → Option ((List Aa))) : Nat → ((List Aa) × Int) → Option ((List Aa))
 | 0, _ => none
 | n8 + 1, v8 =>
  AR ((decide (v8.2 < (p0.length : Int))))
   ((Bh p0 v8.2).bind fun v11 =>
   (Dt (v8.1.length + v11.length ≤ CP)).bind fun _ =>
   AV N p0 j8 n8 (v8.1 ++ v11, (wI .i64 (v8.2 + 1))))
   (j8 v8.1)
def Bw (N : Nat) (p0 : List (List Aa)) : Option ((List Aa)) :=
 A9 N p0 (fun (v2 : Int) =>
  (A0 N v2).bind fun v7 =>
  AV N p0 (fun (v9 : (List Aa)) =>
   some v9) N (v7, 0)) N (0, 0)
def Gq (N : Nat) (p0 : Ab) : Option ((List Aa) × Int) :=
 (FH N p0).bind fun v1 =>
 AR ((v1.2 != 0))
  (some (([] : List Aa), v1.2))
  ((Bw N v1.1).bind fun v3 =>
  (BX N v3 ((fun (x : Aa × Aa) => CU N x.1 x.2))).bind fun v4 =>
  (Bt N v4).bind fun v5 =>
  (Dt (v5.1 ≤ v5.2.length)).bind fun _ =>
  some (v5.2.take v5.1, 0))
def Du (N : Nat) (v1 : (List (List Aa)) × Int) (v3 : (List Aa)) (v4 : (List Aa) × Int) (j7 : ((List Aa)) → Option ((List Aa) × Int)) : Nat → ((List Aa) × Int) → Option ((List Aa) × Int)
 | 0, _ => none
 | n7 + 1, v7 =>
  AR ((decide (v7.2 < (v1.1.length : Int))))
   (Bi (fun (v10 : (List Aa)) =>
    Du N v1 v3 v4 j7 n7 (v10, (wI .i64 (v7.2 + 1))))
   fun j10 =>
   Bi (fun (v11 : Bool) =>
    AR v11
     ((Bh v3 v4.2).bind fun v19 =>
     (Dt (v7.1.length + (([v19] : List Aa)).length ≤ CP)).bind fun _ =>
     j10 (v7.1 ++ (([v19] : List Aa))))
     (j10 v7.1))
   fun j11 =>
   (Bh v1.1 v7.2).bind fun v12 =>
   (Bh v3 v4.2).bind fun v13 =>
   (EO N v12 v13).bind fun v14 =>
   AR v14
    ((Bh v3 v4.2).bind fun v16 =>
    (EO N v7.1 v16).bind fun v17 =>
    j11 (!v17))
    (j11 false))
   (j7 v7.1)
def Dv (N : Nat) (v1 : (List (List Aa)) × Int) (v3 : (List Aa)) (j4 : ((List Aa)) → Option ((List Aa) × Int)) : Nat → ((List Aa) × Int) → Option ((List Aa) × Int)
 | 0, _ => none
 | n4 + 1, v4 =>
  AR ((decide (v4.2 < (v3.length : Int))))
   (Du N v1 v3 v4 (fun (v8 : (List Aa)) =>
    Dv N v1 v3 j4 n4 (v8, (wI .i64 (v4.2 + 1)))) N (v4.1, 0))
   (j4 v4.1)
def Fd (N : Nat) (p0 : Ab) : Option ((List Aa) × Int) :=
 (Fo N p0).bind fun v1 =>
 AR ((v1.2 != 0))
  (some (([] : List Aa), v1.2))
  ((Dm N p0).bind fun v3 =>
  Dv N v1 v3 (fun (v5 : (List Aa)) =>
   some (v5, 0)) N (([] : List Aa), 0))
def D0 (N : Nat) (p0 : List Aa) (p1 : List Aa) (j2 : Unit → Option Bool) : Nat → Int → Option Bool
 | 0, _ => none
 | n2 + 1, v2 =>
  AR ((decide (v2 < (p0.length : Int))))
   ((Bh p0 v2).bind fun v5 =>
   (Bh p1 v2).bind fun v6 =>
   AR ((!((v5.gt == v6.gt) && ((v5.gr == v6.gr) && ((v5.gu == v6.gu) && true)))))
    (some false)
    (D0 N p0 p1 j2 n2 (wI .i64 (v2 + 1))))
   (j2 ())
def D3 (N : Nat) (p0 : List Aa) (p1 : List Aa) : Option Bool :=
 AR (((p0.length : Int) != (p1.length : Int)))
  (some false)
  (D0 N p0 p1 (fun (_ : Unit) =>
   some true) N 0)
def C8 (N : Nat) (p0 : List (List Aa)) (p1 : List (List Aa)) (j2 : Unit → Option Bool) : Nat → Int → Option Bool
 | 0, _ => none
 | n2 + 1, v2 =>
  AR ((decide (v2 < (p0.length : Int))))
   ((Bh p0 v2).bind fun v5 =>
   (Bh p1 v2).bind fun v6 =>
   (D3 N v5 v6).bind fun v7 =>
   AR ((!v7))
    (some false)
    (C8 N p0 p1 j2 n2 (wI .i64 (v2 + 1))))
   (j2 ())
def Fz (N : Nat) (p0 : List (List Aa)) (p1 : List (List Aa)) : Option Bool :=
 AR (((p0.length : Int) != (p1.length : Int)))
  (some false)
  (C8 N p0 p1 (fun (_ : Unit) =>
   some true) N 0)
def Di (N : Nat) (p0 : Bz) : Option Bool :=
 (Gp N p0).bind fun v1 =>
 Bi (fun (v2 : Bool) =>
  AR v2
   ((Ex N).bind fun v6 =>
   some v6)
   ((FH N v1.1).bind fun v7 =>
   (Fo N v1.1).bind fun v8 =>
   (F1 N v1.1).bind fun v9 =>
   (Gq N v1.1).bind fun v10 =>
   (Fd N v1.1).bind fun v11 =>
   Bi (fun (v12 : Bool) =>
    AR v12
     (some false)
     (Bi (fun (v20 : Bool) =>
      some v20)
     fun j20 =>
     AR ((v8.2 == 0))
      ((Bh v8.1 0).bind fun v22 =>
      (D3 N v9.1 v22).bind fun v23 =>
      AR v23
       (j20 true)
       (AR ((v8.2 != 0))
        (j20 ((v9.1.length : Int) == 0))
        (j20 false)))
      (AR ((v8.2 != 0))
       (j20 ((v9.1.length : Int) == 0))
       (j20 false))))
   fun j12 =>
   AR ((v7.2 != v8.2))
    (j12 true)
    (AR ((v9.2 != v8.2))
     (j12 true)
     (AR ((v10.2 != v8.2))
      (j12 true)
      ((Fz N v7.1 v8.1).bind fun v16 =>
      AR ((!v16))
       (j12 true)
       ((D3 N v10.1 v11.1).bind fun v18 =>
       j12 (!v18)))))))
 fun j2 =>
 (Ex N).bind fun v3 =>
 AR ((!v3))
  (j2 true)
  (j2 (!v1.2))
def PL {α : Type} (w : α → Prop) (xs : List α) : Prop := ∀ x, x ∈ xs → w x
def MK (n : Int) : Prop := (Lit.int .u8 n).wf = true
def ci (n : Int) : Prop := (Lit.int .u16 n).wf = true
def I2 (x : H6) : Prop := MK x.gd ∧ MK x.ge ∧ MK x.gi ∧ (fun _ => True) x.gl ∧ ci x.gz ∧ ci x.gA ∧ True
def FK (x : Bz) : Prop := (PL MK) x.f9 ∧ (PL MK) x.gf ∧ (PL MK) x.gj ∧ (PL I2) x.gy ∧ True
open Go.RowKit
open Go.Proofs
abbrev OV (x : H6) : List C := [.pure (.val (.int .u8 x.gd)), .pure (.val (.int .u8 x.ge)), .pure (.val (.int .u8 x.gi)), .pure (.val (.bool x.gl)), .pure (.val (.int .u16 x.gz)), .pure (.val (.int .u16 x.gA))]
abbrev Dc (x : Bz) : List C := [sC (x.f9.map El), sC (x.gf.map El), sC (x.gj.map El), sC (x.gy.map HK)]
abbrev Bj (x : Ao) : List C := [iC x.gd, iC x.ge, iC x.gi, .pure (.val (.bool x.gl)), sC (x.gh.map (DG eB)), sC (x.gk.map (DG eB))]
abbrev Ai (x : Ab) : List C := [sC (x.f9.map Aq), sC (x.gf.map Aq), sC (x.gj.map Aq), sC (x.ga.map AJ)]
abbrev Fs (x : Aa) : List C := [iC x.gt, iC x.gr, iC x.gu]
abbrev AL (x : Ae) : List C := [sC (x.gb.map Aq), sC (x.f7.map Aq), sC (x.gc.map El)]
abbrev DL (x : Af) : List C := [iC x.gd, iC x.gg, iC x.gp]
abbrev Xn (x : AG) : List C := [sC (x.gq.gb.map Aq), sC (x.gq.f7.map Aq), sC (x.gq.gc.map El), iC x.ge, iC x.gw.gd, iC x.gw.gg, iC x.gw.gp, sC (x.f7.map Aq)]
theorem Ax : Tryz.prog.follows .mixedOrders = true := by kernel_rfl
theorem wq {X : Jp} {y : Code} {id : Nat} {ops : Array Oper} {dr : Bool} {Q : Exit → St → Prop} {st : St} {n : Nat} (hn : ops.size = n) (h : A8 zA X ops dr (fun st' => W zA X y Q st') n 0 st []) : W zA X (.seq (.region id ops dr) y) Q st := fX Ax hn h
theorem wp {X : Jp} {y z : Code} {id : Nat} {ops : Array Oper} {dr : Bool} {Q : Exit → St → Prop} {st : St} {n : Nat} (hn : ops.size = n) (h : A8 zA X ops dr (fun st' => W zA X y (RO (W zA X z Q) Q) st') n 0 st []) : W zA X (.seq (.seq (.region id ops dr) y) z) Q st := AP (fX Ax hn h)
theorem Hu : FW zA 101 true = true := by kernel_rfl
theorem dg : FW zA 103 true = true := by kernel_rfl
theorem YC : FW zA 22 false = true := by kernel_rfl
theorem cL : FW zA 23 false = true := by kernel_rfl
theorem dh : FW zA 25 true = true := by kernel_rfl
theorem Bb : FW zA 26 false = true := by kernel_rfl
theorem Gm : FW zA 27 false = true := by kernel_rfl
theorem CD : FW zA 29 true = true := by kernel_rfl
theorem Cr : FW zA 3 false = true := by kernel_rfl
theorem Pw : FW zA 33 false = true := by kernel_rfl
theorem UL : FW zA 4 false = true := by kernel_rfl
theorem It : FW zA 45 true = true := by kernel_rfl
theorem dC : FW zA 5 false = true := by kernel_rfl
theorem Ir : FW zA 62 false = true := by kernel_rfl
theorem B7 : FW zA 64 true = true := by kernel_rfl
theorem Hr : FW zA 74 false = true := by kernel_rfl
theorem HB : FW zA 76 true = true := by kernel_rfl
theorem LU : FW zA 77 false = true := by kernel_rfl
theorem ev : FW zA 86 false = true := by kernel_rfl
theorem fw : FW zA 88 true = true := by kernel_rfl
theorem LO : FW zA 94 false = true := by kernel_rfl
theorem d6 : Sv zA 22 = true := by kernel_rfl
theorem OW : Fl zA 101 24 = true := by kernel_rfl
theorem ck : Fl zA 103 128 = true := by kernel_rfl
theorem cm : Fl zA 154 104 = true := by kernel_rfl
theorem LX : Fl zA 3 8 = true := by kernel_rfl
theorem WV : Fl zA 33 24 = true := by kernel_rfl
theorem Xc : Fl zA 4 1 = true := by kernel_rfl
theorem LE : Fl zA 45 24 = true := by kernel_rfl
theorem cq : Fl zA 5 1 = true := by kernel_rfl
theorem bf : Fl zA 64 72 = true := by kernel_rfl
theorem X1 : Fl zA 76 80 = true := by kernel_rfl
theorem We : Fl zA 77 24 = true := by kernel_rfl
theorem Uh : Fl zA 94 1 = true := by kernel_rfl
theorem Gb : CH zA 101 0 0 = true := by kernel_rfl
theorem Fh : CH zA 101 1 1 = true := by kernel_rfl
theorem G9 : CH zA 101 2 2 = true := by kernel_rfl
theorem P8 : CH zA 103 0 0 = true := by kernel_rfl
theorem UA : CH zA 103 1 3 = true := by kernel_rfl
theorem YH : CH zA 103 2 4 = true := by kernel_rfl
theorem UF : CH zA 103 3 7 = true := by kernel_rfl
theorem NZ : CH zA 154 0 0 = true := by kernel_rfl
theorem U2 : CH zA 154 1 3 = true := by kernel_rfl
theorem Yt : CH zA 154 2 4 = true := by kernel_rfl
theorem SM : CH zA 25 0 0 = true := by kernel_rfl
theorem ZU : CH zA 25 1 1 = true := by kernel_rfl
theorem aG : CH zA 25 2 2 = true := by kernel_rfl
theorem SK : CH zA 25 3 3 = true := by kernel_rfl
theorem Bu : CH zA 29 0 0 = true := by kernel_rfl
theorem Hp : CH zA 29 1 1 = true := by kernel_rfl
theorem IM : CH zA 29 2 2 = true := by kernel_rfl
theorem Bx : CH zA 29 3 3 = true := by kernel_rfl
theorem S7 : CH zA 45 0 0 = true := by kernel_rfl
theorem SS : CH zA 45 1 1 = true := by kernel_rfl
theorem SW : CH zA 45 2 2 = true := by kernel_rfl
theorem Dp : CH zA 64 0 0 = true := by kernel_rfl
theorem BO : CH zA 64 1 1 = true := by kernel_rfl
theorem Do : CH zA 64 2 2 = true := by kernel_rfl
theorem Hn : CH zA 76 0 0 = true := by kernel_rfl
theorem DZ : CH zA 76 1 1 = true := by kernel_rfl
theorem JD : CH zA 76 2 2 = true := by kernel_rfl
theorem Kw : CH zA 76 3 3 = true := by kernel_rfl
theorem Fa : CH zA 76 4 4 = true := by kernel_rfl
theorem E8 : CH zA 76 5 5 = true := by kernel_rfl
theorem ZA : CH zA 88 0 0 = true := by kernel_rfl
theorem Z4 : CH zA 88 1 1 = true := by kernel_rfl
theorem aF : CH zA 88 2 2 = true := by kernel_rfl
theorem Z5 : CH zA 88 3 3 = true := by kernel_rfl
theorem Z0 : CH zA 88 4 4 = true := by kernel_rfl
theorem ZW : CH zA 88 5 5 = true := by kernel_rfl
theorem fQ : AH zA 10 = true := by kernel_rfl
theorem aI : AH zA 107 = true := by kernel_rfl
theorem dF : AH zA 108 = true := by kernel_rfl
theorem ec : AH zA 109 = true := by kernel_rfl
theorem eF : AH zA 11 = true := by kernel_rfl
theorem dW : AH zA 110 = true := by kernel_rfl
theorem ba : AH zA 111 = true := by kernel_rfl
theorem Zd : AH zA 112 = true := by kernel_rfl
theorem dU : AH zA 113 = true := by kernel_rfl
theorem bu : AH zA 114 = true := by kernel_rfl
theorem dO : AH zA 116 = true := by kernel_rfl
theorem eu : AH zA 117 = true := by kernel_rfl
theorem di : AH zA 118 = true := by kernel_rfl
theorem ep : AH zA 119 = true := by kernel_rfl
theorem eH : AH zA 12 = true := by kernel_rfl
theorem dX : AH zA 120 = true := by kernel_rfl
theorem d5 : AH zA 121 = true := by kernel_rfl
theorem dE : AH zA 122 = true := by kernel_rfl
theorem cW : AH zA 123 = true := by kernel_rfl
theorem eb : AH zA 124 = true := by kernel_rfl
theorem dK : AH zA 125 = true := by kernel_rfl
theorem d8 : AH zA 126 = true := by kernel_rfl
theorem dz : AH zA 127 = true := by kernel_rfl
theorem bd : AH zA 128 = true := by kernel_rfl
theorem d4 : AH zA 129 = true := by kernel_rfl
theorem fu : AH zA 13 = true := by kernel_rfl
theorem Ze : AH zA 130 = true := by kernel_rfl
theorem eL : AH zA 131 = true := by kernel_rfl
theorem dT : AH zA 137 = true := by kernel_rfl
theorem bg : AH zA 138 = true := by kernel_rfl
theorem bp : AH zA 139 = true := by kernel_rfl
theorem fv : AH zA 14 = true := by kernel_rfl
theorem dD : AH zA 140 = true := by kernel_rfl
theorem dw : AH zA 141 = true := by kernel_rfl
theorem Uw : AH zA 142 = true := by kernel_rfl
theorem Wa : AH zA 143 = true := by kernel_rfl
theorem dq : AH zA 144 = true := by kernel_rfl
theorem ek : AH zA 145 = true := by kernel_rfl
theorem bn : AH zA 146 = true := by kernel_rfl
theorem dQ : AH zA 147 = true := by kernel_rfl
theorem et : AH zA 148 = true := by kernel_rfl
theorem c4 : AH zA 149 = true := by kernel_rfl
theorem cX : AH zA 15 = true := by kernel_rfl
theorem df : AH zA 150 = true := by kernel_rfl
theorem ex : AH zA 151 = true := by kernel_rfl
theorem ez : AH zA 152 = true := by kernel_rfl
theorem dp : AH zA 154 = true := by kernel_rfl
theorem eC : AH zA 155 = true := by kernel_rfl
theorem aR : AH zA 156 = true := by kernel_rfl
theorem ey : AH zA 157 = true := by kernel_rfl
theorem dY : AH zA 158 = true := by kernel_rfl
theorem XJ : AH zA 159 = true := by kernel_rfl
theorem bm : AH zA 160 = true := by kernel_rfl
theorem dJ : AH zA 161 = true := by kernel_rfl
theorem cZ : AH zA 21 = true := by kernel_rfl
theorem cd : AH zA 23 = true := by kernel_rfl
theorem Zr : AH zA 24 = true := by kernel_rfl
theorem fr : AH zA 25 = true := by kernel_rfl
theorem dA : AH zA 27 = true := by kernel_rfl
theorem fP : AH zA 28 = true := by kernel_rfl
theorem fI : AH zA 29 = true := by kernel_rfl
theorem fq : AH zA 30 = true := by kernel_rfl
theorem bZ : AH zA 31 = true := by kernel_rfl
theorem eZ : AH zA 32 = true := by kernel_rfl
theorem fK : AH zA 33 = true := by kernel_rfl
theorem Zw : AH zA 34 = true := by kernel_rfl
theorem eV : AH zA 35 = true := by kernel_rfl
theorem fk : AH zA 36 = true := by kernel_rfl
theorem ft : AH zA 37 = true := by kernel_rfl
theorem d9 : AH zA 38 = true := by kernel_rfl
theorem de : AH zA 39 = true := by kernel_rfl
theorem ej : AH zA 40 = true := by kernel_rfl
theorem cr : AH zA 41 = true := by kernel_rfl
theorem cz : AH zA 42 = true := by kernel_rfl
theorem cg : AH zA 43 = true := by kernel_rfl
theorem bE : AH zA 44 = true := by kernel_rfl
theorem fg : AH zA 45 = true := by kernel_rfl
theorem dy : AH zA 46 = true := by kernel_rfl
theorem fp : AH zA 47 = true := by kernel_rfl
theorem Xi : AH zA 48 = true := by kernel_rfl
theorem eJ : AH zA 51 = true := by kernel_rfl
theorem dn : AH zA 53 = true := by kernel_rfl
theorem eR : AH zA 54 = true := by kernel_rfl
theorem fo : AH zA 55 = true := by kernel_rfl
theorem ei : AH zA 56 = true := by kernel_rfl
theorem SN : AH zA 57 = true := by kernel_rfl
theorem eK : AH zA 58 = true := by kernel_rfl
theorem fa : AH zA 59 = true := by kernel_rfl
theorem Uy : AH zA 60 = true := by kernel_rfl
theorem fd : AH zA 61 = true := by kernel_rfl
theorem cv : AH zA 62 = true := by kernel_rfl
theorem eI : AH zA 63 = true := by kernel_rfl
theorem eT : AH zA 64 = true := by kernel_rfl
theorem fD : AH zA 65 = true := by kernel_rfl
theorem fi : AH zA 66 = true := by kernel_rfl
theorem fL : AH zA 67 = true := by kernel_rfl
theorem fx : AH zA 68 = true := by kernel_rfl
theorem fU : AH zA 69 = true := by kernel_rfl
theorem fJ : AH zA 72 = true := by kernel_rfl
theorem cA : AH zA 73 = true := by kernel_rfl
theorem fG : AH zA 74 = true := by kernel_rfl
theorem fB : AH zA 75 = true := by kernel_rfl
theorem ZY : AH zA 76 = true := by kernel_rfl
theorem ff : AH zA 77 = true := by kernel_rfl
theorem cV : AH zA 78 = true := by kernel_rfl
theorem fS : AH zA 79 = true := by kernel_rfl
theorem eY : AH zA 81 = true := by kernel_rfl
theorem fc : AH zA 82 = true := by kernel_rfl
theorem ed : AH zA 83 = true := by kernel_rfl
theorem bW : AH zA 84 = true := by kernel_rfl
theorem eM : AH zA 85 = true := by kernel_rfl
theorem fA : AH zA 86 = true := by kernel_rfl
theorem fO : AH zA 87 = true := by kernel_rfl
theorem dB : AH zA 88 = true := by kernel_rfl
theorem fE : AH zA 89 = true := by kernel_rfl
theorem fC : AH zA 90 = true := by kernel_rfl
theorem ao : AH zA 91 = true := by kernel_rfl
theorem eU : AH zA 92 = true := by kernel_rfl
theorem fF : AH zA 93 = true := by kernel_rfl
theorem fm : AH zA 94 = true := by kernel_rfl
theorem eX : AH zA 95 = true := by kernel_rfl
theorem fT : AH zA 96 = true := by kernel_rfl
theorem Wl : Rr zA 109 .u64 = true := by kernel_rfl
theorem WG : Rr zA 140 .u32 = true := by kernel_rfl
theorem aV : Rr zA 142 .u64 = true := by kernel_rfl
theorem aW : Rr zA 3 .i64 = true := by kernel_rfl
theorem fZ : Rr zA 5 .u8 = true := by kernel_rfl
theorem fb : Tryz.prog.underlying 3 = some (.int .i64) := by kernel_rfl
theorem bU : Tryz.prog.underlying 9 = some .string := by kernel_rfl
theorem Tu : Tryz.prog.underlying 125 = some (.map 9 3) := by kernel_rfl
theorem Wu : I7 zA 101 = some [(0, 1), (1, 1), (2, 1)] := by kernel_rfl
theorem aY : I7 zA 103 = some [(0, 3), (3, 1), (4, 3), (7, 1)] := by kernel_rfl
theorem aM : I7 zA 154 = some [(0, 3), (3, 1), (4, 3)] := by kernel_rfl
theorem Xl : I7 zA 29 = some [(0, 1), (1, 1), (2, 1), (3, 1)] := by kernel_rfl
theorem Ro : I7 zA 45 = some [(0, 1), (1, 1), (2, 1)] := by kernel_rfl
theorem JH : I7 zA 64 = some [(0, 1), (1, 1), (2, 1)] := by kernel_rfl
theorem db : I7 zA 76 = some [(0, 1), (1, 1), (2, 1), (3, 1), (4, 1), (5, 1)] := by kernel_rfl
theorem QR : XL zA 45 = some [0, 0, 0] := by kernel_rfl
theorem H8 : sliceB zA 119 154 = true := by kernel_rfl
theorem KS : sliceB zA 148 64 = true := by kernel_rfl
theorem LB : sliceB zA 22 5 = true := by kernel_rfl
theorem Yg : sliceB zA 23 88 = true := by kernel_rfl
theorem AC : sliceB zA 26 3 = true := by kernel_rfl
theorem CR : sliceB zA 27 76 = true := by kernel_rfl
theorem A3 : sliceB zA 33 45 = true := by kernel_rfl
theorem Fr : sliceB zA 37 101 = true := by kernel_rfl
theorem EL : sliceB zA 54 33 = true := by kernel_rfl
theorem Ev : sliceB zA 62 94 = true := by kernel_rfl
theorem DH : sliceB zA 74 77 = true := by kernel_rfl
theorem EG : sliceB zA 77 4 = true := by kernel_rfl
theorem Jv : sliceB zA 96 103 = true := by kernel_rfl
theorem X8 : (Tryz.prog.underlying 109).isSome = true := by kernel_rfl
theorem WE : (Tryz.prog.underlying 140).isSome = true := by kernel_rfl
theorem aS : (Tryz.prog.underlying 142).isSome = true := by kernel_rfl
theorem eN : (Tryz.prog.underlying 3).isSome = true := by kernel_rfl
theorem cP : (Tryz.prog.underlying 5).isSome = true := by kernel_rfl
theorem fj : (Tryz.prog.underlying 94).isSome = true := by kernel_rfl
theorem du : Rw zA 9 = true := by kernel_rfl
theorem Dg : Hs zA 101 3 = true := by kernel_rfl
theorem LC : Hs zA 103 8 = true := by kernel_rfl
theorem M1 : Hs zA 154 7 = true := by kernel_rfl
theorem eo : Hs zA 25 4 = true := by kernel_rfl
theorem W7 : Hs zA 26 1 = true := by kernel_rfl
theorem ca : Hs zA 27 1 = true := by kernel_rfl
theorem BT : Hs zA 29 4 = true := by kernel_rfl
theorem DR : Hs zA 3 1 = true := by kernel_rfl
theorem Ki : Hs zA 33 1 = true := by kernel_rfl
theorem MY : Hs zA 4 1 = true := by kernel_rfl
theorem Cz : Hs zA 45 3 = true := by kernel_rfl
theorem cF : Hs zA 5 1 = true := by kernel_rfl
theorem fW : Hs zA 62 1 = true := by kernel_rfl
theorem A2 : Hs zA 64 3 = true := by kernel_rfl
theorem TV : Hs zA 74 1 = true := by kernel_rfl
theorem Db : Hs zA 76 6 = true := by kernel_rfl
theorem Is : Hs zA 77 1 = true := by kernel_rfl
theorem cN : Hs zA 88 6 = true := by kernel_rfl
theorem Hq : Hs zA 94 1 = true := by kernel_rfl
theorem In : EC zA 101 = some (.agg #[.int .i64 0, .int .i64 0, .int .i64 0]) := by kernel_rfl
theorem Uc : EC zA 103 = some (.agg #[.slice none 0 0, .slice none 0 0, .slice none 0 0, .int .i64 0, .int .i64 0, .int .i64 0, .int .i64 0, .slice none 0 0]) := by kernel_rfl
theorem TR : EC zA 154 = some (.agg #[.slice none 0 0, .slice none 0 0, .slice none 0 0, .int .i64 0, .int .i64 0, .int .i64 0, .int .i64 0]) := by kernel_rfl
theorem LG : EC zA 29 = some (.agg #[.slice none 0 0, .slice none 0 0, .slice none 0 0, .slice none 0 0]) := by kernel_rfl
theorem Lf : EC zA 3 = some (.int .i64 0) := by kernel_rfl
theorem Re : EC zA 33 = some (.slice none 0 0) := by kernel_rfl
theorem WF : EC zA 4 = some (.bool false) := by kernel_rfl
theorem GV : EC zA 45 = some (.agg #[.int .i64 0, .int .i64 0, .int .i64 0]) := by kernel_rfl
theorem dm : EC zA 5 = some (.int .u8 0) := by kernel_rfl
theorem Fm : EC zA 64 = some (.agg #[.slice none 0 0, .slice none 0 0, .slice none 0 0]) := by kernel_rfl
theorem JA : EC zA 76 = some (.agg #[.int .i64 0, .int .i64 0, .int .i64 0, .bool false, .slice none 0 0, .slice none 0 0]) := by kernel_rfl
theorem S3 : EC zA 77 = some (.slice none 0 0) := by kernel_rfl
theorem fR : EC zA 88 = some (.agg #[.int .u8 0, .int .u8 0, .int .u8 0, .bool false, .int .u16 0, .int .u16 0]) := by kernel_rfl
theorem Ti : EC zA 94 = some (.int .u8 0) := by kernel_rfl
end Go.Lift
