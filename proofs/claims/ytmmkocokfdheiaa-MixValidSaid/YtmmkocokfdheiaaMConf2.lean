/- Lemmas for MixValidSaid, which YtmmkocokfdheiaaFin7 proves. -/
/- The conflicts of a mix: both implementations give one answer. -/
import Derived.Test.YtmmkocokfdheiaaMConf
namespace Go.Lift

def anyI {α : Type} (g : Nat → α → Bool) : Nat → List α → Bool
  | _, [] => false
  | i, x :: xs => g i x || anyI g (i + 1) xs
theorem anyI_iff {α : Type} {g : Nat → α → Bool} : ∀ {i : Nat} {xs : List α}, anyI g i xs = true ↔ ∃ j x, xs[j]? = some x ∧ g (i + j) x = true
  | _, [] => by simp [anyI]
  | i, x :: xs => by
    rw [anyI, Bool.or_eq_true, anyI_iff]
    constructor
    · rintro (h | ⟨j, z, hz, h⟩)
      · exact ⟨0, x, rfl, h⟩
      · exact ⟨j + 1, z, by simpa using hz, by rwa [show i + (j + 1) = i + 1 + j from by omega]⟩
    · rintro ⟨j, z, hz, h⟩
      cases j with
      | zero => simp at hz; subst hz; exact .inl h
      | succ j => exact .inr ⟨j, z, by simpa using hz, by rwa [show i + 1 + j = i + (j + 1) from by omega]⟩
theorem foldI_pair {α β : Type} (g : Nat → α → List β) (h : Nat → α → Bool) : ∀ (i : Nat) (xs : List α) (a : List β) (b : Bool),
    foldI (fun i x (s : List β × Bool) => (s.1 ++ g i x, s.2 || h i x)) i xs (a, b) = (a ++ flatI g i xs, b || anyI h i xs)
  | _, [], a, b => by simp [foldI, flatI, anyI]
  | i, x :: xs, a, b => by rw [foldI, foldI_pair g h, flatI, anyI, List.append_assoc, Bool.or_assoc]

/-- A reader that cannot read, without and with awareness. -/
def gC (i u : Nat) (m : ApiMix) (t : ApiTable) (v : Nat) (ok : Bool) : List ApiConflict :=
  if runB m t.fTo.toNat v && (!ok && !t.fAware) then [⟨(i : Int), (u : Int), (v : Int)⟩] else []
def hC (m : ApiMix) (t : ApiTable) (v : Nat) (ok : Bool) : Bool := runB m t.fTo.toNat v && ok
def rdConf (i : Nat) (m : ApiMix) (t : ApiTable) (u : Nat) (row : List Bool) : List ApiConflict :=
  flatI (gC i u m t) 0 row ++ if t.fAware && !anyI (hC m t) 0 row then [⟨(i : Int), (u : Int), -1⟩] else []
def wrB (m : ApiMix) (i : Nat) (t : ApiTable) (u : Nat) : Bool := if storedB t then bitB (m.fHeld.getD i 0) u else runB m t.fFrom.toNat u
def tabConf (m : ApiMix) (i : Nat) (t : ApiTable) : List ApiConflict := flatI (fun u row => if wrB m i t u then rdConf i m t u row else []) 0 t.fOK
def conflictsF (p : ApiProblem) (m : ApiMix) : List ApiConflict := flatI (tabConf m) 0 p.fTables

structure TabOk (p : ApiProblem) (t : ApiTable) : Prop where
  kind : 1 ≤ t.fKind ∧ t.fKind ≤ 4
  aware : t.fAware = true → storedB t = false
  from0 : 0 ≤ t.fFrom ∧ t.fFrom < (p.fVersions.length : Int)
  to0 : 0 ≤ t.fTo ∧ t.fTo < (p.fVersions.length : Int)
  okL : (t.fOK.length : Int) = p.fVersions.getD t.fFrom.toNat 0
  okR : ∀ row, row ∈ t.fOK → (row.length : Int) = p.fVersions.getD t.fTo.toNat 0
  reL : t.fKind = 4 → (t.fRewrite.length : Int) = p.fVersions.getD t.fFrom.toNat 0
  reR : ∀ row, row ∈ t.fRewrite → (row.length : Int) = p.fVersions.getD t.fFrom.toNat 0
  reD : t.fKind = 4 → diagE t.fRewrite = none
  reN : t.fKind ≠ 4 → t.fRewrite = []

theorem tab_ok {p : ApiProblem} {t : ApiTable} (h : tableE p t = 0) : TabOk p t := by
  unfold tableE at h
  split at h
  · cases h
  rename_i h1
  split at h
  · cases h
  rename_i h2
  simp only at h
  split at h
  · cases h
  rename_i h3
  have h3 : sq t.fOK (p.fVersions.getD t.fFrom.toNat 0) (p.fVersions.getD t.fTo.toNat 0) = true := by simpa using h3
  have h3 := sq_rows h3
  have ha : t.fAware = true → storedB t = false := by
    intro ha
    unfold storedB
    rw [Bool.or_eq_false_iff, beq_eq_false_iff_ne, beq_eq_false_iff_ne]
    exact ⟨fun hk => h1 (.inr (.inr ⟨ha, .inl hk⟩)), fun hk => h1 (.inr (.inr ⟨ha, .inr hk⟩))⟩
  split at h
  · rename_i h4
    split at h
    · cases h
    rename_i h5
    have h5 : sq t.fRewrite (p.fVersions.getD t.fFrom.toNat 0) (p.fVersions.getD t.fFrom.toNat 0) = true := by simpa using h5
    have h5 := sq_rows h5
    refine ⟨by omega, ha, by omega, by omega, h3.1, h3.2, fun _ => h5.1, h5.2, fun _ => ?_, fun h => (h h4).elim⟩
    cases hd : diagE t.fRewrite with
    | none => rfl
    | some r =>
      obtain ⟨j, x, _, hx⟩ := scan_some hd
      rw [hd] at h
      split at hx
      · cases hx
      · cases hx; cases h
  · rename_i h4
    split at h
    · rename_i h5
      have h5 := List.eq_nil_of_length_eq_zero h5
      refine ⟨by omega, ha, by omega, by omega, h3.1, h3.2, fun h => (h4 h).elim, fun row hr => ?_, fun h => (h4 h).elim, fun _ => h5⟩
      rw [h5] at hr; cases hr
    · cases h

theorem cnd_app {R : Type} (b : Bool) (acc : List ApiConflict) (x : ApiConflict) (j : List ApiConflict → Option R) (h : acc.length + 1 ≤ lim) :
    cnd b ((chk (acc.length + ([x] : List ApiConflict).length ≤ lim)).bind fun _ => j (acc ++ [x])) (j acc) = j (acc ++ if b then [x] else []) := by
  cases b
  · simp
  · rw [cnd_true, chk_bind_true (by simpa using h)]; rfl

theorem mix_conf_in (N : Nat) (m : ApiMix) (t : ApiTable) (i u : Nat) (row : List Bool) (R : Int) (b1 b2 acc : List ApiConflict) (j : List ApiConflict × Bool → Option (List ApiConflict))
    (hN : N ≤ 1000000) (h8 : 8 ≤ N) (hrow : row.length ≤ 6) (hacc : acc.length + 6 ≤ lim) (hR0 : 0 ≤ R) (hR1 : R ≤ 255) (hRb : ∀ v, bitB R v = runB m t.fTo.toNat v) :
    Sh.mix_conflicts_L18 N (b1, (i : Int)) t R (b2, (u : Int)) row j N (acc, false, 0) = j (acc ++ flatI (gC i u m t) 0 row, anyI (hC m t) 0 row) := by
  have := loop_fold (A := List ApiConflict × Bool) (Sh.mix_conflicts_L18 N (b1, (i : Int)) t R (b2, (u : Int)) row j) (fun a k => (a.1, a.2, k)) row (fun a => j a) (fun v ok s => (s.1 ++ gC i u m t v ok, s.2 || hC m t v ok))
    (fun v a => v ≤ row.length ∧ a.1.length ≤ acc.length + v)
    (fun n v ok a hx ha => by
      have hv := (List.getElem?_eq_some_iff.1 hx).1
      obtain ⟨c, f⟩ := a
      simp only at ha
      refine ⟨?_, by omega, ?_⟩
      · rw [Sh.mix_conflicts_L18]
        simp only [join_eq]
        rw [cnd_pos (by omega), idx_nat, hx]
        simp only [Option.bind_some]
        rw [chk_bind_true (by omega), has_bit0 hR0 hR1 (by omega), hRb, wrap_succ (by omega), cnd_app _ _ _ (fun l => Sh.mix_conflicts_L18 N (b1, (i : Int)) t R (b2, (u : Int)) row j n (l, true, ((v + 1 : Nat) : Int))) (by omega)]
        unfold gC hC
        rw [cnd_app _ _ _ (fun l => Sh.mix_conflicts_L18 N (b1, (i : Int)) t R (b2, (u : Int)) row j n (l, ok, ((v + 1 : Nat) : Int))) (by omega)]
        cases runB m t.fTo.toNat v
        · simp
        · cases ok <;> cases f <;> cases t.fAware <;> simp
      · simp only [gC, List.length_append]
        split <;> simp <;> omega)
    (fun n a _ => by
      rw [Sh.mix_conflicts_L18]
      simp only [join_eq]
      rw [cnd_neg (by omega)]) N 0 (acc, false) (by omega) (by omega) ⟨by omega, by simp⟩
  have h2 := this.1
  rw [List.drop_zero, foldI_pair, Bool.false_or] at h2
  exact h2
end Go.Lift
