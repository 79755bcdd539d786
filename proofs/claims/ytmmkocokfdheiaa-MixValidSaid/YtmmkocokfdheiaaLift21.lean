/- Lemmas for MixValidSaid, which YtmmkocokfdheiaaFin7 proves. -/
/- Trees of plain types as typed values. No condition. -/
import Derived.Test.YtmmkocokfdheiaaLift20
namespace Go.Lift
open Go.RowKit

section
variable {P : Program}

/-- Whatever fits the type is the encoding of a typed value that is within the type's bounds. -/
def Dec {α : Type} (P : Program) (t : TypeId) (e : α → List T) (W : α → Prop) : Prop := ∀ (d : Nat) (ts : List T), FitD P d t ts → ∃ x, ts = e x ∧ W x

theorem dec_int {t : TypeId} {k : IntKind} {e : Int → List T} (h : intB P t k = true) (he : ∀ n, e n = [.val (.int k n)]) : Dec P t e (fun n => (Lit.int k n).wf = true) := by
  intro d ts hf
  cases d with
  | zero => exact hf.elim
  | succ d =>
    unfold intB at h
    unfold FitD at hf
    split at h
    · rename_i k' hu
      rw [hu] at hf
      obtain ⟨n, rfl, hw⟩ := hf
      have : k' = k := by simpa using h
      subst this
      exact ⟨n, (he n).symm, hw⟩
    · cases h

def strB (P : Program) (t : TypeId) : Bool := match P.underlying t with | some .string => true | _ => false
theorem dec_bool {t : TypeId} {e : Bool → List T} (h : boolB P t = true) (he : ∀ n, e n = [.val (.bool n)]) : Dec P t e (fun _ => True) := by
  intro d ts hf
  cases d with
  | zero => exact hf.elim
  | succ d =>
    unfold boolB at h
    unfold FitD at hf
    split at h
    · rename_i hu
      rw [hu] at hf
      obtain ⟨n, rfl⟩ := hf
      exact ⟨n, (he n).symm, trivial⟩
    · cases h
theorem dec_str {t : TypeId} {e : ByteArray → List T} (h : strB P t = true) (he : ∀ n, e n = [.val (.string n)]) : Dec P t e (fun _ => True) := by
  intro d ts hf
  cases d with
  | zero => exact hf.elim
  | succ d =>
    unfold strB at h
    unfold FitD at hf
    split at h
    · rename_i hu
      rw [hu] at hf
      obtain ⟨n, rfl⟩ := hf
      exact ⟨n, (he n).symm, trivial⟩
    · cases h

theorem map_of_all {α : Type} {e : α → List T} {W : α → Prop} : ∀ (rows : List (List T)), (∀ row, row ∈ rows → ∃ x, row = e x ∧ W x) → ∃ xs : List α, rows = xs.map e ∧ ∀ x, x ∈ xs → W x
  | [], _ => ⟨[], rfl, fun x h => by cases h⟩
  | r :: rows, h => by
    obtain ⟨x, rfl, hx⟩ := h r (by simp)
    obtain ⟨xs, rfl, hxs⟩ := map_of_all rows (fun row hr => h row (by simp [hr]))
    exact ⟨x :: xs, rfl, fun y hy => by
      rcases List.mem_cons.1 hy with e | e
      · subst e; exact hx
      · exact hxs y e⟩

theorem dec_slice {α : Type} {t el : TypeId} {e : α → List T} {W : α → Prop} {e2 : List α → List T} (h : sliceB P t el = true) (he : Dec P el e W) (h2 : ∀ xs, e2 xs = [.sl (xs.map e)]) : Dec P t e2 (fun xs => ∀ x, x ∈ xs → W x) := by
  intro d ts hf
  cases d with
  | zero => exact hf.elim
  | succ d =>
    unfold sliceB at h
    unfold FitD at hf
    split at h
    · rename_i e' hu
      rw [hu] at hf
      obtain ⟨rows, rfl, hr⟩ := hf
      have : e' = el := by simpa using h
      subst this
      obtain ⟨xs, rfl, hxs⟩ := map_of_all rows (fun row hm => he d row (hr row hm))
      exact ⟨xs, (h2 xs).symm, hxs⟩
    · cases h

def fieldTys (P : Program) (t : TypeId) : Option (List TypeId) := match P.underlying t with | some (.struct fs) => some (fs.toList.map (·.type)) | _ => none
theorem fit_struct {t : TypeId} {tys : List TypeId} (h : fieldTys P t = some tys) {d : Nat} {ts : List T} (hf : FitD P d t ts) : ∃ d', FitL (FitD P d') tys ts := by
  cases d with
  | zero => exact hf.elim
  | succ d =>
    unfold fieldTys at h
    unfold FitD at hf
    split at h
    · rename_i fs hu
      cases h
      rw [hu] at hf
      exact ⟨d, hf⟩
    · cases h

theorem dOf_struct {t : TypeId} {tys : List TypeId} (h : fieldTys P t = some tys) (us : List T) : dOf P t us = .e (.agg (us.map .pure)) := by
  unfold fieldTys at h
  unfold dOf
  split at h
  · rename_i fs hu; rw [hu]
  · cases h
theorem dOf_one {t : TypeId} (h : fieldTys P t = none) (us : List T) : dOf P t us = .e (.one (.pure (us.headD .nil0))) := by
  unfold fieldTys at h
  unfold dOf
  split at h
  · cases h
  · rename_i hu
    split
    · rename_i fs hu2; exact (hu fs hu2).elim
    · rfl
theorem fitArgs_cons {d : Nat} {t : TypeId} {ts : List TypeId} {Ds : List D} (h : FitArgs P d (t :: ts) Ds) : ∃ us xs, Ds = dOf P t us :: xs ∧ FitD P d t us ∧ FitArgs P d ts xs := by
  cases Ds with
  | nil => exact h.elim
  | cons x xs => obtain ⟨⟨us, h1, rfl⟩, h2⟩ := h; exact ⟨us, xs, rfl, h1, h2⟩
theorem fitArgs_nil {d : Nat} {Ds : List D} (h : FitArgs P d [] Ds) : Ds = [] := by
  cases Ds with
  | nil => rfl
  | cons x xs => exact h.elim
end
end Go.Lift
