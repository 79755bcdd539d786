/- Lemmas for MixStartSaid, which YtmmkocokfdheiaaFin10 proves. -/
/- Slices within slices: append, and giving over to sharing. No condition. -/
import Derived.Test.YtmmkocokfdheiaaLift25
namespace Go.Lift
open Go.RowKit
variable {P : Program} {X : Ctx} {ops : Array Oper}
section run
variable {dr : Bool} {Q : St → Prop} {r i : Nat} {st : St} {log : List (Nat × Loc)} {o : Oper} {gs : List (Operand × D)}
structure DRows (w : World) (S : Nat → Prop) (e : Nat) (cols : List Ow) (rows : List (List T)) (Rf : Nat → Nat → Nat → Prop) (f : Nat → Value) : Prop where
  len : ∀ (i : Nat) (row : List T), rows[i]? = some row → row.length = e
  cell : ∀ (i : Nat) (row : List T) (j : Nat) (t : T), rows[i]? = some row → row[j]? = some t → RdX w S (cols.getD j .s) (Rf i j) (f (i * e + j)) t
  dis : ∀ i j i' j' γ, Rf i j γ → Rf i' j' γ → i = i' ∧ j = j'
theorem DRows.ones {w : World} {S : Nat → Prop} {e : Nat} {cols : List Ow} {rows : List (List T)} {Rf : Nat → Nat → Nat → Prop} {arr : Array Value} (h : DRows w S e cols rows Rf (cellAt arr)) (hs : arr.size = rows.length * e) : ∀ u, u ∈ arr.toList → oneC u = true := by
  intro u hu
  obtain ⟨k, hk⟩ := List.mem_iff_getElem?.1 hu
  have hk' : arr[k]? = some u := by simpa using hk
  have hlt : k < arr.size := by
    rcases Nat.lt_or_ge k arr.size with h' | h'
    · exact h'
    · rw [Array.getElem?_eq_none h'] at hk'; cases hk'
  rcases Nat.eq_zero_or_pos e with e0 | e0
  · rw [e0, Nat.mul_zero] at hs; omega
  have h1 : k / e < rows.length := (Nat.div_lt_iff_lt_mul e0).2 (by omega)
  have h2 : k % e < e := Nat.mod_lt _ e0
  have hrow : rows[k / e]? = some rows[k / e] := by simp [h1]
  have hlen := h.len _ _ hrow
  have hcell : (rows[k / e])[k % e]? = some ((rows[k / e])[k % e]'(by omega)) := by simp [show k % e < rows[k / e].length from by omega]
  have := (h.cell _ _ _ _ hrow hcell).one
  rw [show k / e * e + k % e = k from by rw [Nat.mul_comm]; exact Nat.div_add_mod k e] at this
  simpa [cellAt, hk'] using this
end run
end Go.Lift
