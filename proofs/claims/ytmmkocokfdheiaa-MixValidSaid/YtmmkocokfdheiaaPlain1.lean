/- Lemmas for MixValidSaid, which YtmmkocokfdheiaaFin7 proves. -/
/- Plain words of the shallow programs. -/
import Derived.Test.YtmmkocokfdheiaaSh
namespace Go.Lift

theorem idx_nat {α : Type} (xs : List α) (i : Nat) : idx xs (i : Int) = xs[i]? := by
  unfold idx; simp
theorem wrap_small {n : Int} (h0 : -9223372036854775808 ≤ n) (h1 : n ≤ 9223372036854775807) : IntKind.wrap .i64 n = n := by
  simp [IntKind.wrap, IntKind.signed, IntKind.bits]; omega
theorem wrap_succ {i : Nat} (h : i < 1000000) : IntKind.wrap .i64 ((i : Int) + 1) = ((i + 1 : Nat) : Int) := by
  rw [wrap_small (by omega) (by omega)]; simp
@[simp] theorem cnd_true {α : Type} {a b : Option α} : cnd true a b = a := rfl
@[simp] theorem cnd_false {α : Type} {a b : Option α} : cnd false a b = b := rfl
theorem cnd_pos {α : Type} {p : Prop} [Decidable p] {a b : Option α} (h : p) : cnd (decide p) a b = a := by simp [h]
theorem cnd_neg {α : Type} {p : Prop} [Decidable p] {a b : Option α} (h : ¬ p) : cnd (decide p) a b = b := by simp [h]

def sgn (a b : Int) : Int := if a < b then -1 else if b < a then 1 else 0
def cmpL : List Int → List Int → Int
  | [], [] => 0
  | [], _ :: _ => -1
  | _ :: _, [] => 1
  | a :: as, b :: bs => if a < b then -1 else if b < a then 1 else cmpL as bs

theorem cmp_int (N : Nat) (a b : Int) : Sh.cmp_Compare_int N a b = some (sgn a b) := by
  unfold Sh.cmp_Compare_int Sh.cmp_isNaN_int sgn
  by_cases h1 : a < b <;> by_cases h2 : b < a <;> simp [h1, h2]
theorem cmp_set (N : Nat) (a b : Int) : Sh.cmp_Compare_api_Set N a b = some (sgn a b) := by
  unfold Sh.cmp_Compare_api_Set Sh.cmp_isNaN_api_Set sgn
  by_cases h1 : a < b <;> by_cases h2 : b < a <;> simp [h1, h2]

theorem drop_cons {α : Type} {xs : List α} {i : Nat} {x : α} (h : xs[i]? = some x) : xs.drop i = x :: xs.drop (i + 1) := by
  obtain ⟨hi, rfl⟩ := List.getElem?_eq_some_iff.1 h
  exact List.drop_eq_getElem_cons hi

theorem sliceCmp (N : Nat) (a b : List Int) (hb : a.length < 1000000) : ∀ (n i : Nat), i ≤ a.length → i ≤ b.length → a.length - i < n →
    Sh.slices_Compare_int_int_L1 N a b (fun _ => cnd (decide ((a.length : Int) < (b.length : Int))) (some (-1)) (some 0)) n (i : Int) = some (cmpL (a.drop i) (b.drop i))
  | 0, i, _, _, h => by omega
  | n + 1, i, hi, hj, h => by
    unfold Sh.slices_Compare_int_int_L1
    by_cases h1 : i < a.length
    · rw [cnd_pos (by omega), idx_nat]
      have ha : a[i]? = some a[i] := by simp [h1]
      rw [ha, drop_cons ha]
      simp only [Option.bind_some]
      by_cases h2 : i < b.length
      · rw [cnd_neg (by omega), idx_nat]
        have hbb : b[i]? = some b[i] := by simp [h2]
        rw [hbb, drop_cons hbb]
        simp only [Option.bind_some, cmp_int, cmpL, sgn]
        rw [wrap_succ (by omega), sliceCmp N a b hb n (i + 1) (by omega) (by omega) (by omega)]
        by_cases h3 : a[i] < b[i]
        · simp [h3]
        · by_cases h4 : b[i] < a[i]
          · simp [h3, h4]
          · simp [h3, h4]
      · rw [cnd_pos (by omega), List.drop_eq_nil_of_le (by omega : b.length ≤ i)]
        simp [cmpL]
    · rw [cnd_neg (by omega), List.drop_eq_nil_of_le (by omega : a.length ≤ i)]
      by_cases h2 : a.length < b.length
      · rw [cnd_pos (by omega)]
        have hbb : b[i]? = some b[i] := by simp [show i < b.length from by omega]
        rw [drop_cons hbb]; simp [cmpL]
      · rw [cnd_neg (by omega), List.drop_eq_nil_of_le (by omega : b.length ≤ i)]
        simp [cmpL]
theorem sliceCmp' (N : Nat) (a b : List Int) (hb : a.length < 1000000) : ∀ (n i : Nat), i ≤ a.length → i ≤ b.length → a.length - i < n →
    Sh.slices_Compare_api_Set_api_Set_L1 N a b (fun _ => cnd (decide ((a.length : Int) < (b.length : Int))) (some (-1)) (some 0)) n (i : Int) = some (cmpL (a.drop i) (b.drop i))
  | 0, i, _, _, h => by omega
  | n + 1, i, hi, hj, h => by
    unfold Sh.slices_Compare_api_Set_api_Set_L1
    by_cases h1 : i < a.length
    · rw [cnd_pos (by omega), idx_nat]
      have ha : a[i]? = some a[i] := by simp [h1]
      rw [ha, drop_cons ha]
      simp only [Option.bind_some]
      by_cases h2 : i < b.length
      · rw [cnd_neg (by omega), idx_nat]
        have hbb : b[i]? = some b[i] := by simp [h2]
        rw [hbb, drop_cons hbb]
        simp only [Option.bind_some, cmp_set, cmpL, sgn]
        rw [wrap_succ (by omega), sliceCmp' N a b hb n (i + 1) (by omega) (by omega) (by omega)]
        by_cases h3 : a[i] < b[i]
        · simp [h3]
        · by_cases h4 : b[i] < a[i]
          · simp [h3, h4]
          · simp [h3, h4]
      · rw [cnd_pos (by omega), List.drop_eq_nil_of_le (by omega : b.length ≤ i)]
        simp [cmpL]
    · rw [cnd_neg (by omega), List.drop_eq_nil_of_le (by omega : a.length ≤ i)]
      by_cases h2 : a.length < b.length
      · rw [cnd_pos (by omega)]
        have hbb : b[i]? = some b[i] := by simp [show i < b.length from by omega]
        rw [drop_cons hbb]; simp [cmpL]
      · rw [cnd_neg (by omega), List.drop_eq_nil_of_le (by omega : b.length ≤ i)]
        simp [cmpL]
theorem refInts (N : Nat) (a b : List Int) (hb : a.length < 1000000) : ∀ (n i : Nat), i ≤ a.length → i ≤ b.length → a.length - i < n →
    Sh.sheaveref36_ints_L1 N a b (fun _ => cnd (decide ((a.length : Int) < (b.length : Int))) (some (-1)) (cnd (decide ((b.length : Int) < (a.length : Int))) (some 1) (some 0))) n (i : Int) = some (cmpL (a.drop i) (b.drop i))
  | 0, i, _, _, h => by omega
  | n + 1, i, hi, hj, h => by
    unfold Sh.sheaveref36_ints_L1
    simp only [join]
    by_cases h1 : i < a.length
    · rw [cnd_pos (p := (i : Int) < (a.length : Int)) (by omega)]
      have ha : a[i]? = some a[i] := by simp [h1]
      rw [drop_cons ha]
      by_cases h2 : i < b.length
      · have hbb : b[i]? = some b[i] := by simp [h2]
        rw [show decide ((i : Int) < (b.length : Int)) = true from decide_eq_true (by omega), cnd_true, idx_nat, idx_nat, ha, hbb, drop_cons hbb]
        simp only [Option.bind_some, cmpL]
        rw [wrap_succ (by omega), refInts N a b hb n (i + 1) (by omega) (by omega) (by omega)]
        by_cases h3 : a[i] < b[i]
        · simp [h3]
        · by_cases h4 : b[i] < a[i]
          · simp [h3, h4]
          · simp [h3, h4]
      · rw [show decide ((i : Int) < (b.length : Int)) = false from decide_eq_false (by omega), cnd_false, cnd_neg (by omega), cnd_pos (by omega), List.drop_eq_nil_of_le (by omega : b.length ≤ i)]
        simp [cmpL]
    · rw [cnd_neg (p := (i : Int) < (a.length : Int)) (by omega), cnd_false, List.drop_eq_nil_of_le (by omega : a.length ≤ i)]
      by_cases h2 : a.length < b.length
      · rw [cnd_pos (by omega)]
        have hbb : b[i]? = some b[i] := by simp [show i < b.length from by omega]
        rw [drop_cons hbb]; simp [cmpL]
      · rw [cnd_neg (by omega), cnd_neg (by omega), List.drop_eq_nil_of_le (by omega : b.length ≤ i)]
        simp [cmpL]

theorem slices_cmp {N : Nat} {a b : List Int} (h : a.length < N) (hN : N ≤ 1000000) : Sh.slices_Compare_int_int N a b = some (cmpL a b) := by
  have := sliceCmp N a b (by omega) N 0 (by omega) (by omega) (by omega)
  simpa [Sh.slices_Compare_int_int] using this
theorem slices_cmp' {N : Nat} {a b : List Int} (h : a.length < N) (hN : N ≤ 1000000) : Sh.slices_Compare_api_Set_api_Set N a b = some (cmpL a b) := by
  have := sliceCmp' N a b (by omega) N 0 (by omega) (by omega) (by omega)
  simpa [Sh.slices_Compare_api_Set_api_Set] using this
theorem ref_ints {N : Nat} {a b : List Int} (h : a.length < N) (hN : N ≤ 1000000) : Sh.sheaveref36_ints N a b = some (cmpL a b) := by
  have := refInts N a b (by omega) N 0 (by omega) (by omega) (by omega)
  simpa [Sh.sheaveref36_ints] using this
end Go.Lift
