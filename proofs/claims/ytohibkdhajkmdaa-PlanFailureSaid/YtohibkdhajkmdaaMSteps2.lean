/- Lemmas for PlanFailureSaid, which YtohibkdhajkmdaaFinP5 proves. -/
import Derived.Test.YtohibkdhajkmdaaDec
import Derived.KernelRfl
/- Plain words of the shallow programs. -/
namespace Go.Lift
theorem idx_nat {α : Type} (xs : List α) (i : Nat) : idx xs (i : Int) = xs[i]? := by
  unfold idx; simp
theorem wrap_small {n : Int} (h0 : -9223372036854775808 ≤ n) (h1 : n ≤ 9223372036854775807) : IntKind.wrap .i64 n = n := by
  simp [IntKind.wrap, IntKind.signed, IntKind.bits]; omega
theorem wrap_succ {i : Nat} (h : i < 1000000) : IntKind.wrap .i64 ((i : Int) + 1) = ((i + 1 : Nat) : Int) := by
  rw [wrap_small (by omega) (by omega)]; simp
@[simp] theorem cnd_true {α : Type} {a b : Option α} : cnd true a b = a := rfl
@[simp] theorem cnd_false {α : Type} {a b : Option α} : cnd false a b = b := rfl
theorem cnd_pos {α : Type} {p : Prop} [Decidable p] {a b : Option α} (h : p) : cnd (decide p) a b = a := by simp [h]
theorem cnd_neg {α : Type} {p : Prop} [Decidable p] {a b : Option α} (h : ¬ p) : cnd (decide p) a b = b := by simp [h]
def cmpL : List Int → List Int → Int
  | [], [] => 0
  | [], _ :: _ => -1
  | _ :: _, [] => 1
  | a :: as1, b :: bs => if a < b then -1 else if b < a then 1 else cmpL as1 bs
theorem drop_cons {α : Type} {xs : List α} {i : Nat} {x : α} (h : xs[i]? = some x) : xs.drop i = x :: xs.drop (i + 1) := by
  obtain ⟨hi, rfl⟩ := List.getElem?_eq_some_iff.1 h
  exact List.drop_eq_getElem_cons hi
theorem refInts (N : Nat) (a b : List Int) (hb : a.length < 1000000) : ∀ (n i : Nat), i ≤ a.length → i ≤ b.length → a.length - i < n →
    Sh.sheaveref36_ints_L1 N a b (fun _ => cnd (decide ((a.length : Int) < (b.length : Int))) (some (-1)) (cnd (decide ((b.length : Int) < (a.length : Int))) (some 1) (some 0))) n (i : Int) = some (cmpL (a.drop i) (b.drop i))
  | 0, i, _, _, h => by omega
  | n + 1, i, hi, hj, h => by
    unfold Sh.sheaveref36_ints_L1
    simp only [join]
    by_cases h1 : i < a.length
    · rw [cnd_pos (p := (i : Int) < (a.length : Int)) (by omega)]
      have ha : a[i]? = some a[i] := by simp [h1]
      rw [drop_cons ha]
      by_cases h2 : i < b.length
      · have hbb : b[i]? = some b[i] := by simp [h2]
        rw [show decide ((i : Int) < (b.length : Int)) = true from decide_eq_true (by omega), cnd_true, idx_nat, idx_nat, ha, hbb, drop_cons hbb]
        simp only [Option.bind_some, cmpL]
        rw [wrap_succ (by omega), refInts N a b hb n (i + 1) (by omega) (by omega) (by omega)]
        by_cases h3 : a[i] < b[i]
        · simp [h3]
        · by_cases h4 : b[i] < a[i]
          · simp [h3, h4]
          · simp [h3, h4]
      · rw [show decide ((i : Int) < (b.length : Int)) = false from decide_eq_false (by omega), cnd_false, cnd_neg (by omega), cnd_pos (by omega), List.drop_eq_nil_of_le (by omega : b.length ≤ i)]
        simp [cmpL]
    · rw [cnd_neg (p := (i : Int) < (a.length : Int)) (by omega), cnd_false, List.drop_eq_nil_of_le (by omega : a.length ≤ i)]
      by_cases h2 : a.length < b.length
      · rw [cnd_pos (by omega)]
        have hbb : b[i]? = some b[i] := by simp [show i < b.length from by omega]
        rw [drop_cons hbb]; simp [cmpL]
      · rw [cnd_neg (by omega), cnd_neg (by omega), List.drop_eq_nil_of_le (by omega : b.length ≤ i)]
        simp [cmpL]
theorem ref_ints {N : Nat} {a b : List Int} (h : a.length < N) (hN : N ≤ 1000000) : Sh.sheaveref36_ints N a b = some (cmpL a b) := by
  have := refInts N a b (by omega) N 0 (by omega) (by omega) (by omega)
  simpa [Sh.sheaveref36_ints] using this
end Go.Lift

/- MixCompare: the order on mixes. -/
namespace Go.Lift
theorem cmpL_self : ∀ a : List Int, cmpL a a = 0
  | [] => rfl
  | a :: as1 => by simp [cmpL, cmpL_self as1]
def orF : List Int → Int
  | [] => 0
  | x :: xs => if x = 0 then orF xs else x
theorem numL (N : Nat) (a : List Int) (hb : a.length < 1000000) (hw : wSl wU8 a) : ∀ (n i : Nat), i ≤ a.length → a.length - i < n →
    Sh.sheaveref36_numbers_L1 N a (fun v => some v) n (a.take i, (i : Int)) = some a
  | 0, i, _, h => by omega
  | n + 1, i, hi, h => by
    unfold Sh.sheaveref36_numbers_L1
    by_cases h1 : i < a.length
    · have ha : a[i]? = some a[i] := by simp [h1]
      rw [cnd_pos (by simpa using h1)]
      simp only
      rw [idx_nat, ha]
      have hr : IntKind.wrap .i64 a[i] = a[i] := by
        have := hw a[i] (List.getElem_mem h1)
        unfold wU8 at this
        have h2 : 0 ≤ a[i] ∧ a[i] ≤ 255 := by simpa [Lit.wf, IntKind.min, IntKind.max, IntKind.signed, IntKind.bits] using this
        exact wrap_small (by omega) (by omega)
      simp only [Option.bind_some, hr]
      have hlen : (a.take i).length + ([a[i]] : List Int).length ≤ lim := by
        simp [lim]; omega
      rw [show chk ((a.take i).length + ([a[i]] : List Int).length ≤ lim) = some () from by unfold chk; rw [if_pos hlen]]
      simp only [Option.bind_some]
      rw [wrap_succ (by omega), show a.take i ++ [a[i]] = a.take (i + 1) from by rw [List.take_add_one, ha]; rfl]
      exact numL N a hb hw n (i + 1) (by omega) (by omega)
    · rw [cnd_neg (by simpa using h1)]
      simp only
      rw [List.take_of_length_le (by omega)]
theorem ref_numbers {N : Nat} {a : List Int} (h : a.length < N) (hN : N ≤ 1000000) (hw : wSl wU8 a) : Sh.sheaveref36_numbers N a = some a := by
  have := numL N a (by omega) hw N 0 (by omega) (by omega)
  simpa [Sh.sheaveref36_numbers] using this
def cmpM (a b : ApiMix) : Int := orF [cmpL a.fBase b.fBase, cmpL a.fNext b.fNext, cmpL a.fHeld b.fHeld]
theorem cmpM_self (a : ApiMix) : cmpM a a = 0 := by unfold cmpM; simp [cmpL_self, orF]
end Go.Lift

/- The law MixCompare in plain words. -/
namespace Go.Lift
end Go.Lift

/- Search loops in plain words; the two tests of a problem give the same answer. -/
namespace Go.Lift
def scan {α R : Type} (f : Nat → α → Option R) : Nat → List α → Option R
  | _, [] => none
  | i, x :: xs => match f i x with
    | some r => some r
    | none => scan f (i + 1) xs
theorem scan_cons {α R : Type} (f : Nat → α → Option R) (i : Nat) (x : α) (xs : List α) : scan f i (x :: xs) = match f i x with
    | some r => some r
    | none => scan f (i + 1) xs := rfl
def orElse {R : Type} (a : Option R) (b : Option R) : Option R := match a with
  | some r => some r
  | none => b
theorem loop_scan {α R : Type} (L : Nat → Int → Option R) (xs : List α) (j : Option R) (f : Nat → α → Option R)
    (hs : ∀ (n i : Nat) (x : α), xs[i]? = some x → L (n + 1) (i : Int) = orElse (f i x) (L n ((i + 1 : Nat) : Int))) (he : ∀ n : Nat, L (n + 1) (xs.length : Int) = j) :
    ∀ n i : Nat, i ≤ xs.length → xs.length - i < n → L n (i : Int) = orElse (scan f i (xs.drop i)) j
  | 0, i, _, h => by omega
  | n + 1, i, hi, h => by
    by_cases h1 : i < xs.length
    · have hx : xs[i]? = some xs[i] := by simp [h1]
      rw [hs n i _ hx, drop_cons hx, loop_scan L xs j f hs he n (i + 1) (by omega) (by omega)]
      rw [scan_cons]
      cases f i xs[i] <;> rfl
    · have : i = xs.length := by omega
      subst this
      rw [he n, List.drop_eq_nil_of_le (Nat.le_refl _)]
      rfl
theorem within_eq (N : Nat) (k n : Int) : Sh.fleet_within N k n = some (decide (0 ≤ k) && decide (k < n)) := by
  unfold Sh.fleet_within
  simp only [join]
  by_cases h : 0 ≤ k
  · rw [cnd_pos h]; simp [h]
  · rw [cnd_neg h]; simp [h]
theorem stored_eq (N : Nat) (t : ApiTable) : Sh.sheaveref35_Stored N t = some (t.fKind == 3 || t.fKind == 4) := by
  unfold Sh.sheaveref35_Stored
  simp only [join]
  cases h : t.fKind == 3 <;> simp
def sq (l : List (List Bool)) (n m : Int) : Bool := decide ((l.length : Int) = n) && l.all fun r => decide ((r.length : Int) = m)
theorem scan_all {α : Type} (p : α → Bool) {R : Type} (r : Nat → R) : ∀ (i : Nat) (xs : List α), (scan (fun i x => if p x then none else some (r i)) i xs).isNone = xs.all p
  | i, [] => rfl
  | i, x :: xs => by
    unfold scan
    cases h : p x <;> simp [h, scan_all p r (i + 1) xs]
theorem square_eq (N : Nat) (l : List (List Bool)) (n m : Int) (h : n < (N : Int)) (hN : N ≤ 1000000) : Sh.sheaveref35_square N l n m = some (sq l n m) := by
  unfold Sh.sheaveref35_square sq
  by_cases h1 : (l.length : Int) = n
  · subst h1
    simp only [bne_self_eq_false, cnd_false, decide_true, Bool.true_and]
    have := loop_scan (Sh.sheaveref35_square_L2 N l (l.length : Int) m (fun _ => some true)) l (some true) (fun _ r => if decide ((r.length : Int) = m) then none else some false)
      (fun n i x hx => by
        have hi := (List.getElem?_eq_some_iff.1 hx).1
        rw [Sh.sheaveref35_square_L2, cnd_pos (by omega), idx_nat, hx]
        simp only [Option.bind_some]
        rw [wrap_succ (by omega)]
        by_cases h2 : (x.length : Int) = m
        · simp [h2, orElse]
        · have : ((x.length : Int) != m) = true := by simpa using h2
          simp [h2, this, orElse])
      (fun n => by rw [Sh.sheaveref35_square_L2, cnd_neg (by omega)]) N 0 (by omega) (by omega)
    simp only [Int.ofNat_zero, List.drop_zero] at this
    rw [this]
    have h3 := scan_all (fun r : List Bool => decide ((r.length : Int) = m)) (fun _ => false) 0 l
    cases hsc : scan (fun (_ : Nat) (r : List Bool) => if decide ((r.length : Int) = m) = true then none else some false) 0 l with
    | none => rw [hsc] at h3; rw [← h3]; rfl
    | some b =>
      rw [hsc] at h3
      rw [← h3]
      have : ∀ (i : Nat) (xs : List (List Bool)) b, scan (fun (_ : Nat) (r : List Bool) => if decide ((r.length : Int) = m) = true then none else some false) i xs = some b → b = false := by
        intro i xs
        induction xs generalizing i with
        | nil => intro b hb; cases hb
        | cons x xs ih =>
          intro b hb
          unfold scan at hb
          split at hb
          · rename_i r hr; cases hb; split at hr <;> simp at hr; exact hr
          · exact ih _ b hb
      rw [this 0 l b hsc]; rfl
  · have : ((l.length : Int) != n) = true := by simpa using h1
    simp [this, h1]
end Go.Lift

/- The tests of a table and of a problem: both implementations give one answer. -/
namespace Go.Lift
theorem matrix_eq (N : Nat) (l : List (List Bool)) (n m : Int) (h : n < (N : Int)) (hN : N ≤ 1000000) : Sh.fleet_matrix N l n m = some (sq l n m) := by
  unfold Sh.fleet_matrix sq
  simp only [join]
  by_cases h1 : (l.length : Int) = n
  · subst h1
    simp only [beq_self_eq_true, cnd_true, decide_true, Bool.true_and]
    have := loop_scan (Sh.slices_IndexFunc_bool_bool_L1 N l (fun x => Sh.fleet_matrix_1 N x m) (fun _ => some (-1))) l (some (-1)) (fun i r => if decide ((r.length : Int) = m) then none else some (i : Int))
      (fun n i x hx => by
        have hi := (List.getElem?_eq_some_iff.1 hx).1
        rw [Sh.slices_IndexFunc_bool_bool_L1, cnd_pos (by omega), idx_nat, hx]
        simp only [Option.bind_some, Sh.fleet_matrix_1]
        rw [wrap_succ (by omega)]
        by_cases h2 : (x.length : Int) = m
        · simp [h2, orElse]
        · have : ((x.length : Int) != m) = true := by simpa using h2
          simp [h2, this, orElse])
      (fun n => by rw [Sh.slices_IndexFunc_bool_bool_L1, cnd_neg (by omega)]) N 0 (by omega) (by omega)
    simp only [Int.ofNat_zero, List.drop_zero] at this
    unfold Sh.slices_ContainsFunc_bool_bool Sh.slices_IndexFunc_bool_bool
    rw [this]
    have h3 := scan_all (fun r : List Bool => decide ((r.length : Int) = m)) (fun i : Nat => (i : Int)) 0 l
    cases hsc : scan (fun (i : Nat) (r : List Bool) => if decide ((r.length : Int) = m) = true then none else some (i : Int)) 0 l with
    | none => rw [hsc] at h3; rw [← h3]; rfl
    | some b =>
      rw [hsc] at h3
      rw [← h3]
      have : ∀ (i : Nat) (xs : List (List Bool)) b, scan (fun (i : Nat) (r : List Bool) => if decide ((r.length : Int) = m) = true then none else some (i : Int)) i xs = some b → 0 ≤ b := by
        intro i xs
        induction xs generalizing i with
        | nil => intro b hb; cases hb
        | cons x xs ih =>
          intro b hb
          rw [scan_cons] at hb
          split at hb
          · rename_i r hr
            cases hb
            split at hr
            · cases hr
            · cases hr; omega
          · exact ih _ b hb
      have := this 0 l b hsc
      simp [orElse, this]
  · have : ((l.length : Int) == n) = false := by simpa using h1
    simp [this, h1]
end Go.Lift

/- The test of a table: both implementations give one answer. -/
namespace Go.Lift
def diagE (l : List (List Bool)) : Option Int := scan (fun i row => if row.getD i false then none else some 1) 0 l
theorem getD_idx {row : List Bool} {i : Nat} (h : i < row.length) : idx row (i : Int) = some (row.getD i false) := by
  rw [idx_nat, List.getD_eq_getElem?_getD]; simp [h]
theorem refDiag (N : Nat) (t : ApiTable) (h : t.fRewrite.length < N) (hN : N ≤ 1000000) (hsq : ∀ row, row ∈ t.fRewrite → row.length = t.fRewrite.length) (j : Option Int) :
    Sh.sheaveref35_table_L22 N t (fun _ => j) N 0 = orElse (diagE t.fRewrite) j := by
  have := loop_scan (Sh.sheaveref35_table_L22 N t (fun _ => j)) t.fRewrite j (fun i row => if row.getD i false then none else some 1)
    (fun n i x hx => by
      have hi := (List.getElem?_eq_some_iff.1 hx).1
      have hl := hsq x (List.mem_of_getElem? hx)
      rw [Sh.sheaveref35_table_L22, cnd_pos (by omega), idx_nat, hx]
      simp only [Option.bind_some]
      rw [getD_idx (by omega), wrap_succ (by omega)]
      simp only [Option.bind_some]
      cases x.getD i false <;> rfl)
    (fun n => by rw [Sh.sheaveref35_table_L22, cnd_neg (by omega)]) N 0 (by omega) (by omega)
  simpa [diagE] using this
theorem fleetDiag (N : Nat) (t : ApiTable) (h : t.fRewrite.length < N) (hN : N ≤ 1000000) (hsq : ∀ row, row ∈ t.fRewrite → row.length = t.fRewrite.length) (j : Option Int) :
    Sh.fleet_table_L19 N t (fun _ => j) N 0 = orElse (diagE t.fRewrite) j := by
  have := loop_scan (Sh.fleet_table_L19 N t (fun _ => j)) t.fRewrite j (fun i row => if row.getD i false then none else some 1)
    (fun n i x hx => by
      have hi := (List.getElem?_eq_some_iff.1 hx).1
      have hl := hsq x (List.mem_of_getElem? hx)
      rw [Sh.fleet_table_L19, cnd_pos (by omega), idx_nat, hx]
      simp only [Option.bind_some]
      rw [getD_idx (by omega), wrap_succ (by omega)]
      simp only [Option.bind_some]
      cases x.getD i false <;> rfl)
    (fun n => by rw [Sh.fleet_table_L19, cnd_neg (by omega)]) N 0 (by omega) (by omega)
  simpa [diagE] using this
theorem sq_rows {l : List (List Bool)} {n m : Int} (h : sq l n m = true) : (l.length : Int) = n ∧ ∀ row, row ∈ l → (row.length : Int) = m := by
  unfold sq at h
  simp only [Bool.and_eq_true, decide_eq_true_eq, List.all_eq_true] at h
  exact h
def tableE (p : ApiProblem) (t : ApiTable) : Int :=
  if t.fKind < 1 ∨ 4 < t.fKind ∨ (t.fAware = true ∧ (t.fKind = 3 ∨ t.fKind = 4)) then 1
  else if t.fFrom < 0 ∨ (p.fVersions.length : Int) ≤ t.fFrom ∨ t.fTo < 0 ∨ (p.fVersions.length : Int) ≤ t.fTo then 4
  else
    let f := p.fVersions.getD t.fFrom.toNat 0
    let g := p.fVersions.getD t.fTo.toNat 0
    if sq t.fOK f g = false then 6
    else if t.fKind = 4 then (if sq t.fRewrite f f = false then 6 else (diagE t.fRewrite).getD 0)
    else if t.fRewrite.length = 0 then 0 else 6
theorem idx_in {α : Type} {xs : List α} {i : Int} {d : α} (h0 : 0 ≤ i) (h1 : i < (xs.length : Int)) : idx xs i = some (xs.getD i.toNat d) := by
  obtain ⟨k, rfl⟩ := Int.eq_ofNat_of_zero_le h0
  rw [idx_nat, List.getD_eq_getElem?_getD, Int.toNat_natCast]
  simp [show k < xs.length from by omega]
theorem bad_kind {t : ApiTable} (A B : Option Int) (hk : ¬ (t.fAware = true ∧ (t.fKind = 3 ∨ t.fKind = 4))) : cnd t.fAware (cnd (t.fKind == 3 || t.fKind == 4) A B) B = B := by
  cases ha : t.fAware
  · rfl
  · have : (t.fKind == 3 || t.fKind == 4) = false := by
      rw [Bool.or_eq_false_iff]
      constructor
      · simp only [beq_eq_false_iff_ne]; intro h; exact hk ⟨ha, .inl h⟩
      · simp only [beq_eq_false_iff_ne]; intro h; exact hk ⟨ha, .inr h⟩
    rw [this]; rfl
theorem ver_of {p : ApiProblem} {i : Int} (hv : ∀ v, v ∈ p.fVersions → 1 ≤ v ∧ v ≤ 6) (h0 : 0 ≤ i) (h1 : i < (p.fVersions.length : Int)) : 1 ≤ p.fVersions.getD i.toNat 0 ∧ p.fVersions.getD i.toNat 0 ≤ 6 := by
  refine hv _ ?_
  rw [List.getD_eq_getElem?_getD, List.getElem?_eq_getElem (by omega)]
  exact List.getElem_mem _
theorem ref_table (N : Nat) (p : ApiProblem) (t : ApiTable) (hN : N ≤ 1000000) (h6 : 7 ≤ N) (hv : ∀ v, v ∈ p.fVersions → 1 ≤ v ∧ v ≤ 6) : Sh.sheaveref35_table N p t = some (tableE p t) := by
  unfold Sh.sheaveref35_table tableE
  simp only [join, stored_eq, Option.bind_some]
  by_cases k1 : t.fKind < 1
  · simp [k1]
  by_cases k2 : 4 < t.fKind
  · simp [k1, k2]
  rw [cnd_neg k1, cnd_neg k2]
  by_cases hk : t.fAware = true ∧ (t.fKind = 3 ∨ t.fKind = 4)
  · obtain ⟨ha, k | k⟩ := hk <;> simp [ha, k]
  rw [cnd_false, bad_kind _ _ hk, if_neg (fun h => h.elim k1 fun h => h.elim k2 hk)]
  by_cases f1 : t.fFrom < 0
  · simp [f1]
  by_cases f2 : (p.fVersions.length : Int) ≤ t.fFrom
  · simp [f1, f2]
  by_cases f3 : t.fTo < 0
  · simp [f1, f2, f3]
  by_cases f4 : (p.fVersions.length : Int) ≤ t.fTo
  · simp [f1, f2, f3, f4]
  rw [cnd_neg f1, cnd_neg f2, cnd_neg f3, if_neg (fun h => h.elim f1 fun h => h.elim f2 fun h => h.elim f3 f4)]
  have hf := ver_of hv (i := t.fFrom) (by omega) (by omega)
  rw [decide_eq_false f4, cnd_false, idx_in (d := 0) (by omega : 0 ≤ t.fFrom) (by omega), idx_in (d := 0) (by omega : 0 ≤ t.fTo) (by omega)]
  simp only [Option.bind_some]
  generalize p.fVersions.getD t.fFrom.toNat 0 = f at *
  generalize p.fVersions.getD t.fTo.toNat 0 = g at *
  rw [square_eq N t.fOK f g (by omega) hN, square_eq N t.fRewrite f f (by omega) hN]
  simp only [Option.bind_some]
  cases hq : sq t.fOK f g
  · rfl
  simp only [Bool.not_true, cnd_false]
  by_cases k4 : t.fKind = 4
  · have : (t.fKind != 4) = false := by simp [k4]
    rw [this, cnd_false]
    simp only [k4, if_true]
    cases hr : sq t.fRewrite f f
    · rfl
    · have h7 := sq_rows hr
      simp only [Bool.not_true, cnd_false]
      rw [refDiag N t (by omega) hN (fun row hm => by have := h7.2 row hm; omega)]
      cases diagE t.fRewrite <;> simp [orElse]
  · have : (t.fKind != 4) = true := by simpa using k4
    rw [this, cnd_true]
    simp only [k4, if_false]
    by_cases hr : t.fRewrite.length = 0
    · simp [hr]
    · have : ((t.fRewrite.length : Int) != 0) = true := bne_iff_ne.2 (by omega)
      rw [this]; simp [hr]
theorem kind_eq (N : Nat) (k : Int) (a : Bool) : Sh.fleet_kind N k a = some (k == 1 || (k == 2 || ((k == 3 || k == 4) && !a))) := by
  unfold Sh.fleet_kind
  simp only [join]
  cases h1 : k == 1 <;> cases h2 : k == 2 <;> cases h3 : k == 3 <;> cases h4 : k == 4 <;> cases a <;> rfl
theorem fleet_table_eq (N : Nat) (p : ApiProblem) (t : ApiTable) (hN : N ≤ 1000000) (h6 : 7 ≤ N) (hv : ∀ v, v ∈ p.fVersions → 1 ≤ v ∧ v ≤ 6) : Sh.fleet_table N p t = some (tableE p t) := by
  unfold Sh.fleet_table tableE
  simp only [join, kind_eq, within_eq, Option.bind_some]
  by_cases hb : t.fKind < 1 ∨ 4 < t.fKind ∨ (t.fAware = true ∧ (t.fKind = 3 ∨ t.fKind = 4))
  · have : (t.fKind == 1 || (t.fKind == 2 || ((t.fKind == 3 || t.fKind == 4) && !t.fAware))) = false := by
      rcases hb with h | h | ⟨ha, h | h⟩
      · rw [beq_eq_false_iff_ne.2 (by omega : t.fKind ≠ 1), beq_eq_false_iff_ne.2 (by omega : t.fKind ≠ 2), beq_eq_false_iff_ne.2 (by omega : t.fKind ≠ 3), beq_eq_false_iff_ne.2 (by omega : t.fKind ≠ 4)]; rfl
      · rw [beq_eq_false_iff_ne.2 (by omega : t.fKind ≠ 1), beq_eq_false_iff_ne.2 (by omega : t.fKind ≠ 2), beq_eq_false_iff_ne.2 (by omega : t.fKind ≠ 3), beq_eq_false_iff_ne.2 (by omega : t.fKind ≠ 4)]; rfl
      · simp [ha, h]
      · simp [ha, h]
    rw [this, if_pos hb]; rfl
  · have : (t.fKind == 1 || (t.fKind == 2 || ((t.fKind == 3 || t.fKind == 4) && !t.fAware))) = true := by
      have hk : t.fKind = 1 ∨ t.fKind = 2 ∨ t.fKind = 3 ∨ t.fKind = 4 := by
        have h1 : ¬ t.fKind < 1 := fun h => hb (.inl h)
        have h2 : ¬ 4 < t.fKind := fun h => hb (.inr (.inl h))
        omega
      rcases hk with h | h | h | h
      · simp [h]
      · simp [h]
      · cases ha : t.fAware
        · simp [h]
        · exact (hb (.inr (.inr ⟨ha, .inl h⟩))).elim
      · cases ha : t.fAware
        · simp [h]
        · exact (hb (.inr (.inr ⟨ha, .inr h⟩))).elim
    rw [this, if_neg hb]
    simp only [Bool.not_true, cnd_false]
    by_cases f1 : t.fFrom < 0
    · simp [f1, show ¬ (0 ≤ t.fFrom) from by omega]
    by_cases f2 : (p.fVersions.length : Int) ≤ t.fFrom
    · simp [f2, show ¬ (t.fFrom < (p.fVersions.length : Int)) from by omega]
    by_cases f3 : t.fTo < 0
    · simp [f3, show 0 ≤ t.fFrom from by omega, show t.fFrom < (p.fVersions.length : Int) from by omega, show ¬ (0 ≤ t.fTo) from by omega]
    by_cases f4 : (p.fVersions.length : Int) ≤ t.fTo
    · simp [f4, show 0 ≤ t.fFrom from by omega, show t.fFrom < (p.fVersions.length : Int) from by omega, show ¬ (t.fTo < (p.fVersions.length : Int)) from by omega]
    rw [if_neg (fun h => h.elim f1 fun h => h.elim f2 fun h => h.elim f3 f4)]
    have hf := ver_of hv (i := t.fFrom) (by omega) (by omega)
    have hg := ver_of hv (i := t.fTo) (by omega) (by omega)
    rw [decide_eq_true (by omega : 0 ≤ t.fFrom), decide_eq_true (by omega : t.fFrom < (p.fVersions.length : Int)), decide_eq_true (by omega : 0 ≤ t.fTo), decide_eq_true (by omega : t.fTo < (p.fVersions.length : Int)), idx_in (d := 0) (by omega : 0 ≤ t.fFrom) (by omega), idx_in (d := 0) (by omega : 0 ≤ t.fTo) (by omega)]
    simp only [Bool.and_self, Bool.not_true, cnd_false, Option.bind_some]
    generalize p.fVersions.getD t.fFrom.toNat 0 = f at *
    generalize p.fVersions.getD t.fTo.toNat 0 = g at *
    rw [matrix_eq N t.fOK f g (by omega) hN, matrix_eq N t.fRewrite f f (by omega) hN]
    simp only [Option.bind_some]
    cases hq : sq t.fOK f g
    · rfl
    simp only [Bool.not_true, cnd_false]
    by_cases k4 : t.fKind = 4
    · simp only [k4, beq_self_eq_true, cnd_true, if_true]
      cases hr : sq t.fRewrite f f
      · rfl
      · have h7 := sq_rows hr
        simp only [Bool.not_true, cnd_false]
        rw [fleetDiag N t (by omega) hN (fun row hm => by have := h7.2 row hm; omega)]
        cases diagE t.fRewrite <;> simp [orElse]
    · have : (t.fKind == 4) = false := beq_eq_false_iff_ne.2 k4
      rw [this, cnd_false]
      simp only [k4, if_false, Bool.not_false, cnd_true]
      by_cases hr : t.fRewrite.length = 0
      · rw [fleetDiag N t (by omega) hN (fun row hm => by rw [List.eq_nil_of_length_eq_zero hr] at hm; cases hm), List.eq_nil_of_length_eq_zero hr]
        simp [diagE, scan, orElse]
      · rw [decide_eq_true (by omega : 0 < (t.fRewrite.length : Int))]
        simp [hr]
end Go.Lift

/- The test of a problem: both implementations give one answer. -/
namespace Go.Lift
def rangeE (p : ApiProblem) (i : Nat) (v : Int) : Option Int :=
  if v < 1 ∨ 6 < v ∨ p.fNow.getD i 0 < 0 ∨ v ≤ p.fNow.getD i 0 ∨ p.fTarget.getD i 0 < 0 ∨ v ≤ p.fTarget.getD i 0 then some 7 else none
def tabE (p : ApiProblem) (_ : Nat) (t : ApiTable) : Option Int := if tableE p t = 0 then none else some (tableE p t)
def validP (p : ApiProblem) : Int :=
  if 6 < p.fVersions.length ∨ 12 < p.fTables.length then 3
  else if p.fNow.length ≠ p.fVersions.length ∨ p.fTarget.length ≠ p.fVersions.length then 6
  else ((orElse (scan (rangeE p) 0 p.fVersions) (scan (tabE p) 0 p.fTables)).getD 0)
theorem scan_none {α R : Type} {f : Nat → α → Option R} : ∀ {i : Nat} {xs : List α}, scan f i xs = none → ∀ j x, xs[j]? = some x → f (i + j) x = none
  | _, [], _, j, x, hx => by simp at hx
  | i, y :: ys, h, j, x, hx => by
    rw [scan_cons] at h
    split at h
    · cases h
    · rename_i h0
      cases j with
      | zero => simp at hx; subst hx; exact h0
      | succ j =>
        have := scan_none h j x (by simpa using hx)
        rwa [show i + 1 + j = i + (j + 1) from by omega] at this
theorem range_ok {p : ApiProblem} (h : scan (rangeE p) 0 p.fVersions = none) : ∀ v, v ∈ p.fVersions → 1 ≤ v ∧ v ≤ 6 := by
  intro v hv
  obtain ⟨i, hi⟩ := List.mem_iff_getElem?.1 hv
  have := scan_none h i v hi
  unfold rangeE at this
  split at this
  · cases this
  · rename_i hn
    constructor
    · exact Int.not_lt.1 fun h => hn (.inl h)
    · exact Int.not_lt.1 fun h => hn (.inr (.inl h))
theorem idx_lt {α : Type} {xs : List α} {i : Nat} {d : α} (h : i < xs.length) : idx xs (i : Int) = some (xs.getD i d) := by
  rw [idx_nat, List.getD_eq_getElem?_getD]; simp [h]
theorem ref_ranges (N : Nat) (p : ApiProblem) (hN : N ≤ 1000000) (h1 : p.fVersions.length < N) (h2 : p.fNow.length = p.fVersions.length) (h3 : p.fTarget.length = p.fVersions.length) (j : Option Int) :
    Sh.sheaveref35_ValidProblem_L7 N p (fun _ => j) N 0 = orElse (scan (rangeE p) 0 p.fVersions) j := by
  have := loop_scan (Sh.sheaveref35_ValidProblem_L7 N p (fun _ => j)) p.fVersions j (rangeE p)
    (fun n i x hx => by
      have hi := (List.getElem?_eq_some_iff.1 hx).1
      rw [Sh.sheaveref35_ValidProblem_L7, cnd_pos (by omega), idx_nat, hx]
      simp only [Option.bind_some, join]
      rw [idx_lt (d := 0) (by omega), idx_lt (d := 0) (by omega), wrap_succ (by omega)]
      simp only [Option.bind_some]
      unfold rangeE
      generalize p.fNow.getD i 0 = a
      generalize p.fTarget.getD i 0 = b
      by_cases k1 : x < 1 <;> by_cases k2 : 6 < x <;> by_cases k3 : a < 0 <;> by_cases k4 : x ≤ a <;> by_cases k5 : b < 0 <;> by_cases k6 : x ≤ b <;> simp [k1, k2, k3, k4, k5, k6, orElse])
    (fun n => by rw [Sh.sheaveref35_ValidProblem_L7, cnd_neg (by omega)]) N 0 (by omega) (by omega)
  simpa using this
theorem fleet_ranges (N : Nat) (p : ApiProblem) (hN : N ≤ 1000000) (h1 : p.fVersions.length < N) (h2 : p.fNow.length = p.fVersions.length) (h3 : p.fTarget.length = p.fVersions.length) (j : Option Int) :
    Sh.fleet_ValidProblem_L7 N p (fun _ => j) N 0 = orElse (scan (rangeE p) 0 p.fVersions) j := by
  have := loop_scan (Sh.fleet_ValidProblem_L7 N p (fun _ => j)) p.fVersions j (rangeE p)
    (fun n i x hx => by
      have hi := (List.getElem?_eq_some_iff.1 hx).1
      rw [Sh.fleet_ValidProblem_L7, cnd_pos (by omega), idx_nat, hx]
      simp only [Option.bind_some, join, within_eq]
      rw [idx_lt (d := 0) (by omega), idx_lt (d := 0) (by omega), wrap_succ (by omega)]
      simp only [Option.bind_some]
      unfold rangeE
      generalize p.fNow.getD i 0 = a
      generalize p.fTarget.getD i 0 = b
      have e1 : decide (0 ≤ a) = !decide (a < 0) := by rw [← decide_not]; congr 1; simp
      have e2 : decide (a < x) = !decide (x ≤ a) := by rw [← decide_not]; congr 1; simp
      have e3 : decide (0 ≤ b) = !decide (b < 0) := by rw [← decide_not]; congr 1; simp
      have e4 : decide (b < x) = !decide (x ≤ b) := by rw [← decide_not]; congr 1; simp
      rw [e1, e2, e3, e4]
      by_cases k1 : x < 1 <;> by_cases k2 : 6 < x <;> by_cases k3 : a < 0 <;> by_cases k4 : x ≤ a <;> by_cases k5 : b < 0 <;> by_cases k6 : x ≤ b <;> simp [k1, k2, k3, k4, k5, k6, orElse])
    (fun n => by rw [Sh.fleet_ValidProblem_L7, cnd_neg (by omega)]) N 0 (by omega) (by omega)
  simpa using this
theorem ref_tabs (N : Nat) (p : ApiProblem) (hN : N ≤ 1000000) (h6 : 7 ≤ N) (h1 : p.fTables.length < N) (hv : ∀ v, v ∈ p.fVersions → 1 ≤ v ∧ v ≤ 6) (j : Option Int) :
    Sh.sheaveref35_ValidProblem_L22 N p (fun _ => j) N 0 = orElse (scan (tabE p) 0 p.fTables) j := by
  have := loop_scan (Sh.sheaveref35_ValidProblem_L22 N p (fun _ => j)) p.fTables j (tabE p)
    (fun n i x hx => by
      have hi := (List.getElem?_eq_some_iff.1 hx).1
      rw [Sh.sheaveref35_ValidProblem_L22, cnd_pos (by omega), idx_nat, hx]
      simp only [Option.bind_some]
      rw [ref_table N p x hN h6 hv, wrap_succ (by omega)]
      simp only [Option.bind_some]
      unfold tabE
      by_cases k : tableE p x = 0
      · simp [k, orElse]
      · rw [bne_iff_ne.2 k, if_neg k]; rfl)
    (fun n => by rw [Sh.sheaveref35_ValidProblem_L22, cnd_neg (by omega)]) N 0 (by omega) (by omega)
  simpa using this
theorem fleet_tabs (N : Nat) (p : ApiProblem) (hN : N ≤ 1000000) (h6 : 7 ≤ N) (h1 : p.fTables.length < N) (hv : ∀ v, v ∈ p.fVersions → 1 ≤ v ∧ v ≤ 6) (j : Option Int) :
    Sh.fleet_ValidProblem_L20 N p (fun _ => j) N 0 = orElse (scan (tabE p) 0 p.fTables) j := by
  have := loop_scan (Sh.fleet_ValidProblem_L20 N p (fun _ => j)) p.fTables j (tabE p)
    (fun n i x hx => by
      have hi := (List.getElem?_eq_some_iff.1 hx).1
      rw [Sh.fleet_ValidProblem_L20, cnd_pos (by omega), idx_nat, hx]
      simp only [Option.bind_some]
      rw [fleet_table_eq N p x hN h6 hv, wrap_succ (by omega)]
      simp only [Option.bind_some]
      unfold tabE
      by_cases k : tableE p x = 0
      · simp [k, orElse]
      · rw [bne_iff_ne.2 k, if_neg k]; rfl)
    (fun n => by rw [Sh.fleet_ValidProblem_L20, cnd_neg (by omega)]) N 0 (by omega) (by omega)
  simpa using this
theorem ref_validP (N : Nat) (p : ApiProblem) (hN : N ≤ 1000000) (h : 20 ≤ N) : Sh.sheaveref35_ValidProblem N p = some (validP p) := by
  unfold Sh.sheaveref35_ValidProblem validP
  simp only [join]
  by_cases k1 : 6 < p.fVersions.length
  · rw [cnd_pos (by omega)]; simp [k1]
  rw [cnd_neg (by omega)]
  by_cases k2 : 12 < p.fTables.length
  · rw [decide_eq_true (by omega : (12 : Int) < (p.fTables.length : Int))]; simp [k2]
  rw [decide_eq_false (by omega : ¬ (12 : Int) < (p.fTables.length : Int)), cnd_false, if_neg (by omega)]
  by_cases k3 : p.fNow.length = p.fVersions.length
  · by_cases k4 : p.fTarget.length = p.fVersions.length
    · rw [k3, k4]
      simp only [bne_self_eq_false, cnd_false, ne_eq, not_true_eq_false, or_self, if_false]
      rw [ref_ranges N p hN (by omega) k3 k4]
      cases hs : scan (rangeE p) 0 p.fVersions with
      | some r => rfl
      | none =>
        simp only [orElse]
        rw [ref_tabs N p hN (by omega) (by omega) (range_ok hs)]
        cases scan (tabE p) 0 p.fTables <;> rfl
    · have : ((p.fTarget.length : Int) != (p.fVersions.length : Int)) = true := bne_iff_ne.2 (by omega)
      rw [this, k3]; simp [k4]
  · have : ((p.fNow.length : Int) != (p.fVersions.length : Int)) = true := bne_iff_ne.2 (by omega)
    rw [this]; simp [k3]
theorem fleet_validP (N : Nat) (p : ApiProblem) (hN : N ≤ 1000000) (h : 20 ≤ N) : Sh.fleet_ValidProblem N p = some (validP p) := by
  unfold Sh.fleet_ValidProblem validP
  simp only [join]
  by_cases k1 : 6 < p.fVersions.length
  · rw [cnd_pos (by omega)]; simp [k1]
  rw [cnd_neg (by omega)]
  by_cases k2 : 12 < p.fTables.length
  · rw [decide_eq_true (by omega : (12 : Int) < (p.fTables.length : Int))]; simp [k2]
  rw [decide_eq_false (by omega : ¬ (12 : Int) < (p.fTables.length : Int)), cnd_false, if_neg (by omega)]
  by_cases k3 : p.fNow.length = p.fVersions.length
  · by_cases k4 : p.fTarget.length = p.fVersions.length
    · rw [k3, k4]
      simp only [bne_self_eq_false, cnd_false, ne_eq, not_true_eq_false, or_self, if_false]
      rw [fleet_ranges N p hN (by omega) k3 k4]
      cases hs : scan (rangeE p) 0 p.fVersions with
      | some r => rfl
      | none =>
        simp only [orElse]
        rw [fleet_tabs N p hN (by omega) (by omega) (range_ok hs)]
        cases scan (tabE p) 0 p.fTables <;> rfl
    · have : ((p.fTarget.length : Int) != (p.fVersions.length : Int)) = true := bne_iff_ne.2 (by omega)
      rw [this, k3]; simp [k4]
  · have : ((p.fNow.length : Int) != (p.fVersions.length : Int)) = true := bne_iff_ne.2 (by omega)
    rw [this]; simp [k3]
end Go.Lift

/- The test of a mix: both implementations give one answer. -/
namespace Go.Lift
theorem u8_range {n : Int} (h : wU8 n) : 0 ≤ n ∧ n ≤ 255 := by
  unfold wU8 at h
  simpa [Lit.wf, IntKind.min, IntKind.max, IntKind.signed, IntKind.bits] using h
theorem andNot_zero_l : ∀ k : Fin 256, andNotI .u8 0 (k.val : Int) = 0 := by decide +kernel
theorem andNot_zero_r : ∀ k : Fin 256, andNotI .u8 (k.val : Int) 0 = (k.val : Int) := by decide +kernel
theorem andNot0l {n : Int} (h : wU8 n) : andNotI .u8 0 n = 0 := by
  have := u8_range h
  obtain ⟨k, rfl⟩ := Int.eq_ofNat_of_zero_le this.1
  exact andNot_zero_l ⟨k, by omega⟩
theorem andNot0r {n : Int} (h : wU8 n) : andNotI .u8 n 0 = n := by
  have := u8_range h
  obtain ⟨k, rfl⟩ := Int.eq_ofNat_of_zero_le this.1
  exact andNot_zero_r ⟨k, by omega⟩
theorem scan_some {α R : Type} {f : Nat → α → Option R} : ∀ {i : Nat} {xs : List α} {r : R}, scan f i xs = some r → ∃ j x, xs[j]? = some x ∧ f (i + j) x = some r
  | _, [], _, h => by cases h
  | i, y :: ys, r, h => by
    rw [scan_cons] at h
    split at h
    · rename_i r' h0
      cases h
      exact ⟨0, y, rfl, h0⟩
    · obtain ⟨j, x, h1, h2⟩ := scan_some h
      exact ⟨j + 1, x, by simpa using h1, by rwa [show i + (j + 1) = i + 1 + j from by omega]⟩
structure ProbOk (p : ApiProblem) : Prop where
  nv : p.fVersions.length ≤ 6
  nt : p.fTables.length ≤ 12
  now : p.fNow.length = p.fVersions.length
  tgt : p.fTarget.length = p.fVersions.length
  ver : ∀ v, v ∈ p.fVersions → 1 ≤ v ∧ v ≤ 6
  tab : ∀ t, t ∈ p.fTables → tableE p t = 0
theorem diag_cases (l : List (List Bool)) : (diagE l).getD 0 = 0 ∨ (diagE l).getD 0 = 1 := by
  cases h : diagE l with
  | none => exact .inl rfl
  | some r =>
    obtain ⟨j, x, _, h⟩ := scan_some h
    split at h
    · cases h
    · cases h; exact .inr rfl
theorem tableE_cases (p : ApiProblem) (t : ApiTable) : tableE p t = 0 ∨ tableE p t = 1 ∨ tableE p t = 4 ∨ tableE p t = 6 := by
  unfold tableE
  split
  · exact .inr (.inl rfl)
  split
  · exact .inr (.inr (.inl rfl))
  simp only
  split
  · exact .inr (.inr (.inr rfl))
  split
  · split
    · exact .inr (.inr (.inr rfl))
    · rcases diag_cases t.fRewrite with h | h
      · exact .inl h
      · exact .inr (.inl h)
  · split
    · exact .inl rfl
    · exact .inr (.inr (.inr rfl))
theorem validP_cases (p : ApiProblem) : (validP p = 0 ∧ ProbOk p) ∨ (validP p = 1 ∨ validP p = 3 ∨ validP p = 4 ∨ validP p = 6 ∨ validP p = 7) := by
  unfold validP
  split
  · simp
  rename_i k1
  split
  · simp
  rename_i k2
  cases hs : scan (rangeE p) 0 p.fVersions with
  | some r =>
    obtain ⟨j, x, _, h⟩ := scan_some hs
    unfold rangeE at h
    split at h
    · cases h; simp [orElse]
    · cases h
  | none =>
    cases ht : scan (tabE p) 0 p.fTables with
    | some r =>
      obtain ⟨j, t, _, h⟩ := scan_some ht
      unfold tabE at h
      split at h
      · cases h
      · rename_i hne
        cases h
        simp only [orElse, Option.getD_some]
        right
        rcases tableE_cases p t with h | h | h | h
        · exact (hne h).elim
        · exact .inl h
        · exact .inr (.inr (.inl h))
        · exact .inr (.inr (.inr (.inl h)))
    | none =>
      left
      refine ⟨rfl, by omega, by omega, by omega, by omega, range_ok hs, fun t hm => ?_⟩
      obtain ⟨j, hj⟩ := List.mem_iff_getElem?.1 hm
      have := scan_none ht j t hj
      unfold tabE at this
      split at this
      · assumption
      · cases this
end Go.Lift

/- The test of a mix: both implementations give one answer. -/
namespace Go.Lift
def runM (m : ApiMix) (s : Nat) : Int :=
  if 0 ≤ m.fNext.getD s 0 then orI .u8 (shlI .u8 1 (m.fBase.getD s 0)) (shlI .u8 1 (m.fNext.getD s 0)) else shlI .u8 1 (m.fBase.getD s 0)
def mixE (m : ApiMix) (i : Nat) (v : Int) : Option Int :=
  if m.fBase.getD i 0 < 0 ∨ v ≤ m.fBase.getD i 0 ∨ m.fNext.getD i 0 < -1 ∨ v ≤ m.fNext.getD i 0 then some 7
  else if m.fBase.getD i 0 = m.fNext.getD i 0 then some 1 else none
def storedB (t : ApiTable) : Bool := t.fKind == 3 || t.fKind == 4
def allM (p : ApiProblem) (t : ApiTable) : Int := IntKind.wrap .u8 (shlI .u8 1 (p.fVersions.getD t.fFrom.toNat 0) - 1)
def heldE (p : ApiProblem) (m : ApiMix) (i : Nat) (t : ApiTable) : Option Int :=
  if storedB t = true then (if andNotI .u8 (runM m t.fFrom.toNat) (m.fHeld.getD i 0) ≠ 0 ∨ andNotI .u8 (m.fHeld.getD i 0) (allM p t) ≠ 0 then some 1 else none)
  else if m.fHeld.getD i 0 ≠ 0 then some 1 else none
def validM (p : ApiProblem) (m : ApiMix) : Int :=
  if validP p ≠ 0 then validP p
  else if m.fBase.length ≠ p.fVersions.length ∨ m.fNext.length ≠ p.fVersions.length ∨ m.fHeld.length ≠ p.fTables.length then 6
  else (orElse (scan (mixE m) 0 p.fVersions) (scan (heldE p m) 0 p.fTables)).getD 0
theorem tab_in {p : ApiProblem} {t : ApiTable} (h : tableE p t = 0) : 0 ≤ t.fFrom ∧ t.fFrom < (p.fVersions.length : Int) ∧ 0 ≤ t.fTo ∧ t.fTo < (p.fVersions.length : Int) := by
  unfold tableE at h
  split at h
  · cases h
  · split at h
    · cases h
    · omega
theorem mix_run_eq (N : Nat) (m : ApiMix) (s : Int) (h0 : 0 ≤ s) (h1 : s < (m.fBase.length : Int)) (h2 : s < (m.fNext.length : Int)) (hb : 0 ≤ m.fBase.getD s.toNat 0) : Sh.mix_running N m s = some (runM m s.toNat) := by
  unfold Sh.mix_running runM
  rw [idx_in (d := 0) h0 h1, idx_in (d := 0) h0 h2]
  simp only [Option.bind_some, join]
  rw [show chk (0 ≤ m.fBase.getD s.toNat 0) = some () from by unfold chk; rw [if_pos hb]]
  simp only [Option.bind_some]
  by_cases h : 0 ≤ m.fNext.getD s.toNat 0
  · rw [cnd_pos h, if_pos h, show chk (0 ≤ m.fNext.getD s.toNat 0) = some () from by unfold chk; rw [if_pos h]]; rfl
  · rw [cnd_neg h, if_neg h]
theorem ref_run_eq (N : Nat) (m : ApiMix) (s : Int) (h0 : 0 ≤ s) (h1 : s < (m.fBase.length : Int)) (h2 : s < (m.fNext.length : Int)) (hb : 0 ≤ m.fBase.getD s.toNat 0) : Sh.sheaveref36_Running N m s = some (runM m s.toNat) := by
  unfold Sh.sheaveref36_Running runM
  rw [idx_in (d := 0) h0 h1, idx_in (d := 0) h0 h2]
  simp only [Option.bind_some, join]
  rw [show chk (0 ≤ m.fBase.getD s.toNat 0) = some () from by unfold chk; rw [if_pos hb]]
  simp only [Option.bind_some]
  by_cases h : 0 ≤ m.fNext.getD s.toNat 0
  · rw [cnd_pos h, if_pos h, show chk (0 ≤ m.fNext.getD s.toNat 0) = some () from by unfold chk; rw [if_pos h]]; rfl
  · rw [cnd_neg h, if_neg h]
theorem mix_services (N : Nat) (p : ApiProblem) (m : ApiMix) (hN : N ≤ 1000000) (h1 : p.fVersions.length < N) (h2 : m.fBase.length = p.fVersions.length) (h3 : m.fNext.length = p.fVersions.length) (j : Option Int) :
    Sh.mix_Valid_L7 N p m (fun _ => j) N 0 = orElse (scan (mixE m) 0 p.fVersions) j := by
  have := loop_scan (Sh.mix_Valid_L7 N p m (fun _ => j)) p.fVersions j (mixE m)
    (fun n i x hx => by
      have hi := (List.getElem?_eq_some_iff.1 hx).1
      rw [Sh.mix_Valid_L7, cnd_pos (by omega), idx_nat, hx]
      simp only [Option.bind_some, join]
      rw [idx_lt (d := 0) (by omega), idx_lt (d := 0) (by omega), wrap_succ (by omega)]
      simp only [Option.bind_some]
      unfold mixE
      generalize m.fBase.getD i 0 = a
      generalize m.fNext.getD i 0 = b
      by_cases k7 : a = b
      · subst k7
        by_cases k3 : a < 0 <;> by_cases k4 : x ≤ a <;> by_cases k5 : a < -1 <;> simp [k3, k4, k5, orElse]
      · have k8 : (a == b) = false := beq_eq_false_iff_ne.2 k7
        by_cases k3 : a < 0 <;> by_cases k4 : x ≤ a <;> by_cases k5 : b < -1 <;> by_cases k6 : x ≤ b <;> simp [k3, k4, k5, k6, k7, k8, orElse])
    (fun n => by rw [Sh.mix_Valid_L7, cnd_neg (by omega)]) N 0 (by omega) (by omega)
  simpa using this
theorem ref_services (N : Nat) (p : ApiProblem) (m : ApiMix) (hN : N ≤ 1000000) (h1 : p.fVersions.length < N) (h2 : m.fBase.length = p.fVersions.length) (h3 : m.fNext.length = p.fVersions.length) (j : Option Int) :
    Sh.sheaveref36_Valid_L7 N p m (fun _ => j) N 0 = orElse (scan (mixE m) 0 p.fVersions) j := by
  have := loop_scan (Sh.sheaveref36_Valid_L7 N p m (fun _ => j)) p.fVersions j (mixE m)
    (fun n i x hx => by
      have hi := (List.getElem?_eq_some_iff.1 hx).1
      rw [Sh.sheaveref36_Valid_L7, cnd_pos (by omega), show idx p.fVersions (i : Int) = some x from by rw [idx_nat, hx]]
      simp only [Option.bind_some, join]
      rw [idx_lt (d := 0) (by omega), idx_lt (d := 0) (by omega), wrap_succ (by omega)]
      simp only [Option.bind_some]
      unfold mixE
      generalize m.fBase.getD i 0 = a
      generalize m.fNext.getD i 0 = b
      by_cases k7 : a = b
      · subst k7
        by_cases k3 : a < 0 <;> by_cases k4 : x ≤ a <;> by_cases k5 : a < -1 <;> simp [k3, k4, k5, orElse]
      · have k8 : (a == b) = false := beq_eq_false_iff_ne.2 k7
        by_cases k3 : a < 0 <;> by_cases k4 : x ≤ a <;> by_cases k5 : b < -1 <;> by_cases k6 : x ≤ b <;> simp [k3, k4, k5, k6, k7, k8, orElse])
    (fun n => by rw [Sh.sheaveref36_Valid_L7, cnd_neg (by omega)]) N 0 (by omega) (by omega)
  simpa using this
end Go.Lift

/- The test of a mix, the whole: both implementations give one answer. -/
namespace Go.Lift
structure MixServ (p : ApiProblem) (m : ApiMix) : Prop where
  base : m.fBase.length = p.fVersions.length
  next : m.fNext.length = p.fVersions.length
  held : m.fHeld.length = p.fTables.length
  b0 : ∀ i, i < p.fVersions.length → 0 ≤ m.fBase.getD i 0 ∧ m.fBase.getD i 0 < p.fVersions.getD i 0
  n0 : ∀ i, i < p.fVersions.length → -1 ≤ m.fNext.getD i 0 ∧ m.fNext.getD i 0 < p.fVersions.getD i 0
  ne : ∀ i, i < p.fVersions.length → m.fBase.getD i 0 ≠ m.fNext.getD i 0
theorem serv_of {p : ApiProblem} {m : ApiMix} (h2 : m.fBase.length = p.fVersions.length) (h3 : m.fNext.length = p.fVersions.length) (h4 : m.fHeld.length = p.fTables.length) (h : scan (mixE m) 0 p.fVersions = none) : MixServ p m := by
  have key : ∀ i, i < p.fVersions.length → ¬ (m.fBase.getD i 0 < 0 ∨ p.fVersions.getD i 0 ≤ m.fBase.getD i 0 ∨ m.fNext.getD i 0 < -1 ∨ p.fVersions.getD i 0 ≤ m.fNext.getD i 0) ∧ ¬ m.fBase.getD i 0 = m.fNext.getD i 0 := by
    intro i hi
    have hx : p.fVersions[i]? = some (p.fVersions.getD i 0) := by rw [List.getD_eq_getElem?_getD]; simp [hi]
    have := scan_none h i _ hx
    rw [Nat.zero_add] at this
    unfold mixE at this
    split at this
    · cases this
    · split at this
      · cases this
      · rename_i k1 k2; exact ⟨k1, k2⟩
  exact ⟨h2, h3, h4, fun i hi => by have := (key i hi).1; omega, fun i hi => by have := (key i hi).1; omega, fun i hi => (key i hi).2⟩
theorem wU8_getD {m : ApiMix} (hw : wSl wU8 m.fHeld) {i : Nat} (h : i < m.fHeld.length) : wU8 (m.fHeld.getD i 0) := by
  refine hw _ ?_
  rw [List.getD_eq_getElem?_getD, List.getElem?_eq_getElem h]
  exact List.getElem_mem _
theorem mix_stored_eq (N : Nat) (t : ApiTable) : Sh.mix_stored N t = some (storedB t) := by
  unfold Sh.mix_stored storedB
  simp only [join]
  cases h : t.fKind == 3 <;> simp
theorem ref_stored_eq (N : Nat) (t : ApiTable) : Sh.sheaveref35_Stored N t = some (storedB t) := stored_eq N t
theorem mix_tables (N : Nat) (p : ApiProblem) (m : ApiMix) (hN : N ≤ 1000000) (h1 : p.fTables.length < N) (hp : ProbOk p) (hm : MixServ p m) (hw : wSl wU8 m.fHeld) (j : Option Int) :
    Sh.mix_Valid_L23 N p m (fun _ => j) N 0 = orElse (scan (heldE p m) 0 p.fTables) j := by
  have := loop_scan (Sh.mix_Valid_L23 N p m (fun _ => j)) p.fTables j (heldE p m)
    (fun n i x hx => by
      have hi := (List.getElem?_eq_some_iff.1 hx).1
      have hin := tab_in (hp.tab x (List.mem_of_getElem? hx))
      have hheld := wU8_getD hw (show i < m.fHeld.length from by rw [hm.held]; exact hi)
      have hv := ver_of hp.ver hin.1 hin.2.1
      rw [Sh.mix_Valid_L23, cnd_pos (by omega), idx_nat, hx]
      simp only [Option.bind_some, join, mix_stored_eq]
      rw [mix_run_eq N m x.fFrom hin.1 (by rw [hm.base]; exact hin.2.1) (by rw [hm.next]; exact hin.2.1) (hm.b0 _ (by omega)).1, idx_in (d := 0) hin.1 hin.2.1, idx_lt (d := 0) (show i < m.fHeld.length from by rw [hm.held]; exact hi), wrap_succ (by omega)]
      simp only [Option.bind_some]
      rw [show chk (0 ≤ p.fVersions.getD x.fFrom.toNat 0) = some () from by unfold chk; rw [if_pos (by omega)]]
      simp only [Option.bind_some]
      unfold heldE allM
      rw [andNot0l hheld, andNot0r hheld]
      generalize andNotI .u8 (runM m x.fFrom.toNat) (m.fHeld.getD i 0) = A
      generalize andNotI .u8 (m.fHeld.getD i 0) (IntKind.wrap .u8 (shlI .u8 1 (p.fVersions.getD x.fFrom.toNat 0) - 1)) = B
      generalize m.fHeld.getD i 0 = H
      cases storedB x
      · simp only [cnd_false, bne_self_eq_false]
        by_cases k : H = 0
        · simp [k, orElse]
        · have : (H != 0) = true := bne_iff_ne.2 k
          simp [k, this, orElse]
      · simp only [cnd_true]
        by_cases k : A = 0
        · by_cases k2 : B = 0
          · simp [k, k2, orElse]
          · have : (B != 0) = true := bne_iff_ne.2 k2
            simp [k, k2, this, orElse]
        · have : (A != 0) = true := bne_iff_ne.2 k
          simp [k, this, orElse])
    (fun n => by rw [Sh.mix_Valid_L23, cnd_neg (by omega)]) N 0 (by omega) (by omega)
  simpa using this
theorem ref_tables (N : Nat) (p : ApiProblem) (m : ApiMix) (hN : N ≤ 1000000) (h1 : p.fTables.length < N) (hp : ProbOk p) (hm : MixServ p m) (j : Option Int) :
    Sh.sheaveref36_Valid_L24 N p m (fun _ => j) N 0 = orElse (scan (heldE p m) 0 p.fTables) j := by
  have := loop_scan (Sh.sheaveref36_Valid_L24 N p m (fun _ => j)) p.fTables j (heldE p m)
    (fun n i x hx => by
      have hi := (List.getElem?_eq_some_iff.1 hx).1
      have hin := tab_in (hp.tab x (List.mem_of_getElem? hx))
      have hv := ver_of hp.ver hin.1 hin.2.1
      rw [Sh.sheaveref36_Valid_L24, cnd_pos (by omega), idx_nat, hx]
      simp only [Option.bind_some, join, ref_stored_eq]
      rw [ref_run_eq N m x.fFrom hin.1 (by rw [hm.base]; exact hin.2.1) (by rw [hm.next]; exact hin.2.1) (hm.b0 _ (by omega)).1, idx_in (d := 0) hin.1 hin.2.1, idx_lt (d := 0) (show i < m.fHeld.length from by rw [hm.held]; exact hi), wrap_succ (by omega)]
      simp only [Option.bind_some]
      rw [show chk (0 ≤ p.fVersions.getD x.fFrom.toNat 0) = some () from by unfold chk; rw [if_pos (by omega)]]
      simp only [Option.bind_some]
      unfold heldE allM
      generalize andNotI .u8 (runM m x.fFrom.toNat) (m.fHeld.getD i 0) = A
      generalize andNotI .u8 (m.fHeld.getD i 0) (IntKind.wrap .u8 (shlI .u8 1 (p.fVersions.getD x.fFrom.toNat 0) - 1)) = B
      generalize m.fHeld.getD i 0 = H
      cases storedB x
      · simp only [Bool.not_false, cnd_true, cnd_false]
        by_cases k : H = 0
        · simp [k, orElse]
        · have : (H != 0) = true := bne_iff_ne.2 k
          simp [k, this, orElse]
      · simp only [Bool.not_true, cnd_false, cnd_true]
        by_cases k : A = 0
        · by_cases k2 : B = 0
          · simp [k, k2, orElse]
          · have : (B != 0) = true := bne_iff_ne.2 k2
            simp [k, k2, this, orElse]
        · have : (A != 0) = true := bne_iff_ne.2 k
          by_cases k2 : B = 0
          · simp [k, k2, this, orElse]
          · have h5 : (B != 0) = true := bne_iff_ne.2 k2
            simp [k, h5, orElse])
    (fun n => by rw [Sh.sheaveref36_Valid_L24, cnd_neg (by omega)]) N 0 (by omega) (by omega)
  simpa using this
theorem mix_valid_eq (N : Nat) (p : ApiProblem) (m : ApiMix) (hN : N ≤ 1000000) (h : 20 ≤ N) (hw : wSl wU8 m.fHeld) : Sh.mix_Valid N p m = some (validM p m) := by
  unfold Sh.mix_Valid validM
  rw [fleet_validP N p hN h]
  simp only [Option.bind_some, join]
  by_cases k0 : validP p = 0
  · have hp : ProbOk p := by
      rcases validP_cases p with h | h
      · exact h.2
      · omega
    have hnv := hp.nv
    have hnt := hp.nt
    rw [k0]
    simp only [bne_self_eq_false, cnd_false, ne_eq, not_true_eq_false, if_false]
    by_cases k1 : m.fBase.length = p.fVersions.length
    · by_cases k2 : m.fNext.length = p.fVersions.length
      · by_cases k3 : m.fHeld.length = p.fTables.length
        · rw [k1, k2, k3]
          simp only [bne_self_eq_false, cnd_false, not_true_eq_false, or_self, if_false]
          rw [mix_services N p m hN (by omega) k1 k2]
          cases hs : scan (mixE m) 0 p.fVersions with
          | some r => rfl
          | none =>
            simp only [orElse]
            rw [mix_tables N p m hN (by omega) hp (serv_of k1 k2 k3 hs) hw]
            cases scan (heldE p m) 0 p.fTables <;> rfl
        · have : ((m.fHeld.length : Int) != (p.fTables.length : Int)) = true := bne_iff_ne.2 (by omega)
          rw [this, k1, k2]; simp [k3]
      · have : ((m.fNext.length : Int) != (p.fVersions.length : Int)) = true := bne_iff_ne.2 (by omega)
        rw [this, k1]; simp [k2]
    · have : ((m.fBase.length : Int) != (p.fVersions.length : Int)) = true := bne_iff_ne.2 (by omega)
      rw [this]; simp [k1]
  · rw [bne_iff_ne.2 k0]; simp [k0]
theorem ref_valid_eq (N : Nat) (p : ApiProblem) (m : ApiMix) (hN : N ≤ 1000000) (h : 20 ≤ N) : Sh.sheaveref36_Valid N p m = some (validM p m) := by
  unfold Sh.sheaveref36_Valid validM
  rw [ref_validP N p hN h]
  simp only [Option.bind_some, join]
  by_cases k0 : validP p = 0
  · have hp : ProbOk p := by
      rcases validP_cases p with h | h
      · exact h.2
      · omega
    have hnv := hp.nv
    have hnt := hp.nt
    rw [k0]
    simp only [bne_self_eq_false, cnd_false, ne_eq, not_true_eq_false, if_false]
    by_cases k1 : m.fBase.length = p.fVersions.length
    · by_cases k2 : m.fNext.length = p.fVersions.length
      · by_cases k3 : m.fHeld.length = p.fTables.length
        · rw [k1, k2, k3]
          simp only [bne_self_eq_false, cnd_false, not_true_eq_false, or_self, if_false]
          rw [ref_services N p m hN (by omega) k1 k2]
          cases hs : scan (mixE m) 0 p.fVersions with
          | some r => rfl
          | none =>
            simp only [orElse]
            rw [ref_tables N p m hN (by omega) hp (serv_of k1 k2 k3 hs)]
            cases scan (heldE p m) 0 p.fTables <;> rfl
        · have : ((m.fHeld.length : Int) != (p.fTables.length : Int)) = true := bne_iff_ne.2 (by omega)
          rw [this, k1, k2]; simp [k3]
      · have : ((m.fNext.length : Int) != (p.fVersions.length : Int)) = true := bne_iff_ne.2 (by omega)
        rw [this, k1]; simp [k2]
    · have : ((m.fBase.length : Int) != (p.fVersions.length : Int)) = true := bne_iff_ne.2 (by omega)
      rw [this]; simp [k1]
  · rw [bne_iff_ne.2 k0]; simp [k0]
end Go.Lift

/- Loops of the shallow programs as folds along lists. -/
namespace Go.Lift
@[simp] theorem join_eq {α β : Type} (k : α) (f : α → β) : join k f = f k := rfl
@[simp] theorem chk_true {p : Prop} [Decidable p] (h : p) : chk p = some () := by unfold chk; rw [if_pos h]
theorem chk_bind_true {β : Type} {p : Prop} [Decidable p] (h : p) (f : Unit → Option β) : (chk p).bind f = f () := by rw [chk_true h]; rfl
def flatI {α β : Type} (g : Nat → α → List β) : Nat → List α → List β
  | _, [] => []
  | i, x :: xs => g i x ++ flatI g (i + 1) xs
def foldI {α A : Type} (f : Nat → α → A → A) : Nat → List α → A → A
  | _, [], a => a
  | i, x :: xs, a => foldI f (i + 1) xs (f i x a)
theorem flatI_len {α β : Type} {g : Nat → α → List β} {c : Nat} : ∀ {i : Nat} {xs : List α}, (∀ j x, xs[j]? = some x → (g (i + j) x).length ≤ c) → (flatI g i xs).length ≤ c * xs.length
  | _, [], _ => by simp [flatI]
  | i, x :: xs, h => by
    have h1 := h 0 x rfl
    have h2 := flatI_len (g := g) (c := c) (i := i + 1) (xs := xs) fun j y hy => by
      have := h (j + 1) y (by simpa using hy)
      rwa [show i + (j + 1) = i + 1 + j from by omega] at this
    rw [flatI, List.length_append, List.length_cons, Nat.mul_add]
    simp only [Nat.add_zero] at h1
    omega
theorem loop_fold {α A S R : Type} (L : Nat → S → Option R) (mk : A → Int → S) (xs : List α) (j : A → Option R) (f : Nat → α → A → A) (I : Nat → A → Prop)
    (hs : ∀ (n i : Nat) (x : α) (a : A), xs[i]? = some x → I i a → L (n + 1) (mk a (i : Int)) = L n (mk (f i x a) ((i + 1 : Nat) : Int)) ∧ I (i + 1) (f i x a))
    (he : ∀ (n : Nat) (a : A), I xs.length a → L (n + 1) (mk a (xs.length : Int)) = j a) :
    ∀ (n i : Nat) (a : A), i ≤ xs.length → xs.length - i < n → I i a → L n (mk a (i : Int)) = j (foldI f i (xs.drop i) a) ∧ I xs.length (foldI f i (xs.drop i) a)
  | 0, i, _, _, h, _ => by omega
  | n + 1, i, a, hi, h, ha => by
    by_cases h1 : i < xs.length
    · have hx : xs[i]? = some xs[i] := by simp [h1]
      obtain ⟨e1, e2⟩ := hs n i _ a hx ha
      rw [e1, drop_cons hx, foldI]
      exact loop_fold L mk xs j f I hs he n (i + 1) _ (by omega) (by omega) e2
    · have : i = xs.length := by omega
      subst this
      rw [List.drop_eq_nil_of_le (Nat.le_refl _), foldI]
      exact ⟨he n a ha, ha⟩
theorem foldI_flat {α β : Type} (g : Nat → α → List β) : ∀ (i : Nat) (xs : List α) (acc : List β), foldI (fun i x a => a ++ g i x) i xs acc = acc ++ flatI g i xs
  | _, [], acc => by simp [foldI, flatI]
  | i, x :: xs, acc => by rw [foldI, foldI_flat g (i + 1) xs, flatI, List.append_assoc]
theorem loop_flat {α β S R : Type} (L : Nat → S → Option R) (mk : List β → Int → S) (xs : List α) (j : List β → Option R) (g : Nat → α → List β) (c B : Nat)
    (hg : ∀ i x, xs[i]? = some x → (g i x).length ≤ c)
    (hs : ∀ (n i : Nat) (x : α) (a : List β), xs[i]? = some x → a.length + (g i x).length ≤ B → L (n + 1) (mk a (i : Int)) = L n (mk (a ++ g i x) ((i + 1 : Nat) : Int)))
    (he : ∀ (n : Nat) (a : List β), L (n + 1) (mk a (xs.length : Int)) = j a) (n : Nat) (a : List β) (hn : xs.length < n) (ha : a.length + c * xs.length ≤ B) :
    L n (mk a 0) = j (a ++ flatI g 0 xs) := by
  have := loop_fold L mk xs j (fun i x a => a ++ g i x) (fun i b => i ≤ xs.length ∧ b.length ≤ a.length + c * i)
    (fun n i x b hx hb => by
      have h1 := hg i x hx
      have hi := (List.getElem?_eq_some_iff.1 hx).1
      have h2 : c * (i + 1) ≤ c * xs.length := Nat.mul_le_mul_left c hi
      have h3 : c * (i + 1) = c * i + c := Nat.mul_succ c i
      refine ⟨hs n i x b hx (by have := hb.2; omega), hi, ?_⟩
      rw [List.length_append]
      have := hb.2
      omega)
    (fun n b _ => he n b) n 0 a (Nat.zero_le _) (by omega) ⟨Nat.zero_le _, by omega⟩
  have h2 := this.1
  rw [List.drop_zero, foldI_flat] at h2
  exact h2
end Go.Lift

/- Sets as bits, the mixes that are valid, and the conflicts of a mix: both implementations give one answer. -/
namespace Go.Lift
def bitB (s : Int) (v : Nat) : Bool := s.toNat.testBit v
def runB (m : ApiMix) (s v : Nat) : Bool := decide (m.fBase.getD s 0 = (v : Int)) || decide (m.fNext.getD s 0 = (v : Int))
theorem has_all : ∀ (s : Fin 256) (v : Fin 8), andI .u8 (shrI .u8 (s.val : Int) (v.val : Int)) 1 = if bitB (s.val : Int) v.val then 1 else 0 := by decide +kernel
theorem has_bit {s : Int} {v : Nat} (h0 : 0 ≤ s) (h1 : s ≤ 255) (hv : v < 8) : andI .u8 (shrI .u8 s (v : Int)) 1 = if bitB s v then 1 else 0 := by
  obtain ⟨k, rfl⟩ := Int.eq_ofNat_of_zero_le h0
  exact has_all ⟨k, by omega⟩ ⟨v, hv⟩
theorem has_bit0 {s : Int} {v : Nat} (h0 : 0 ≤ s) (h1 : s ≤ 255) (hv : v < 8) : (andI .u8 (shrI .u8 s (v : Int)) 1 == 0) = !bitB s v := by
  rw [has_bit h0 h1 hv]; cases bitB s v <;> rfl
theorem has_bit1 {s : Int} {v : Nat} (h0 : 0 ≤ s) (h1 : s ≤ 255) (hv : v < 8) : (andI .u8 (shrI .u8 s (v : Int)) 1 == 1) = bitB s v := by
  rw [has_bit h0 h1 hv]; cases bitB s v <;> rfl
theorem bit_big {s : Int} {v : Nat} (h1 : s ≤ 255) (hv : 8 ≤ v) : bitB s v = false := by
  unfold bitB
  apply Nat.testBit_lt_two_pow
  have : (2 : Nat) ^ 8 ≤ 2 ^ v := Nat.pow_le_pow_right (by omega) hv
  omega
theorem run_one : ∀ (b : Fin 8) (v : Fin 8), bitB (shlI .u8 1 (b.val : Int)) v.val = decide (b.val = v.val) ∧ 0 ≤ shlI .u8 1 (b.val : Int) ∧ shlI .u8 1 (b.val : Int) ≤ 255 := by decide +kernel
theorem run_two : ∀ (b n : Fin 8) (v : Fin 8), bitB (orI .u8 (shlI .u8 1 (b.val : Int)) (shlI .u8 1 (n.val : Int))) v.val = (decide (b.val = v.val) || decide (n.val = v.val))
    ∧ 0 ≤ orI .u8 (shlI .u8 1 (b.val : Int)) (shlI .u8 1 (n.val : Int)) ∧ orI .u8 (shlI .u8 1 (b.val : Int)) (shlI .u8 1 (n.val : Int)) ≤ 255 := by decide +kernel
theorem runM_bit {m : ApiMix} {s : Nat} (hb0 : 0 ≤ m.fBase.getD s 0) (hb1 : m.fBase.getD s 0 < 8) (hn1 : m.fNext.getD s 0 < 8) :
    (∀ v, bitB (runM m s) v = runB m s v) ∧ 0 ≤ runM m s ∧ runM m s ≤ 255 := by
  unfold runM runB
  obtain ⟨b, hb⟩ := Int.eq_ofNat_of_zero_le hb0
  rw [hb] at hb1 ⊢
  by_cases h : 0 ≤ m.fNext.getD s 0
  · obtain ⟨n, hn⟩ := Int.eq_ofNat_of_zero_le h
    rw [hn] at hn1 ⊢
    rw [if_pos (by omega)]
    have h1 := run_two ⟨b, by omega⟩ ⟨n, by omega⟩
    refine ⟨fun v => ?_, (h1 0).2⟩
    by_cases hv : v < 8
    · rw [(h1 ⟨v, hv⟩).1]
      simp only [Int.ofNat_inj]
    · rw [bit_big (h1 0).2.2 (by omega)]
      simp; omega
  · rw [if_neg h]
    have h1 := run_one ⟨b, by omega⟩
    refine ⟨fun v => ?_, (h1 0).2⟩
    have h3 : decide (m.fNext.getD s 0 = (v : Int)) = false := decide_eq_false (by omega)
    rw [h3, Bool.or_false]
    by_cases hv : v < 8
    · rw [(h1 ⟨v, hv⟩).1]
      simp only [Int.ofNat_inj]
    · rw [bit_big (h1 0).2.2 (by omega)]
      simp; omega
theorem u8_bv {a : Nat} (h : a < 256) : (BitVec.ofInt 8 (a : Int)).toNat = a := by
  simp; omega
theorem andNot_iff {a b : Int} (ha : 0 ≤ a ∧ a ≤ 255) (hb : 0 ≤ b ∧ b ≤ 255) : andNotI .u8 a b = 0 ↔ ∀ v, bitB a v = true → bitB b v = true := by
  obtain ⟨a, rfl⟩ := Int.eq_ofNat_of_zero_le ha.1
  obtain ⟨b, rfl⟩ := Int.eq_ofNat_of_zero_le hb.1
  have hA := u8_bv (a := a) (by omega)
  have hB := u8_bv (a := b) (by omega)
  unfold andNotI bitB
  simp only [IntKind.bits, Int.toNat_natCast]
  have hx : ∀ x : BitVec 8, IntKind.wrap .u8 (x.toNat : Int) = (x.toNat : Int) := by
    intro x
    have := x.isLt
    simp [IntKind.wrap, IntKind.signed, IntKind.bits]
    omega
  rw [hx]
  constructor
  · intro h v hv
    have h0 : (BitVec.ofInt 8 (a : Int) &&& ~~~BitVec.ofInt 8 (b : Int)) = (BitVec.ofNat 8 0) := by
      apply BitVec.eq_of_toNat_eq
      simp only [BitVec.toNat_ofNat, Nat.zero_mod]
      exact Int.ofNat_inj.1 h
    by_cases hv8 : v < 8
    · have h1 : (BitVec.ofInt 8 (a : Int) &&& ~~~BitVec.ofInt 8 (b : Int)).getLsbD v = false := by rw [h0]; simp
      rw [BitVec.getLsbD_and, BitVec.getLsbD_not] at h1
      have e1 : (BitVec.ofInt 8 (a : Int)).getLsbD v = a.testBit v := by unfold BitVec.getLsbD; rw [hA]
      have e2 : (BitVec.ofInt 8 (b : Int)).getLsbD v = b.testBit v := by unfold BitVec.getLsbD; rw [hB]
      rw [e1, e2, hv] at h1
      simpa [hv8] using h1
    · have := bit_big (s := (a : Int)) (v := v) (by omega) (by omega)
      unfold bitB at this
      rw [Int.toNat_natCast, hv] at this
      cases this
  · intro h
    have h0 : (BitVec.ofInt 8 (a : Int) &&& ~~~BitVec.ofInt 8 (b : Int)) = (BitVec.ofNat 8 0) := by
      apply BitVec.eq_of_getLsbD_eq
      intro i hi
      rw [BitVec.getLsbD_and, BitVec.getLsbD_not]
      have e1 : (BitVec.ofInt 8 (a : Int)).getLsbD i = a.testBit i := by unfold BitVec.getLsbD; rw [hA]
      have e2 : (BitVec.ofInt 8 (b : Int)).getLsbD i = b.testBit i := by unfold BitVec.getLsbD; rw [hB]
      rw [e1, e2]
      have := h i
      cases h3 : a.testBit i
      · simp
      · rw [this h3]; simp
    have h2 : ∀ x : BitVec 8, x = (BitVec.ofNat 8 0) → (x.toNat : Int) = 0 := fun x hx => by rw [hx]; rfl
    exact h2 _ h0
theorem all_fin : ∀ n : Fin 9, (∀ v : Fin 8, bitB (IntKind.wrap .u8 (shlI .u8 1 (n.val : Int) - 1)) v.val = decide (v.val < n.val)) ∧ 0 ≤ IntKind.wrap .u8 (shlI .u8 1 (n.val : Int) - 1) ∧ IntKind.wrap .u8 (shlI .u8 1 (n.val : Int) - 1) ≤ 255 := by decide +kernel
theorem all_bit {n : Int} (h0 : 0 ≤ n) (h1 : n ≤ 8) : (∀ v, bitB (IntKind.wrap .u8 (shlI .u8 1 n - 1)) v = decide ((v : Int) < n)) ∧ 0 ≤ IntKind.wrap .u8 (shlI .u8 1 n - 1) ∧ IntKind.wrap .u8 (shlI .u8 1 n - 1) ≤ 255 := by
  obtain ⟨n, rfl⟩ := Int.eq_ofNat_of_zero_le h0
  have h := all_fin ⟨n, by omega⟩
  refine ⟨fun v => ?_, h.2⟩
  by_cases hv : v < 8
  · rw [h.1 ⟨v, hv⟩]; simp
  · rw [bit_big h.2.2 (by omega)]
    symm; apply decide_eq_false; omega
structure MixOk (p : ApiProblem) (m : ApiMix) : Prop extends MixServ p m where
  range : ∀ i, i < p.fTables.length → 0 ≤ m.fHeld.getD i 0 ∧ m.fHeld.getD i 0 ≤ 255
  low : ∀ i t, p.fTables[i]? = some t → storedB t = true → ∀ v, runB m t.fFrom.toNat v = true → bitB (m.fHeld.getD i 0) v = true
  high : ∀ i t, p.fTables[i]? = some t → storedB t = true → ∀ v, bitB (m.fHeld.getD i 0) v = true → (v : Int) < p.fVersions.getD t.fFrom.toNat 0
  none : ∀ i t, p.fTables[i]? = some t → storedB t = false → m.fHeld.getD i 0 = 0
theorem ver_at {p : ApiProblem} (hp : ProbOk p) {i : Nat} (hi : i < p.fVersions.length) : 1 ≤ p.fVersions.getD i 0 ∧ p.fVersions.getD i 0 ≤ 6 := by
  have := ver_of (i := (i : Int)) hp.ver (by omega) (by omega)
  simpa using this
theorem serv_run {p : ApiProblem} {m : ApiMix} (hp : ProbOk p) (hm : MixServ p m) {s : Nat} (hs : s < p.fVersions.length) :
    (∀ v, bitB (runM m s) v = runB m s v) ∧ 0 ≤ runM m s ∧ runM m s ≤ 255 := by
  have h1 := hm.b0 s hs
  have h2 := hm.n0 s hs
  have h3 := ver_at hp hs
  exact runM_bit h1.1 (by omega) (by omega)
theorem held_iff {p : ApiProblem} {m : ApiMix} (hp : ProbOk p) (hm : MixServ p m) {i : Nat} {t : ApiTable} (ht : p.fTables[i]? = some t) (hr : 0 ≤ m.fHeld.getD i 0 ∧ m.fHeld.getD i 0 ≤ 255) :
    heldE p m i t = none ↔ ((storedB t = true → (∀ v, runB m t.fFrom.toNat v = true → bitB (m.fHeld.getD i 0) v = true) ∧ (∀ v, bitB (m.fHeld.getD i 0) v = true → (v : Int) < p.fVersions.getD t.fFrom.toNat 0)) ∧ (storedB t = false → m.fHeld.getD i 0 = 0)) := by
  have hin := tab_in (hp.tab t (List.mem_of_getElem? ht))
  have hrun := serv_run hp hm (s := t.fFrom.toNat) (by omega)
  have hver := ver_at hp (i := t.fFrom.toNat) (by omega)
  have hall := all_bit (n := p.fVersions.getD t.fFrom.toNat 0) (by omega) (by omega)
  unfold heldE allM
  have e1 := andNot_iff hrun.2 hr
  have e2 := andNot_iff hr hall.2
  cases hst : storedB t
  · simp
  · simp only [if_true, true_implies, Bool.true_eq_false, false_implies, and_true, ite_eq_right_iff, reduceCtorEq, imp_false, not_or, Decidable.not_not]
    rw [e1, e2]
    simp only [hrun.1, hall.1, decide_eq_true_eq]
theorem valid_ok {p : ApiProblem} {m : ApiMix} (hw : wSl wU8 m.fHeld) (h : validM p m = 0) : ProbOk p ∧ MixOk p m := by
  unfold validM at h
  split at h
  · rename_i k; exact (k h).elim
  · rename_i k0
    have hp : ProbOk p := by
      rcases validP_cases p with h | h
      · exact h.2
      · omega
    split at h
    · cases h
    · rename_i k1
      have b1 : m.fBase.length = p.fVersions.length := Decidable.not_not.1 fun h => k1 (.inl h)
      have b2 : m.fNext.length = p.fVersions.length := Decidable.not_not.1 fun h => k1 (.inr (.inl h))
      have b3 : m.fHeld.length = p.fTables.length := Decidable.not_not.1 fun h => k1 (.inr (.inr h))
      cases hs : scan (mixE m) 0 p.fVersions with
      | some r =>
        obtain ⟨j, x, _, he⟩ := scan_some hs
        rw [hs] at h
        unfold mixE at he
        simp only [orElse, Option.getD_some] at h
        split at he
        · cases he; cases h
        · split at he
          · cases he; cases h
          · cases he
      | none =>
        have hm := serv_of b1 b2 b3 hs
        rw [hs] at h
        simp only [orElse] at h
        cases ht : scan (heldE p m) 0 p.fTables with
        | some r =>
          obtain ⟨j, x, _, he⟩ := scan_some ht
          rw [ht] at h
          simp only [Option.getD_some] at h
          subst h
          unfold heldE at he
          split at he
          · split at he <;> cases he
          · split at he <;> cases he
        | none =>
          have hr : ∀ i, i < p.fTables.length → 0 ≤ m.fHeld.getD i 0 ∧ m.fHeld.getD i 0 ≤ 255 := fun i hi => u8_range (wU8_getD hw (by omega))
          have key : ∀ i t, p.fTables[i]? = some t → _ := fun i t hi => (held_iff hp hm hi (hr i (List.getElem?_eq_some_iff.1 hi).1)).1 (by have := scan_none ht i t hi; rwa [Nat.zero_add] at this)
          exact ⟨hp, hm, hr, fun i t hi hst => ((key i t hi).1 hst).1, fun i t hi hst => ((key i t hi).1 hst).2, fun i t hi hst => (key i t hi).2 hst⟩
theorem scan_none_of {α R : Type} {f : Nat → α → Option R} : ∀ {i : Nat} {xs : List α}, (∀ j x, xs[j]? = some x → f (i + j) x = none) → scan f i xs = none
  | _, [], _ => rfl
  | i, y :: ys, h => by
    rw [scan_cons, show f i y = none from h 0 y rfl]
    exact scan_none_of fun j x hx => by
      have := h (j + 1) x (by simpa using hx)
      rwa [show i + (j + 1) = i + 1 + j from by omega] at this
theorem valid_prob {p : ApiProblem} (h : validP p = 0) : ProbOk p ∧ ∀ i, i < p.fVersions.length → 0 ≤ p.fNow.getD i 0 ∧ p.fNow.getD i 0 < p.fVersions.getD i 0 ∧ 0 ≤ p.fTarget.getD i 0 ∧ p.fTarget.getD i 0 < p.fVersions.getD i 0 := by
  have hp : ProbOk p := by
    rcases validP_cases p with h | h
    · exact h.2
    · omega
  refine ⟨hp, fun i hi => ?_⟩
  have h1 := hp.nv
  have h2 := hp.nt
  have h3 := hp.now
  have h4 := hp.tgt
  unfold validP at h
  rw [if_neg (by omega), if_neg (by omega)] at h
  cases hs : scan (rangeE p) 0 p.fVersions with
  | some r =>
    obtain ⟨j, x, _, he⟩ := scan_some hs
    rw [hs] at h
    unfold rangeE at he
    split at he
    · cases he; cases h
    · cases he
  | none =>
    have hx : p.fVersions[i]? = some (p.fVersions.getD i 0) := by rw [List.getD_eq_getElem?_getD]; simp [hi]
    have := scan_none hs i _ hx
    rw [Nat.zero_add] at this
    unfold rangeE at this
    split at this
    · cases this
    · rename_i hn; omega
theorem ok_valid {p : ApiProblem} {m : ApiMix} (hv : validP p = 0) (hm : MixOk p m) : validM p m = 0 := by
  obtain ⟨hp, _⟩ := valid_prob hv
  unfold validM
  rw [hv, if_neg (by simp), if_neg (by have := hm.base; have := hm.next; have := hm.held; omega)]
  have h1 : scan (mixE m) 0 p.fVersions = none := scan_none_of fun j x hx => by
    have hj := (List.getElem?_eq_some_iff.1 hx).1
    have e : p.fVersions.getD j 0 = x := by rw [List.getD_eq_getElem?_getD, hx]; rfl
    have h1 := hm.b0 j hj
    have h2 := hm.n0 j hj
    have h3 := hm.ne j hj
    rw [e] at h1 h2
    unfold mixE
    rw [Nat.zero_add, if_neg (by omega), if_neg h3]
  have h2 : scan (heldE p m) 0 p.fTables = none := scan_none_of fun j x hx => by
    have hj := (List.getElem?_eq_some_iff.1 hx).1
    rw [Nat.zero_add]
    exact (held_iff hp hm.toMixServ hx (hm.range j hj)).2 ⟨fun hst => ⟨hm.low j x hx hst, hm.high j x hx hst⟩, fun hst => hm.none j x hx hst⟩
  rw [h1, h2]; rfl
end Go.Lift

/- The conflicts of a mix: both implementations give one answer. -/
namespace Go.Lift
def anyI {α : Type} (g : Nat → α → Bool) : Nat → List α → Bool
  | _, [] => false
  | i, x :: xs => g i x || anyI g (i + 1) xs
theorem foldI_pair {α β : Type} (g : Nat → α → List β) (h : Nat → α → Bool) : ∀ (i : Nat) (xs : List α) (a : List β) (b : Bool),
    foldI (fun i x (s : List β × Bool) => (s.1 ++ g i x, s.2 || h i x)) i xs (a, b) = (a ++ flatI g i xs, b || anyI h i xs)
  | _, [], a, b => by simp [foldI, flatI, anyI]
  | i, x :: xs, a, b => by rw [foldI, foldI_pair g h, flatI, anyI, List.append_assoc, Bool.or_assoc]
def gC (i u : Nat) (m : ApiMix) (t : ApiTable) (v : Nat) (ok : Bool) : List ApiConflict :=
  if runB m t.fTo.toNat v && (!ok && !t.fAware) then [⟨(i : Int), (u : Int), (v : Int)⟩] else []
def hC (m : ApiMix) (t : ApiTable) (v : Nat) (ok : Bool) : Bool := runB m t.fTo.toNat v && ok
def rdConf (i : Nat) (m : ApiMix) (t : ApiTable) (u : Nat) (row : List Bool) : List ApiConflict :=
  flatI (gC i u m t) 0 row ++ if t.fAware && !anyI (hC m t) 0 row then [⟨(i : Int), (u : Int), -1⟩] else []
def wrB (m : ApiMix) (i : Nat) (t : ApiTable) (u : Nat) : Bool := if storedB t then bitB (m.fHeld.getD i 0) u else runB m t.fFrom.toNat u
def tabConf (m : ApiMix) (i : Nat) (t : ApiTable) : List ApiConflict := flatI (fun u row => if wrB m i t u then rdConf i m t u row else []) 0 t.fOK
def conflictsF (p : ApiProblem) (m : ApiMix) : List ApiConflict := flatI (tabConf m) 0 p.fTables
structure TabOk (p : ApiProblem) (t : ApiTable) : Prop where
  kind : 1 ≤ t.fKind ∧ t.fKind ≤ 4
  aware : t.fAware = true → storedB t = false
  from0 : 0 ≤ t.fFrom ∧ t.fFrom < (p.fVersions.length : Int)
  to0 : 0 ≤ t.fTo ∧ t.fTo < (p.fVersions.length : Int)
  okL : (t.fOK.length : Int) = p.fVersions.getD t.fFrom.toNat 0
  okR : ∀ row, row ∈ t.fOK → (row.length : Int) = p.fVersions.getD t.fTo.toNat 0
  reL : t.fKind = 4 → (t.fRewrite.length : Int) = p.fVersions.getD t.fFrom.toNat 0
  reR : ∀ row, row ∈ t.fRewrite → (row.length : Int) = p.fVersions.getD t.fFrom.toNat 0
  reD : t.fKind = 4 → diagE t.fRewrite = none
  reN : t.fKind ≠ 4 → t.fRewrite = []
theorem tab_ok {p : ApiProblem} {t : ApiTable} (h : tableE p t = 0) : TabOk p t := by
  unfold tableE at h
  split at h
  · cases h
  rename_i h1
  split at h
  · cases h
  rename_i h2
  simp only at h
  split at h
  · cases h
  rename_i h3
  have h3 : sq t.fOK (p.fVersions.getD t.fFrom.toNat 0) (p.fVersions.getD t.fTo.toNat 0) = true := by simpa using h3
  have h3 := sq_rows h3
  have ha : t.fAware = true → storedB t = false := by
    intro ha
    unfold storedB
    rw [Bool.or_eq_false_iff, beq_eq_false_iff_ne, beq_eq_false_iff_ne]
    exact ⟨fun hk => h1 (.inr (.inr ⟨ha, .inl hk⟩)), fun hk => h1 (.inr (.inr ⟨ha, .inr hk⟩))⟩
  split at h
  · rename_i h4
    split at h
    · cases h
    rename_i h5
    have h5 : sq t.fRewrite (p.fVersions.getD t.fFrom.toNat 0) (p.fVersions.getD t.fFrom.toNat 0) = true := by simpa using h5
    have h5 := sq_rows h5
    refine ⟨by omega, ha, by omega, by omega, h3.1, h3.2, fun _ => h5.1, h5.2, fun _ => ?_, fun h => (h h4).elim⟩
    cases hd : diagE t.fRewrite with
    | none => rfl
    | some r =>
      obtain ⟨j, x, _, hx⟩ := scan_some hd
      rw [hd] at h
      split at hx
      · cases hx
      · cases hx; cases h
  · rename_i h4
    split at h
    · rename_i h5
      have h5 := List.eq_nil_of_length_eq_zero h5
      refine ⟨by omega, ha, by omega, by omega, h3.1, h3.2, fun h => (h4 h).elim, fun row hr => ?_, fun h => (h4 h).elim, fun _ => h5⟩
      rw [h5] at hr; cases hr
    · cases h
theorem cnd_app {R : Type} (b : Bool) (acc : List ApiConflict) (x : ApiConflict) (j : List ApiConflict → Option R) (h : acc.length + 1 ≤ lim) :
    cnd b ((chk (acc.length + ([x] : List ApiConflict).length ≤ lim)).bind fun _ => j (acc ++ [x])) (j acc) = j (acc ++ if b then [x] else []) := by
  cases b
  · simp
  · rw [cnd_true, chk_bind_true (by simpa using h)]; rfl
theorem mix_conf_in (N : Nat) (m : ApiMix) (t : ApiTable) (i u : Nat) (row : List Bool) (R : Int) (b1 b2 acc : List ApiConflict) (j : List ApiConflict × Bool → Option (List ApiConflict))
    (hN : N ≤ 1000000) (h8 : 8 ≤ N) (hrow : row.length ≤ 6) (hacc : acc.length + 6 ≤ lim) (hR0 : 0 ≤ R) (hR1 : R ≤ 255) (hRb : ∀ v, bitB R v = runB m t.fTo.toNat v) :
    Sh.mix_conflicts_L18 N (b1, (i : Int)) t R (b2, (u : Int)) row j N (acc, false, 0) = j (acc ++ flatI (gC i u m t) 0 row, anyI (hC m t) 0 row) := by
  have := loop_fold (A := List ApiConflict × Bool) (Sh.mix_conflicts_L18 N (b1, (i : Int)) t R (b2, (u : Int)) row j) (fun a k => (a.1, a.2, k)) row (fun a => j a) (fun v ok s => (s.1 ++ gC i u m t v ok, s.2 || hC m t v ok))
    (fun v a => v ≤ row.length ∧ a.1.length ≤ acc.length + v)
    (fun n v ok a hx ha => by
      have hv := (List.getElem?_eq_some_iff.1 hx).1
      obtain ⟨c, f⟩ := a
      simp only at ha
      refine ⟨?_, by omega, ?_⟩
      · rw [Sh.mix_conflicts_L18]
        simp only [join_eq]
        rw [cnd_pos (by omega), idx_nat, hx]
        simp only [Option.bind_some]
        rw [chk_bind_true (by omega), has_bit0 hR0 hR1 (by omega), hRb, wrap_succ (by omega), cnd_app _ _ _ (fun l => Sh.mix_conflicts_L18 N (b1, (i : Int)) t R (b2, (u : Int)) row j n (l, true, ((v + 1 : Nat) : Int))) (by omega)]
        unfold gC hC
        rw [cnd_app _ _ _ (fun l => Sh.mix_conflicts_L18 N (b1, (i : Int)) t R (b2, (u : Int)) row j n (l, ok, ((v + 1 : Nat) : Int))) (by omega)]
        cases runB m t.fTo.toNat v
        · simp
        · cases ok <;> cases f <;> cases t.fAware <;> simp
      · simp only [gC, List.length_append]
        split <;> simp <;> omega)
    (fun n a _ => by
      rw [Sh.mix_conflicts_L18]
      simp only [join_eq]
      rw [cnd_neg (by omega)]) N 0 (acc, false) (by omega) (by omega) ⟨by omega, by simp⟩
  have h2 := this.1
  rw [List.drop_zero, foldI_pair, Bool.false_or] at h2
  exact h2
end Go.Lift

/- The conflicts of a mix: both implementations give one answer. -/
namespace Go.Lift
theorem ver_len {p : ApiProblem} {t : ApiTable} (hp : ProbOk p) (ht : TabOk p t) : t.fOK.length ≤ 6 ∧ ∀ row, row ∈ t.fOK → row.length ≤ 6 := by
  have h1 := ver_of hp.ver ht.from0.1 ht.from0.2
  have h2 := ver_of hp.ver ht.to0.1 ht.to0.2
  have h3 := ht.okL
  exact ⟨by omega, fun row hr => by have := ht.okR row hr; omega⟩
theorem gC_len (i u : Nat) (m : ApiMix) (t : ApiTable) (v : Nat) (ok : Bool) : (gC i u m t v ok).length ≤ 1 := by
  unfold gC; split <;> simp
theorem rdConf_len (i : Nat) (m : ApiMix) (t : ApiTable) (u : Nat) (row : List Bool) (h : row.length ≤ 6) : (rdConf i m t u row).length ≤ 7 := by
  unfold rdConf
  rw [List.length_append]
  have := flatI_len (g := gC i u m t) (c := 1) (i := 0) (xs := row) (fun j x _ => gC_len _ _ _ _ _ _)
  split <;> simp <;> omega
theorem wr_len (i : Nat) (m : ApiMix) (t : ApiTable) (u : Nat) (row : List Bool) (h : row.length ≤ 6) : (if wrB m i t u = true then rdConf i m t u row else []).length ≤ 7 := by
  have := rdConf_len i m t u row h
  split <;> simp <;> omega
theorem tabConf_len {p : ApiProblem} {t : ApiTable} (hp : ProbOk p) (ht : TabOk p t) (i : Nat) (m : ApiMix) : (tabConf m i t).length ≤ 42 := by
  have h1 := ver_len hp ht
  have := flatI_len (g := fun u row => if wrB m i t u = true then rdConf i m t u row else []) (c := 7) (i := 0) (xs := t.fOK) (fun j x hx => wr_len i m t _ x (h1.2 x (List.mem_of_getElem? hx)))
  unfold tabConf
  omega
theorem mix_conf_tab (N : Nat) (p : ApiProblem) (m : ApiMix) (t : ApiTable) (i : Nat) (W R : Int) (b1 acc : List ApiConflict) (j : List ApiConflict → Option (List ApiConflict))
    (hN : N ≤ 1000000) (h8 : 8 ≤ N) (hp : ProbOk p) (ht : TabOk p t) (hacc : acc.length + 42 ≤ 10000) (hR0 : 0 ≤ R) (hR1 : R ≤ 255) (hRb : ∀ v, bitB R v = runB m t.fTo.toNat v) (hW0 : 0 ≤ W) (hW1 : W ≤ 255) (hWb : ∀ v, bitB W v = wrB m i t v) :
    Sh.mix_conflicts_L11 N (b1, (i : Int)) t R W j N (acc, 0) = j (acc ++ tabConf m i t) := by
  have hl := ver_len hp ht
  exact loop_flat (Sh.mix_conflicts_L11 N (b1, (i : Int)) t R W j) (fun a k => (a, k)) t.fOK j (fun u row => if wrB m i t u then rdConf i m t u row else []) 7 10000
    (fun u row hx => wr_len i m t u row (hl.2 row (List.mem_of_getElem? hx)))
    (fun n u row a hx ha => by
      have hu := (List.getElem?_eq_some_iff.1 hx).1
      have hrow := hl.2 row (List.mem_of_getElem? hx)
      rw [Sh.mix_conflicts_L11]
      simp only [join_eq]
      rw [cnd_pos (by omega), chk_bind_true (by omega), has_bit0 hW0 hW1 (by omega), hWb, idx_nat, hx]
      simp only [Option.bind_some]
      rw [mix_conf_in N m t i u row R b1 a a _ hN h8 hrow (by unfold lim; omega) hR0 hR1 hRb, wrap_succ (by omega)]
      cases hw : wrB m i t u
      · simp
      · simp only [Bool.not_true, cnd_false, if_true, rdConf]
        have h1 := flatI_len (g := gC i u m t) (c := 1) (i := 0) (xs := row) (fun j x _ => gC_len _ _ _ _ _ _)
        have := cnd_app (R := List ApiConflict) (t.fAware && !anyI (hC m t) 0 row) (a ++ flatI (gC i u m t) 0 row) ⟨(i : Int), (u : Int), -1⟩ (fun l => Sh.mix_conflicts_L11 N (b1, (i : Int)) t R W j n (l, ((u + 1 : Nat) : Int))) (by rw [List.length_append]; unfold lim; rw [hw, if_pos rfl] at ha; omega)
        rw [← List.append_assoc, ← this]
        cases t.fAware <;> cases anyI (hC m t) 0 row <;> rfl)
    (fun n a => by
      rw [Sh.mix_conflicts_L11]
      simp only [join_eq]
      rw [cnd_neg (by omega)]) N acc (by omega) (by omega)
theorem ref_conf_in (N : Nat) (p : ApiProblem) (m : ApiMix) (t : ApiTable) (i u : Nat) (row : List Bool) (b1 b2 acc : List ApiConflict) (j : List ApiConflict × Bool → Option (List ApiConflict))
    (hN : N ≤ 1000000) (h8 : 8 ≤ N) (hp : ProbOk p) (hm : MixServ p m) (ht : TabOk p t) (hu : t.fOK[u]? = some row) (hacc : acc.length + 6 ≤ lim) :
    Sh.sheaveref36_Found_L17 N p m (b1, (i : Int)) t (b2, (u : Int)) j N (acc, false, 0) = j (acc ++ flatI (gC i u m t) 0 row, anyI (hC m t) 0 row) := by
  have hrow := (ver_len hp ht).2 row (List.mem_of_getElem? hu)
  have hR := serv_run hp hm (s := t.fTo.toNat) (by have := ht.to0; omega)
  have hlen := ht.okR row (List.mem_of_getElem? hu)
  have hto := ht.to0
  have := loop_fold (A := List ApiConflict × Bool) (Sh.sheaveref36_Found_L17 N p m (b1, (i : Int)) t (b2, (u : Int)) j) (fun a k => (a.1, a.2, k)) row (fun a => j a) (fun v ok s => (s.1 ++ gC i u m t v ok, s.2 || hC m t v ok))
    (fun v a => v ≤ row.length ∧ a.1.length ≤ acc.length + v)
    (fun n v ok a hx ha => by
      have hv := (List.getElem?_eq_some_iff.1 hx).1
      obtain ⟨c, f⟩ := a
      simp only at ha
      refine ⟨?_, by omega, ?_⟩
      · rw [Sh.sheaveref36_Found_L17]
        simp only [join_eq]
        rw [idx_in (d := 0) hto.1 hto.2, ref_run_eq N m t.fTo hto.1 (by rw [hm.base]; exact hto.2) (by rw [hm.next]; exact hto.2) (hm.b0 _ (by omega)).1, idx_nat, hu]
        simp only [Option.bind_some]
        unfold Sh.sheaveref36_Has
        rw [cnd_pos (by omega), idx_nat, hx, chk_bind_true (by omega), has_bit1 hR.2.1 hR.2.2 (by omega), hR.1]
        simp only [Option.bind_some]
        rw [wrap_succ (by omega), cnd_app _ _ _ (fun l => Sh.sheaveref36_Found_L17 N p m (b1, (i : Int)) t (b2, (u : Int)) j n (l, true, ((v + 1 : Nat) : Int))) (by omega)]
        unfold gC hC
        rw [cnd_app _ _ _ (fun l => Sh.sheaveref36_Found_L17 N p m (b1, (i : Int)) t (b2, (u : Int)) j n (l, ok, ((v + 1 : Nat) : Int))) (by omega)]
        cases runB m t.fTo.toNat v
        · simp
        · cases ok <;> cases f <;> cases t.fAware <;> simp
      · simp only [gC, List.length_append]
        split <;> simp <;> omega)
    (fun n a _ => by
      rw [Sh.sheaveref36_Found_L17]
      simp only [join_eq]
      rw [idx_in (d := 0) hto.1 hto.2]
      simp only [Option.bind_some]
      rw [cnd_neg (by omega)]) N 0 (acc, false) (by omega) (by omega) ⟨by omega, by simp⟩
  have h2 := this.1
  rw [List.drop_zero, foldI_pair, Bool.false_or] at h2
  exact h2
theorem ref_conf_tab (N : Nat) (p : ApiProblem) (m : ApiMix) (t : ApiTable) (i : Nat) (W : Int) (b1 acc : List ApiConflict) (j : List ApiConflict → Option (List ApiConflict))
    (hN : N ≤ 1000000) (h8 : 8 ≤ N) (hp : ProbOk p) (hm : MixServ p m) (ht : TabOk p t) (hacc : acc.length + 42 ≤ 10000) (hW0 : 0 ≤ W) (hW1 : W ≤ 255) (hWb : ∀ v, bitB W v = wrB m i t v) :
    Sh.sheaveref36_Found_L10 N p m (b1, (i : Int)) t W j N (acc, 0) = j (acc ++ tabConf m i t) := by
  have hl := ver_len hp ht
  have hfr := ht.from0
  have hok := ht.okL
  exact loop_flat (Sh.sheaveref36_Found_L10 N p m (b1, (i : Int)) t W j) (fun a k => (a, k)) t.fOK j (fun u row => if wrB m i t u then rdConf i m t u row else []) 7 10000
    (fun u row hx => wr_len i m t u row (hl.2 row (List.mem_of_getElem? hx)))
    (fun n u row a hx ha => by
      have hu := (List.getElem?_eq_some_iff.1 hx).1
      have hrow := hl.2 row (List.mem_of_getElem? hx)
      rw [Sh.sheaveref36_Found_L10]
      simp only [join_eq]
      rw [idx_in (d := 0) hfr.1 hfr.2]
      simp only [Option.bind_some]
      unfold Sh.sheaveref36_Has
      rw [cnd_pos (by omega), chk_bind_true (by omega), has_bit1 hW0 hW1 (by omega), hWb]
      simp only [Option.bind_some]
      rw [ref_conf_in N p m t i u row b1 a a _ hN h8 hp hm ht hx (by unfold lim; omega), wrap_succ (by omega)]
      cases hw : wrB m i t u
      · simp
      · simp only [Bool.not_true, cnd_false, if_true, rdConf]
        have h1 := flatI_len (g := gC i u m t) (c := 1) (i := 0) (xs := row) (fun j x _ => gC_len _ _ _ _ _ _)
        have := cnd_app (R := List ApiConflict) (t.fAware && !anyI (hC m t) 0 row) (a ++ flatI (gC i u m t) 0 row) ⟨(i : Int), (u : Int), -1⟩ (fun l => Sh.sheaveref36_Found_L10 N p m (b1, (i : Int)) t W j n (l, ((u + 1 : Nat) : Int))) (by rw [List.length_append]; unfold lim; rw [hw, if_pos rfl] at ha; omega)
        rw [← List.append_assoc, ← this]
        cases t.fAware <;> cases anyI (hC m t) 0 row <;> rfl)
    (fun n a => by
      rw [Sh.sheaveref36_Found_L10]
      simp only [join_eq]
      rw [idx_in (d := 0) hfr.1 hfr.2]
      simp only [Option.bind_some]
      rw [cnd_neg (by omega)]) N acc (by omega) (by omega)
theorem mix_conflicts_eq (N : Nat) (p : ApiProblem) (m : ApiMix) (hN : N ≤ 1000000) (h20 : 20 ≤ N) (hp : ProbOk p) (hm : MixOk p m) : Sh.mix_conflicts N p m = some (conflictsF p m) := by
  unfold Sh.mix_conflicts
  have hnt := hp.nt
  rw [loop_flat (Sh.mix_conflicts_L1 N p m _) (fun a k => (a, k)) p.fTables some (tabConf m) 42 9000
    (fun i t hx => tabConf_len hp (tab_ok (hp.tab t (List.mem_of_getElem? hx))) i m)
    (fun n i t a hx ha => by
      have hi := (List.getElem?_eq_some_iff.1 hx).1
      have ht := tab_ok (hp.tab t (List.mem_of_getElem? hx))
      have hto := ht.to0
      have hfr := ht.from0
      have hR := serv_run hp hm.toMixServ (s := t.fTo.toNat) (by omega)
      have hF := serv_run hp hm.toMixServ (s := t.fFrom.toNat) (by omega)
      have hH := hm.range i hi
      rw [Sh.mix_conflicts_L1]
      simp only [join_eq]
      rw [cnd_pos (by omega), idx_nat, hx]
      simp only [Option.bind_some, mix_stored_eq]
      rw [mix_run_eq N m t.fFrom hfr.1 (by rw [hm.base]; exact hfr.2) (by rw [hm.next]; exact hfr.2) (hm.b0 _ (by omega)).1, mix_run_eq N m t.fTo hto.1 (by rw [hm.base]; exact hto.2) (by rw [hm.next]; exact hto.2) (hm.b0 _ (by omega)).1, idx_lt (d := 0) (by rw [hm.held]; exact hi), wrap_succ (by omega)]
      simp only [Option.bind_some]
      cases hs : storedB t
      · rw [cnd_false, mix_conf_tab N p m t i _ _ a a _ hN (by omega) hp ht (by omega) hR.2.1 hR.2.2 hR.1 hF.2.1 hF.2.2 (fun v => by unfold wrB; rw [hs, hF.1]; rfl)]
      · rw [cnd_true, mix_conf_tab N p m t i _ _ a a _ hN (by omega) hp ht (by omega) hR.2.1 hR.2.2 hR.1 hH.1 hH.2 (fun v => by unfold wrB; rw [hs]; rfl)])
    (fun n a => by
      rw [Sh.mix_conflicts_L1]
      simp only [join_eq]
      rw [cnd_neg (by omega)]) N [] (by omega) (by simp; omega)]
  rfl
theorem ref_conflicts_eq (N : Nat) (p : ApiProblem) (m : ApiMix) (hN : N ≤ 1000000) (h20 : 20 ≤ N) (hp : ProbOk p) (hm : MixOk p m) : Sh.sheaveref36_Found N p m = some (conflictsF p m) := by
  unfold Sh.sheaveref36_Found
  have hnt := hp.nt
  rw [loop_flat (Sh.sheaveref36_Found_L1 N p m _) (fun a k => (a, k)) p.fTables some (tabConf m) 42 9000
    (fun i t hx => tabConf_len hp (tab_ok (hp.tab t (List.mem_of_getElem? hx))) i m)
    (fun n i t a hx ha => by
      have hi := (List.getElem?_eq_some_iff.1 hx).1
      have ht := tab_ok (hp.tab t (List.mem_of_getElem? hx))
      have hto := ht.to0
      have hfr := ht.from0
      have hF := serv_run hp hm.toMixServ (s := t.fFrom.toNat) (by omega)
      have hH := hm.range i hi
      rw [Sh.sheaveref36_Found_L1]
      simp only [join_eq]
      rw [cnd_pos (by omega), idx_nat, hx]
      simp only [Option.bind_some, ref_stored_eq]
      rw [ref_run_eq N m t.fFrom hfr.1 (by rw [hm.base]; exact hfr.2) (by rw [hm.next]; exact hfr.2) (hm.b0 _ (by omega)).1, idx_lt (d := 0) (by rw [hm.held]; exact hi), wrap_succ (by omega)]
      simp only [Option.bind_some]
      cases hs : storedB t
      · rw [cnd_false, ref_conf_tab N p m t i _ a a _ hN (by omega) hp hm.toMixServ ht (by omega) hF.2.1 hF.2.2 (fun v => by unfold wrB; rw [hs, hF.1]; rfl)]
      · rw [cnd_true, ref_conf_tab N p m t i _ a a _ hN (by omega) hp hm.toMixServ ht (by omega) hH.1 hH.2 (fun v => by unfold wrB; rw [hs]; rfl)])
    (fun n a => by
      rw [Sh.sheaveref36_Found_L1]
      simp only [join_eq]
      rw [cnd_neg (by omega)]) N [] (by omega) (by simp; omega)]
  rfl
end Go.Lift

/- The drafts: what the recipes give is a valid problem and a valid mix. -/
namespace Go.Lift
theorem loop_ex {A S R : Type} (L : Nat → S → Option R) (mk : A → Int → S) (len : Nat) (j : A → Option R) (I : Nat → A → Prop)
    (hs : ∀ (n i : Nat) (a : A), i < len → I i a → ∃ a', L (n + 1) (mk a (i : Int)) = L n (mk a' ((i + 1 : Nat) : Int)) ∧ I (i + 1) a')
    (he : ∀ (n : Nat) (a : A), I len a → L (n + 1) (mk a (len : Int)) = j a) :
    ∀ (n i : Nat) (a : A), i ≤ len → len - i < n → I i a → ∃ a', L n (mk a (i : Int)) = j a' ∧ I len a'
  | 0, i, _, _, h, _ => by omega
  | n + 1, i, a, hi, h, ha => by
    by_cases h1 : i < len
    · obtain ⟨a', e1, e2⟩ := hs n i a h1 ha
      rw [e1]
      exact loop_ex L mk len j I hs he n (i + 1) _ (by omega) (by omega) e2
    · have : i = len := by omega
      subst this
      exact ⟨a, he n a ha, ha⟩
theorem getD_app_lt {α : Type} {xs ys : List α} {i : Nat} {d : α} (h : i < xs.length) : (xs ++ ys).getD i d = xs.getD i d := by
  rw [List.getD_eq_getElem?_getD, List.getD_eq_getElem?_getD, List.getElem?_append_left h]
theorem getD_app_eq {α : Type} {xs : List α} {y : α} {i : Nat} {d : α} (h : i = xs.length) : (xs ++ [y]).getD i d = y := by
  subst h; rw [List.getD_eq_getElem?_getD, List.getElem?_append_right (Nat.le_refl _)]; simp
theorem getD_app {α : Type} {P : Nat → α → Prop} {xs : List α} {y : α} {d : α} {n : Nat} (hn : xs.length = n) (h : ∀ k, k < n → P k (xs.getD k d)) (hy : P n y) : ∀ k, k < n + 1 → P k ((xs ++ [y]).getD k d) := by
  intro k hk
  by_cases h1 : k < n
  · rw [getD_app_lt (by omega)]; exact h k h1
  · have : k = n := by omega
    subst this
    rw [getD_app_eq hn.symm]; exact hy
end Go.Lift

/- The drafts of problems: what the recipe gives is a valid problem. -/
namespace Go.Lift
end Go.Lift

/- The mixes that result from aborts: both implementations give one list. -/
namespace Go.Lift
def opn : List Int → Nat → Nat
  | [], _ => 0
  | _, 0 => 0
  | n :: ns, q + 1 => (if 0 ≤ n then 1 else 0) + opn ns q
theorem opn_zero (l : List Int) : opn l 0 = 0 := by cases l <;> rfl
theorem opn_succ : ∀ (l : List Int) (q : Nat), q < l.length → opn l (q + 1) = opn l q + if 0 ≤ l.getD q 0 then 1 else 0
  | [], q, h => by simp at h
  | n :: ns, 0, _ => by simp [opn, opn_zero]
  | n :: ns, q + 1, h => by
    rw [opn, opn_succ ns q (by simpa using h), opn, List.getD_cons_succ, Nat.add_assoc]
theorem opn_mono (l : List Int) {a b : Nat} (h : a ≤ b) (hb : b ≤ l.length) : opn l a ≤ opn l b := by
  induction b with
  | zero => rw [Nat.le_zero.1 h]; exact Nat.le_refl _
  | succ b ih =>
    by_cases h1 : a = b + 1
    · rw [h1]; exact Nat.le_refl _
    · have := ih (by omega) (by omega)
      rw [opn_succ l b (by omega)]; omega
theorem opn_le (l : List Int) : ∀ q, q ≤ l.length → opn l q ≤ q
  | 0, _ => by rw [opn_zero]; exact Nat.le_refl _
  | q + 1, h => by
    have := opn_le l q (by omega)
    rw [opn_succ l q h]
    split <;> omega
def abAt (l : List Int) (k q : Nat) : Int := if 0 ≤ l.getD q 0 ∧ k.testBit (opn l q) = true then -1 else l.getD q 0
def abN (l : List Int) (k : Nat) : List Int := (List.range l.length).map (abAt l k)
def abM (m : ApiMix) (k : Nat) : ApiMix := ⟨m.fBase, abN m.fNext k, m.fHeld⟩
def abortsF (m : ApiMix) : List ApiMix := (List.range (2 ^ opn m.fNext m.fNext.length)).map (abM m)
theorem abN_len (l : List Int) (k : Nat) : (abN l k).length = l.length := by simp [abN]
theorem abN_at (l : List Int) (k q : Nat) (h : q < l.length) : (abN l k).getD q 0 = abAt l k q := by
  unfold abN; rw [List.getD_eq_getElem?_getD, List.getElem?_map, List.getElem?_range h]; rfl
theorem list_ext_getD {l1 l2 : List Int} (h1 : l1.length = l2.length) (h : ∀ q, q < l1.length → l1.getD q 0 = l2.getD q 0) : l1 = l2 := by
  apply List.ext_getElem h1
  intro q h2 h3
  have := h q h2
  rw [List.getD_eq_getElem?_getD, List.getD_eq_getElem?_getD, List.getElem?_eq_getElem h2, List.getElem?_eq_getElem h3] at this
  exact this
theorem bit_all : ∀ (k : Fin 64) (b : Fin 7), andI .i64 (shrI .i64 (k.val : Int) (b.val : Int)) 1 = (if k.val.testBit b.val then 1 else 0) ∧ Int.tmod (shrI .i64 (k.val : Int) (b.val : Int)) 2 = (if k.val.testBit b.val then 1 else 0) := by decide +kernel
theorem shl_all : ∀ n : Fin 7, shlI .i64 1 (n.val : Int) = ((2 ^ n.val : Nat) : Int) := by decide +kernel
structure IsAb (m x : ApiMix) : Prop where
  base : x.fBase = m.fBase
  held : x.fHeld = m.fHeld
  len : x.fNext.length = m.fNext.length
  next : ∀ q, q < m.fNext.length → x.fNext.getD q 0 = m.fNext.getD q 0 ∨ (0 ≤ m.fNext.getD q 0 ∧ x.fNext.getD q 0 = -1)
theorem IsAb.refl (m : ApiMix) : IsAb m m := ⟨rfl, rfl, rfl, fun _ _ => .inl rfl⟩
theorem IsAb.trans {a b c : ApiMix} (h1 : IsAb a b) (h2 : IsAb b c) : IsAb a c :=
  ⟨h2.base.trans h1.base, h2.held.trans h1.held, h2.len.trans h1.len, fun q hq => by
    have e1 := h1.next q hq
    have e2 := h2.next q (by rw [h1.len]; exact hq)
    omega⟩
theorem isAb_abM (m : ApiMix) (k : Nat) : IsAb m (abM m k) :=
  ⟨rfl, rfl, abN_len _ _, fun q hq => by
    show (abN m.fNext k).getD q 0 = _ ∨ _ ∧ (abN m.fNext k).getD q 0 = _
    rw [abN_at _ _ _ hq]; unfold abAt
    split
    · rename_i h; exact .inr ⟨h.1, rfl⟩
    · exact .inl rfl⟩
theorem ab_code : ∀ (l x : List Int), x.length = l.length → (∀ q, q < l.length → x.getD q 0 = l.getD q 0 ∨ (0 ≤ l.getD q 0 ∧ x.getD q 0 = -1)) → ∃ k, k < 2 ^ opn l l.length ∧ ∀ q, q < l.length → x.getD q 0 = abAt l k q
  | [], x, h, _ => ⟨0, by simp [opn], fun q hq => by simp at hq⟩
  | n :: ns, [], h, _ => by simp at h
  | n :: ns, y :: ys, h, hq => by
    obtain ⟨k, hk, hk2⟩ := ab_code ns ys (by simpa using h) (fun q hq' => by have := hq (q + 1) (by simpa using hq'); simpa using this)
    have h0 := hq 0 (by simp)
    simp only [List.getD_cons_zero] at h0
    by_cases hn : 0 ≤ n
    · refine ⟨2 * k + if y = n then 0 else 1, ?_, ?_⟩
      · rw [List.length_cons, opn, if_pos hn, Nat.pow_add]
        split <;> omega
      · intro q hq'
        cases q with
        | zero =>
          simp only [List.getD_cons_zero, abAt, opn_zero]
          by_cases hy : y = n
          · simp [hy]
          · rw [if_neg hy, if_pos ⟨hn, by simp⟩]; omega
        | succ q =>
          have := hk2 q (by simpa using hq')
          simp only [List.getD_cons_succ, abAt, opn, if_pos hn] at this ⊢
          rw [this, Nat.add_comm 1, Nat.testBit_succ]
          have : (2 * k + if y = n then 0 else 1) / 2 = k := by split <;> omega
          rw [this]
    · refine ⟨k, ?_, ?_⟩
      · rw [List.length_cons, opn, if_neg hn, Nat.zero_add]; exact hk
      · intro q hq'
        cases q with
        | zero =>
          simp only [List.getD_cons_zero, abAt, opn_zero]
          rw [if_neg (fun h => hn h.1)]
          omega
        | succ q =>
          have := hk2 q (by simpa using hq')
          simp only [List.getD_cons_succ, abAt, opn, if_neg hn, Nat.zero_add] at this ⊢
          exact this
theorem mem_aborts {m x : ApiMix} : x ∈ abortsF m ↔ IsAb m x := by
  unfold abortsF
  rw [List.mem_map]
  constructor
  · rintro ⟨k, _, rfl⟩; exact isAb_abM m k
  · intro h
    obtain ⟨k, hk, hq⟩ := ab_code m.fNext x.fNext h.len h.next
    refine ⟨k, List.mem_range.2 hk, ?_⟩
    have : abN m.fNext k = x.fNext := list_ext_getD (by rw [abN_len, h.len]) fun q hq' => by
      rw [abN_len] at hq'
      rw [abN_at _ _ _ hq', hq q hq']
    unfold abM
    rw [this, ← h.base, ← h.held]
theorem run_ab {m x : ApiMix} (h : IsAb m x) {s : Nat} (hs : s < m.fNext.length) {v : Nat} (hv : runB x s v = true) : runB m s v = true := by
  unfold runB at hv ⊢
  rw [h.base] at hv
  have := h.next s hs
  simp only [Bool.or_eq_true, decide_eq_true_eq] at hv ⊢
  omega
theorem ok_ab {p : ApiProblem} {m x : ApiMix} (hp : ProbOk p) (hm : MixOk p m) (h : IsAb m x) : MixOk p x := by
  refine ⟨⟨by rw [h.base]; exact hm.base, by rw [h.len]; exact hm.next, by rw [h.held]; exact hm.held, fun i hi => by rw [h.base]; exact hm.b0 i hi, fun i hi => ?_, fun i hi => ?_⟩, fun i hi => by rw [h.held]; exact hm.range i hi, fun i t ht hs v hv => ?_, fun i t ht hs v hv => ?_, fun i t ht hs => by rw [h.held]; exact hm.none i t ht hs⟩
  · have h1 := hm.n0 i hi
    have h2 := h.next i (by rw [hm.next]; exact hi)
    have h3 := ver_at hp hi
    omega
  · have h1 := hm.ne i hi
    have h2 := h.next i (by rw [hm.next]; exact hi)
    have h3 := hm.b0 i hi
    rw [h.base]
    omega
  · have hin := (tab_ok (hp.tab t (List.mem_of_getElem? ht))).from0
    rw [h.held]
    exact hm.low i t ht hs v (run_ab h (by rw [hm.next]; omega) hv)
  · rw [h.held] at hv
    exact hm.high i t ht hs v hv
theorem clone_int (N : Nat) (l : List Int) (h : l.length ≤ lim) : Sh.slices_Clone_int_int N l = some l := by
  unfold Sh.slices_Clone_int_int
  rw [chk_bind_true (by simpa using h)]; rfl
theorem clone_set (N : Nat) (l : List Int) (h : l.length ≤ lim) : Sh.slices_Clone_api_Set_api_Set N l = some l := by
  unfold Sh.slices_Clone_api_Set_api_Set
  rw [chk_bind_true (by simpa using h)]; rfl
theorem getD_set {l : List Int} {i q : Nat} {y : Int} (hi : i < l.length) : (l.set i y).getD q 0 = if q = i then y else l.getD q 0 := by
  rw [List.getD_eq_getElem?_getD, List.getD_eq_getElem?_getD, List.getElem?_set]
  by_cases h : i = q
  · subst h; simp [hi]
  · rw [if_neg h, if_neg (fun e => h e.symm)]
theorem opn_inj {l : List Int} {a b : Nat} (ha : a < l.length) (hb : b < l.length) (h1 : 0 ≤ l.getD a 0) (h2 : 0 ≤ l.getD b 0) (h : opn l a = opn l b) : a = b := by
  rcases Nat.lt_trichotomy a b with h3 | h3 | h3
  · have := opn_mono l (a := a + 1) (b := b) h3 (by omega)
    rw [opn_succ l a ha, if_pos h1] at this; omega
  · exact h3
  · have := opn_mono l (a := b + 1) (b := a) h3 (by omega)
    rw [opn_succ l b hb, if_pos h2] at this; omega
structure IsOpen (l : List Int) (o : List Int) : Prop where
  len : o.length = opn l l.length
  at_ : ∀ b, b < o.length → ∃ i : Nat, o.getD b 0 = (i : Int) ∧ i < l.length ∧ 0 ≤ l.getD i 0 ∧ opn l i = b
theorem mix_ab_next (N : Nat) (l o : List Int) (k : Nat) (acc : List ApiMix) (hN : N ≤ 1000000) (h20 : 20 ≤ N) (hl : l.length ≤ 6) (ho : IsOpen l o) (hk : k < 64) (j : List Int → Option (List ApiMix × Int)) :
    Sh.mix_Aborts_L17 N o (acc, (k : Int)) j N (l, 0) = j (abN l k) := by
  have hol := opn_le l l.length (Nat.le_refl _)
  have hoL := ho.len
  obtain ⟨x, e, h1, h2⟩ := loop_ex (A := List Int) (Sh.mix_Aborts_L17 N o (acc, (k : Int)) j) (fun a k => (a, k)) o.length j
    (fun b a => a.length = l.length ∧ ∀ q, q < l.length → a.getD q 0 = if 0 ≤ l.getD q 0 ∧ opn l q < b ∧ k.testBit (opn l q) = true then -1 else l.getD q 0)
    (fun n b a hb ha => by
      obtain ⟨i, hi1, hi2, hi3, hi4⟩ := ho.at_ b hb
      have hbit := bit_all ⟨k, hk⟩ ⟨b, by omega⟩
      rw [Sh.mix_Aborts_L17]
      simp only [join_eq]
      rw [cnd_pos (by omega), idx_lt (d := 0) hb]
      simp only [Option.bind_some]
      rw [chk_bind_true (by omega), hi1, hbit.1, idx_lt (d := 0) (show i < a.length by rw [ha.1]; exact hi2), wrap_succ (by omega)]
      simp only [Option.bind_some, Int.toNat_natCast]
      cases hkb : k.testBit b
      · refine ⟨a, rfl, ha.1, fun q hq => ?_⟩
        rw [ha.2 q hq]
        by_cases hqb : opn l q = b
        · rw [hqb, hkb]; simp
        · by_cases h3 : opn l q < b
          · have : opn l q < b + 1 := by omega
            simp [h3, this]
          · have : ¬ opn l q < b + 1 := by omega
            simp [h3, this]
      · refine ⟨a.set i (-1), rfl, by simp [ha.1], fun q hq => ?_⟩
        rw [getD_set (by rw [ha.1]; exact hi2), ha.2 q hq]
        by_cases hqi : q = i
        · subst hqi
          rw [if_pos rfl, if_pos ⟨hi3, by omega, by rw [hi4]; exact hkb⟩]
        · rw [if_neg hqi]
          by_cases h0 : 0 ≤ l.getD q 0
          · have hne : opn l q ≠ b := fun h => hqi (opn_inj hq hi2 h0 hi3 (by omega))
            by_cases h3 : opn l q < b
            · have : opn l q < b + 1 := by omega
              simp [h3, this]
            · have : ¬ opn l q < b + 1 := by omega
              simp [h3, this]
          · rw [if_neg (fun h => h0 h.1), if_neg (fun h => h0 h.1)])
    (fun n a _ => by
      rw [Sh.mix_Aborts_L17]
      simp only [join_eq]
      rw [cnd_neg (by omega)]) N 0 l (Nat.zero_le _) (by omega) ⟨rfl, fun q hq => by simp⟩
  have e' : Sh.mix_Aborts_L17 N o (acc, (k : Int)) j N (l, 0) = j x := e
  rw [e']
  congr 1
  refine list_ext_getD (by rw [abN_len, h1]) fun q hq => ?_
  rw [h1] at hq
  rw [h2 q hq, abN_at _ _ _ hq, abAt]
  by_cases h0 : 0 ≤ l.getD q 0
  · have h3 := opn_mono l (a := q + 1) (b := l.length) hq (Nat.le_refl _)
    rw [opn_succ l q hq, if_pos h0] at h3
    have : opn l q < o.length := by omega
    simp [this]
  · rw [if_neg (fun h => h0 h.1), if_neg (fun h => h0 h.1)]
theorem ref_ab_next (N : Nat) (m : ApiMix) (k : Nat) (acc : List ApiMix) (hN : N ≤ 1000000) (h20 : 20 ≤ N) (hl : m.fNext.length ≤ 6) (hk : k < 64) (j : List Int → Option (List ApiMix)) :
    Sh.sheaveref36_All_L12 N m (acc, (k : Int)) j N (m.fNext, 0, 0) = j (abN m.fNext k) := by
  obtain ⟨⟨x, pl⟩, e, h1, h2, h3⟩ := loop_ex (A := List Int × Nat) (Sh.sheaveref36_All_L12 N m (acc, (k : Int)) j) (fun a k => (a.1, (a.2 : Int), k)) m.fNext.length (fun a => j a.1)
    (fun i a => a.2 = opn m.fNext i ∧ a.1.length = m.fNext.length ∧ ∀ q, q < m.fNext.length → a.1.getD q 0 = if q < i then abAt m.fNext k q else m.fNext.getD q 0)
    (fun n i a hi ha => by
      obtain ⟨a, pl⟩ := a
      obtain ⟨a1, a2, a3⟩ := ha
      simp only at a1 a2 a3
      have hple := opn_le m.fNext i (by omega)
      have hbit := bit_all ⟨k, hk⟩ ⟨pl, by omega⟩
      have hs := opn_succ m.fNext i hi
      rw [Sh.sheaveref36_All_L12]
      simp only [join_eq]
      rw [cnd_pos (by omega), idx_lt (d := 0) hi]
      simp only [Option.bind_some]
      rw [wrap_succ (by omega)]
      by_cases h0 : m.fNext.getD i 0 < 0
      · rw [cnd_pos h0]
        refine ⟨(a, pl), rfl, by simp only; rw [hs, if_neg (by omega), a1]; rfl, a2, fun q hq => ?_⟩
        simp only
        rw [a3 q hq]
        by_cases hqi : q = i
        · subst hqi
          rw [if_neg (by omega), if_pos (by omega), abAt, if_neg (by omega)]
        · by_cases h4 : q < i
          · rw [if_pos h4, if_pos (by omega)]
          · rw [if_neg h4, if_neg (by omega)]
      · rw [cnd_neg h0, chk_bind_true (by omega), idx_lt (d := 0) (show i < a.length by omega), hbit.2, wrap_succ (by omega)]
        simp only [Option.bind_some, Int.toNat_natCast]
        cases hkb : k.testBit pl
        · refine ⟨(a, pl + 1), rfl, by simp only; rw [hs, if_pos (by omega), a1], a2, fun q hq => ?_⟩
          simp only
          rw [a3 q hq]
          by_cases hqi : q = i
          · subst hqi
            rw [if_neg (by omega), if_pos (by omega), abAt, ← a1, hkb]; simp
          · by_cases h4 : q < i
            · rw [if_pos h4, if_pos (by omega)]
            · rw [if_neg h4, if_neg (by omega)]
        · refine ⟨(a.set i (-1), pl + 1), rfl, by simp only; rw [hs, if_pos (by omega), a1], by simp [a2], fun q hq => ?_⟩
          simp only
          rw [getD_set (by omega), a3 q hq]
          by_cases hqi : q = i
          · subst hqi
            rw [if_pos rfl, if_pos (by omega), abAt, ← a1, if_pos ⟨by omega, hkb⟩]
          · rw [if_neg hqi]
            by_cases h4 : q < i
            · rw [if_pos h4, if_pos (by omega)]
            · rw [if_neg h4, if_neg (by omega)])
    (fun n a _ => by
      rw [Sh.sheaveref36_All_L12]
      simp only [join_eq]
      rw [cnd_neg (by omega)]) N 0 (m.fNext, 0) (Nat.zero_le _) (by omega) ⟨(opn_zero _).symm, rfl, fun q hq => by simp⟩
  have e' : Sh.sheaveref36_All_L12 N m (acc, (k : Int)) j N (m.fNext, 0, 0) = j x := e
  rw [e']
  congr 1
  simp only at h2 h3
  refine list_ext_getD (by rw [abN_len, h2]) fun q hq => ?_
  rw [h2] at hq
  rw [h3 q hq, if_pos hq, abN_at _ _ _ hq]
end Go.Lift

/- Aborts, the first mix that is to blame, and robustness: both implementations give one answer. -/
namespace Go.Lift
theorem mix_open (N : Nat) (m : ApiMix) (hN : N ≤ 1000000) (h20 : 20 ≤ N) (hl : m.fNext.length ≤ 6) (j : List Int → Option (List ApiMix × Int)) :
    ∃ o, Sh.mix_Aborts_L3 N m j N ([], 0) = j o ∧ IsOpen m.fNext o := by
  obtain ⟨o, e, h1, h2⟩ := loop_ex (A := List Int) (Sh.mix_Aborts_L3 N m j) (fun a k => (a, k)) m.fNext.length j
    (fun i o => o.length = opn m.fNext i ∧ ∀ b, b < o.length → ∃ q : Nat, o.getD b 0 = (q : Int) ∧ q < m.fNext.length ∧ 0 ≤ m.fNext.getD q 0 ∧ opn m.fNext q = b)
    (fun n i o hi ho => by
      have hple := opn_le m.fNext i (by omega)
      have hs := opn_succ m.fNext i hi
      rw [Sh.mix_Aborts_L3]
      simp only [join_eq]
      rw [cnd_pos (by omega), idx_lt (d := 0) hi]
      simp only [Option.bind_some]
      rw [wrap_succ (by omega)]
      by_cases h0 : 0 ≤ m.fNext.getD i 0
      · rw [cnd_pos h0, chk_bind_true (by rw [ho.1]; unfold lim; simp; omega)]
        refine ⟨o ++ [(i : Int)], rfl, by rw [hs, if_pos h0, ← ho.1]; simp, ?_⟩
        rw [List.length_append]
        exact getD_app (P := fun b y => ∃ q : Nat, y = (q : Int) ∧ q < m.fNext.length ∧ 0 ≤ m.fNext.getD q 0 ∧ opn m.fNext q = b) rfl ho.2 ⟨i, rfl, hi, h0, ho.1.symm⟩
      · rw [cnd_neg h0]
        exact ⟨o, rfl, by rw [hs, if_neg h0, ho.1]; rfl, ho.2⟩)
    (fun n a _ => by
      rw [Sh.mix_Aborts_L3]
      simp only [join_eq]
      rw [cnd_neg (by omega)]) N 0 [] (Nat.zero_le _) (by omega) ⟨(opn_zero _).symm, fun b hb => by simp at hb⟩
  exact ⟨o, e, h1, h2⟩
theorem two_pow_le {n : Nat} (h : n ≤ 6) : 2 ^ n ≤ 64 := Nat.pow_le_pow_right (n := 2) (by omega) h
theorem shl_pow {n : Nat} (h : n ≤ 6) : shlI .i64 1 (n : Int) = ((2 ^ n : Nat) : Int) := shl_all ⟨n, by omega⟩
theorem range_succ_map {β : Type} (f : Nat → β) (n : Nat) : (List.range (n + 1)).map f = (List.range n).map f ++ [f n] := by
  rw [List.range_succ, List.map_append]; rfl
theorem mix_aborts_eq (N : Nat) (p : ApiProblem) (m : ApiMix) (hN : N ≤ 1000000) (h20 : 100 ≤ N) (hw : wSl wU8 m.fHeld) (hv : validM p m = 0) : Sh.mix_Aborts N p m = some (abortsF m, 0) := by
  obtain ⟨hp, hm⟩ := valid_ok hw hv
  have hnv := hp.nv
  have hnt := hp.nt
  have hl : m.fNext.length ≤ 6 := by rw [hm.next]; omega
  unfold Sh.mix_Aborts
  rw [mix_valid_eq N p m hN (by omega) hw, hv]
  simp only [Option.bind_some, bne_self_eq_false, cnd_false]
  obtain ⟨o, e, ho⟩ := mix_open N m hN (by omega) hl (fun (v4 : (List Int)) =>
      (chk (0 ≤ (v4.length : Int))).bind fun _ =>
      Sh.mix_Aborts_L11 N m v4 (fun (v12 : (List ApiMix)) =>
        some (v12, 0)) N (([] : List ApiMix), 0))
  rw [e, chk_bind_true (by omega)]
  have hoL := ho.len
  have hol := opn_le m.fNext m.fNext.length (Nat.le_refl _)
  have hpow := two_pow_le (show opn m.fNext m.fNext.length ≤ 6 by omega)
  obtain ⟨a, e2, h1⟩ := loop_ex (A := List ApiMix) (Sh.mix_Aborts_L11 N m o fun v12 => some (v12, 0)) (fun a k => (a, k)) (2 ^ opn m.fNext m.fNext.length) (fun v12 => some (v12, 0))
    (fun i a => a = (List.range i).map (abM m))
    (fun n i a hi ha => by
      refine ⟨a ++ [abM m i], ?_, by rw [range_succ_map, ha]⟩
      have hal : a.length = i := by rw [ha]; simp
      rw [Sh.mix_Aborts_L11]
      rw [hoL, shl_pow (n := opn m.fNext m.fNext.length) (by omega), cnd_pos (by omega), clone_int N m.fBase (by have := hm.base; unfold lim; omega), clone_int N m.fNext (by unfold lim; omega), clone_set N m.fHeld (by have := hm.held; unfold lim; omega)]
      simp only [Option.bind_some]
      rw [mix_ab_next N m.fNext o i a hN (by omega) hl ho (by omega), chk_bind_true (by rw [hal]; unfold lim; simp; omega), wrap_succ (by omega)]
      rfl)
    (fun n a _ => by
      rw [Sh.mix_Aborts_L11]
      rw [hoL, shl_pow (n := opn m.fNext m.fNext.length) (by omega), cnd_neg (by simp)]) N 0 [] (Nat.zero_le _) (by omega) rfl
  have e2' : Sh.mix_Aborts_L11 N m o (fun v12 => some (v12, 0)) N ([], 0) = some (a, 0) := e2
  rw [e2', h1]; rfl
theorem ref_copied (N : Nat) (m : ApiMix) (h1 : m.fBase.length ≤ lim) (h2 : m.fNext.length ≤ lim) (h3 : m.fHeld.length ≤ lim) : Sh.sheaveref36_copied N m = some m := by
  unfold Sh.sheaveref36_copied
  rw [chk_bind_true (by simpa using h1), chk_bind_true (by simpa using h2), chk_bind_true (by simpa using h3)]; rfl
theorem ref_all_eq (N : Nat) (m : ApiMix) (hN : N ≤ 1000000) (h20 : 100 ≤ N) (h1 : m.fBase.length ≤ 100) (hl : m.fNext.length ≤ 6) (h3 : m.fHeld.length ≤ 100) : Sh.sheaveref36_All N m = some (abortsF m) := by
  unfold Sh.sheaveref36_All
  obtain ⟨c, e, hc⟩ := loop_ex (A := Nat) (Sh.sheaveref36_All_L1 N m (fun (v2 : Int) =>
    Sh.sheaveref36_All_L7 N m v2 (fun (v8 : (List ApiMix)) => some v8) N (([] : List ApiMix), 0))) (fun a k => ((a : Int), k)) m.fNext.length (fun a => Sh.sheaveref36_All_L7 N m (a : Int) (fun (v8 : (List ApiMix)) => some v8) N (([] : List ApiMix), 0))
    (fun i a => a = opn m.fNext i)
    (fun n i a hi ha => by
      have hple := opn_le m.fNext i (by omega)
      have hs := opn_succ m.fNext i hi
      rw [Sh.sheaveref36_All_L1]
      simp only [join_eq]
      rw [cnd_pos (by omega), idx_lt (d := 0) hi]
      simp only [Option.bind_some]
      rw [wrap_succ (by omega), wrap_succ (by omega)]
      by_cases h0 : 0 ≤ m.fNext.getD i 0
      · rw [cnd_pos h0]
        exact ⟨a + 1, rfl, by rw [hs, if_pos h0, ha]⟩
      · rw [cnd_neg h0]
        exact ⟨a, rfl, by rw [hs, if_neg h0, ha]; rfl⟩)
    (fun n a _ => by
      rw [Sh.sheaveref36_All_L1]
      simp only [join_eq]
      rw [cnd_neg (by omega)]) N 0 0 (Nat.zero_le _) (by omega) (opn_zero _).symm
  have e' : Sh.sheaveref36_All_L1 N m (fun (v2 : Int) => Sh.sheaveref36_All_L7 N m v2 (fun (v8 : (List ApiMix)) => some v8) N (([] : List ApiMix), 0)) N (0, 0) = _ := e
  rw [e', hc]
  have hol := opn_le m.fNext m.fNext.length (Nat.le_refl _)
  have hpow := two_pow_le (show opn m.fNext m.fNext.length ≤ 6 by omega)
  obtain ⟨a, e2, h1⟩ := loop_ex (A := List ApiMix) (Sh.sheaveref36_All_L7 N m (opn m.fNext m.fNext.length : Int) fun v8 => some v8) (fun a k => (a, k)) (2 ^ opn m.fNext m.fNext.length) some
    (fun i a => a = (List.range i).map (abM m))
    (fun n i a hi ha => by
      refine ⟨a ++ [abM m i], ?_, by rw [range_succ_map, ha]⟩
      have hal : a.length = i := by rw [ha]; simp
      rw [Sh.sheaveref36_All_L7]
      rw [chk_bind_true (by omega), shl_pow (n := opn m.fNext m.fNext.length) (by omega), cnd_pos (by omega), ref_copied N m (by unfold lim; omega) (by unfold lim; omega) (by unfold lim; omega)]
      simp only [Option.bind_some]
      rw [ref_ab_next N m i a hN (by omega) hl (by omega), chk_bind_true (by rw [hal]; unfold lim; simp; omega), wrap_succ (by omega)]
      rfl)
    (fun n a _ => by
      rw [Sh.sheaveref36_All_L7]
      rw [chk_bind_true (by omega), shl_pow (n := opn m.fNext m.fNext.length) (by omega), cnd_neg (by simp)]) N 0 [] (Nat.zero_le _) (by omega) rfl
  have e2' : Sh.sheaveref36_All_L7 N m (opn m.fNext m.fNext.length : Int) (fun v8 => some v8) N ([], 0) = some a := e2
  rw [e2', h1]; rfl
theorem ref_all_ok (N : Nat) (p : ApiProblem) (m : ApiMix) (hN : N ≤ 1000000) (h20 : 100 ≤ N) (hp : ProbOk p) (hm : MixOk p m) : Sh.sheaveref36_All N m = some (abortsF m) := by
  have := hp.nv
  have := hp.nt
  exact ref_all_eq N m hN h20 (by rw [hm.base]; omega) (by rw [hm.next]; omega) (by rw [hm.held]; omega)
theorem ok_u8 {p : ApiProblem} {m : ApiMix} (hm : MixOk p m) : wSl wU8 m.fHeld := by
  intro x hx
  obtain ⟨q, hq⟩ := List.mem_iff_getElem?.1 hx
  have h1 := (List.getElem?_eq_some_iff.1 hq).1
  have := hm.range q (by rw [← hm.held]; exact h1)
  rw [List.getD_eq_getElem?_getD, hq] at this
  unfold wU8
  simp only [Option.getD_some] at this
  simp [Lit.wf, IntKind.min, IntKind.max, IntKind.signed, IntKind.bits]
  omega
def blameE (p : ApiProblem) (x : ApiMix) : Option (ApiMix × ApiConflict) := match conflictsF p x with
  | [] => none
  | c :: _ => some (x, c)
def blameF (p : ApiProblem) (m : ApiMix) : Option (ApiMix × ApiConflict) := scan (fun _ x => blameE p x) 0 (abortsF m)
def zeroM : ApiMix := ⟨[], [], []⟩
def zeroC : ApiConflict := ⟨0, 0, 0⟩
def blameR (p : ApiProblem) (m : ApiMix) : ApiMix × ApiConflict × Int := match blameF p m with
  | some (x, c) => (x, c, 0)
  | none => (zeroM, zeroC, 15)
theorem aborts_len {m : ApiMix} (hl : m.fNext.length ≤ 6) : (abortsF m).length ≤ 64 := by
  unfold abortsF
  have hol := opn_le m.fNext m.fNext.length (Nat.le_refl _)
  have hpow := two_pow_le (show opn m.fNext m.fNext.length ≤ 6 by omega)
  simpa using hpow
theorem scan_map {α R R' : Type} (f : Nat → α → Option R) (g : R → R') : ∀ (i : Nat) (xs : List α), scan (fun i x => (f i x).map g) i xs = (scan f i xs).map g
  | _, [] => rfl
  | i, x :: xs => by
    rw [scan_cons, scan_cons]
    cases f i x
    · exact scan_map f g (i + 1) xs
    · rfl
theorem mix_blame_eq (N : Nat) (p : ApiProblem) (m : ApiMix) (hN : N ≤ 1000000) (h20 : 100 ≤ N) (hw : wSl wU8 m.fHeld) (hv : validM p m = 0) : Sh.mix_Blame N p m = some (blameR p m) := by
  obtain ⟨hp, hm⟩ := valid_ok hw hv
  have hnv := hp.nv
  unfold Sh.mix_Blame
  rw [mix_aborts_eq N p m hN h20 hw hv]
  simp only [Option.bind_some, bne_self_eq_false, cnd_false]
  have hal := aborts_len (m := m) (by rw [hm.next]; omega)
  have := loop_scan (Sh.mix_Blame_L3 N p (abortsF m, 0) fun _ => some (zeroM, zeroC, 15)) (abortsF m) (some (zeroM, zeroC, 15)) (fun _ x => (blameE p x).map fun y => (y.1, y.2, 0))
    (fun n i x hx => by
      have hi := (List.getElem?_eq_some_iff.1 hx).1
      have hx2 := ok_ab hp hm (mem_aborts.1 (List.mem_of_getElem? hx))
      rw [Sh.mix_Blame_L3, cnd_pos (by simp only; omega)]
      simp only [idx_nat, hx, Option.bind_some]
      rw [mix_conflicts_eq N p x hN (by omega) hp hx2, wrap_succ (by omega)]
      simp only [Option.bind_some, blameE]
      cases conflictsF p x with
      | nil => rfl
      | cons c cs => rw [cnd_pos (by simp only [List.length_cons]; omega)]; rfl)
    (fun n => by rw [Sh.mix_Blame_L3, cnd_neg (by simp)]) N 0 (Nat.zero_le _) (by omega)
  rw [List.drop_zero, scan_map] at this
  exact this.trans (by
    unfold blameR blameF
    cases scan (fun _ x => blameE p x) 0 (abortsF m) <;> rfl)
theorem ref_blame_eq (N : Nat) (p : ApiProblem) (m : ApiMix) (hN : N ≤ 1000000) (h20 : 100 ≤ N) (hw : wSl wU8 m.fHeld) (hv : validM p m = 0) : Sh.sheaveref36_Blame N p m = some (blameR p m) := by
  obtain ⟨hp, hm⟩ := valid_ok hw hv
  have hnv := hp.nv
  unfold Sh.sheaveref36_Blame Sh.sheaveref36_Aborts
  rw [ref_valid_eq N p m hN (by omega), hv, ref_all_ok N p m hN h20 hp hm]
  simp only [Option.bind_some, bne_self_eq_false, cnd_false]
  have hal := aborts_len (m := m) (by rw [hm.next]; omega)
  have := loop_scan (Sh.sheaveref36_Blame_L3 N p (abortsF m, 0) fun _ => some (zeroM, zeroC, 15)) (abortsF m) (some (zeroM, zeroC, 15)) (fun _ x => (blameE p x).map fun y => (y.1, y.2, 0))
    (fun n i x hx => by
      have hi := (List.getElem?_eq_some_iff.1 hx).1
      have hx2 := ok_ab hp hm (mem_aborts.1 (List.mem_of_getElem? hx))
      rw [Sh.sheaveref36_Blame_L3, cnd_pos (by simp only; omega)]
      simp only [idx_nat, hx, Option.bind_some]
      rw [ref_conflicts_eq N p x hN (by omega) hp hx2, wrap_succ (by omega)]
      simp only [Option.bind_some, blameE]
      cases conflictsF p x with
      | nil => rfl
      | cons c cs => rw [cnd_pos (by simp only [List.length_cons]; omega)]; rfl)
    (fun n => by rw [Sh.sheaveref36_Blame_L3, cnd_neg (by simp)]) N 0 (Nat.zero_le _) (by omega)
  rw [List.drop_zero, scan_map] at this
  exact this.trans (by
    unfold blameR blameF
    cases scan (fun _ x => blameE p x) 0 (abortsF m) <;> rfl)
end Go.Lift

/- The laws of the mixes in plain words: MixConflicts, MixAborts, MixAborted, MixGoal, MixValid. -/
namespace Go.Lift
theorem ref_cmp_gen {N : Nat} {a b : ApiMix} (hN : N ≤ 1000000) (h1 : a.fBase.length < N) (h2 : a.fNext.length < N) (h3 : a.fHeld.length < N) (h4 : b.fHeld.length < N) (wa : wSl wU8 a.fHeld) (wb : wSl wU8 b.fHeld) : Sh.sheaveref36_Compare N a b = some (cmpM a b) := by
  unfold Sh.sheaveref36_Compare
  rw [ref_ints h1 hN, ref_ints h2 hN, ref_numbers h3 hN wa, ref_numbers h4 hN wb]
  simp only [Option.bind_some]
  rw [ref_ints h3 hN]
  unfold cmpM orF
  by_cases h1 : cmpL a.fBase b.fBase = 0
  · simp only [h1, orF]
    by_cases h2 : cmpL a.fNext b.fNext = 0
    · simp only [h2]
      by_cases h3 : cmpL a.fHeld b.fHeld = 0 <;> simp [h3]
    · have : (cmpL a.fNext b.fNext != 0) = true := by simpa using h2
      simp [h2, this]
  · have : (cmpL a.fBase b.fBase != 0) = true := by simpa using h1
    simp [h1, this]
theorem ref_eq_self {N : Nat} {a : ApiMix} (hN : N ≤ 1000000) (h1 : a.fBase.length < N) (h2 : a.fNext.length < N) (h3 : a.fHeld.length < N) (wa : wSl wU8 a.fHeld) : Sh.sheaveref36_Equal N a a = some true := by
  unfold Sh.sheaveref36_Equal
  rw [ref_cmp_gen hN h1 h2 h3 h3 wa wa, cmpM_self]; rfl
theorem ref_eq_ok {N : Nat} {p : ApiProblem} {a : ApiMix} (hN : N ≤ 1000000) (h20 : 100 ≤ N) (hp : ProbOk p) (ha : MixOk p a) : Sh.sheaveref36_Equal N a a = some true := by
  have := hp.nv
  have := hp.nt
  exact ref_eq_self hN (by rw [ha.base]; omega) (by rw [ha.next]; omega) (by rw [ha.held]; omega) (ok_u8 ha)
theorem blame_eq_ok {p : ApiProblem} {m : ApiMix} (N : Nat) (hN : N ≤ 1000000) (h20 : 100 ≤ N) (hp : ProbOk p) (hm : MixOk p m) : Sh.sheaveref36_Equal N (blameR p m).1 (blameR p m).1 = some true := by
  unfold blameR
  cases h : blameF p m with
  | none => exact ref_eq_self hN (by simp [zeroM]; omega) (by simp [zeroM]; omega) (by simp [zeroM]; omega) (fun y hy => by simp [zeroM] at hy)
  | some y =>
    obtain ⟨j, x, hx, hf⟩ := scan_some h
    have hx2 := ok_ab hp hm (mem_aborts.1 (List.mem_of_getElem? hx))
    unfold blameE at hf
    split at hf
    · cases hf
    · cases hf; exact ref_eq_ok hN h20 hp hx2
end Go.Lift

/- The laws of the mixes in plain words: MixGoal, MixValid. -/
namespace Go.Lift
theorem slices_equal (N : Nat) (a b : List Int) (hN : N ≤ 1000000) (h : a.length < N) : Sh.slices_Equal_int_int N a b = some (a == b) := by
  unfold Sh.slices_Equal_int_int
  by_cases hl : a.length = b.length
  · rw [hl, bne_self_eq_false, cnd_false]
    have := loop_scan (Sh.slices_Equal_int_int_L2 N a b fun _ => some true) a (some true) (fun i x => if x = b.getD i 0 then none else some false)
      (fun n i x hx => by
        have hi := (List.getElem?_eq_some_iff.1 hx).1
        rw [Sh.slices_Equal_int_int_L2, cnd_pos (by omega), idx_nat, hx, idx_lt (d := 0) (by omega)]
        simp only [Option.bind_some]
        rw [wrap_succ (by omega)]
        by_cases h : x = b.getD i 0
        · rw [if_pos h, h, bne_self_eq_false]; rfl
        · rw [if_neg h, bne_iff_ne.2 h]; rfl)
      (fun n => by rw [Sh.slices_Equal_int_int_L2, cnd_neg (by simp)]) N 0 (Nat.zero_le _) (by omega)
    refine this.trans ?_
    rw [List.drop_zero]
    cases hs : scan (fun i x => if x = b.getD i 0 then none else some false) 0 a with
    | none =>
      have : a = b := list_ext_getD hl fun q hq => by
        have hx : a[q]? = some (a.getD q 0) := by rw [List.getD_eq_getElem?_getD]; simp [hq]
        have := scan_none hs q _ hx
        rw [Nat.zero_add] at this
        split at this
        · assumption
        · cases this
      rw [this, beq_self_eq_true]; rfl
    | some r =>
      obtain ⟨j, x, hx, hf⟩ := scan_some hs
      rw [Nat.zero_add] at hf
      split at hf
      · cases hf
      · rename_i hne
        cases hf
        have : (a == b) = false := beq_eq_false_iff_ne.2 fun e => hne (by rw [← e, List.getD_eq_getElem?_getD, hx]; rfl)
        rw [this]; rfl
  · have h1 : ((a.length : Int) != (b.length : Int)) = true := bne_iff_ne.2 (by omega)
    have h2 : (a == b) = false := beq_eq_false_iff_ne.2 fun e => hl (by rw [e])
    rw [h1, h2]; rfl
theorem contains_int (N : Nat) (a : List Int) (f : Int → Option Bool) (g : Int → Bool) (hN : N ≤ 1000000) (h : a.length < N) (hf : ∀ x, x ∈ a → f x = some (g x)) : Sh.slices_ContainsFunc_int_int N a f = some (a.any g) := by
  unfold Sh.slices_ContainsFunc_int_int Sh.slices_IndexFunc_int_int
  have := loop_scan (Sh.slices_IndexFunc_int_int_L1 N a f fun _ => some (-1)) a (some (-1)) (fun i x => if g x then some (i : Int) else none)
    (fun n i x hx => by
      have hi := (List.getElem?_eq_some_iff.1 hx).1
      rw [Sh.slices_IndexFunc_int_int_L1, cnd_pos (by omega), idx_nat, hx]
      simp only [Option.bind_some]
      rw [hf x (List.mem_of_getElem? hx), wrap_succ (by omega)]
      simp only [Option.bind_some]
      cases g x <;> rfl)
    (fun n => by rw [Sh.slices_IndexFunc_int_int_L1, cnd_neg (by simp)]) N 0 (Nat.zero_le _) (by omega)
  have e : Sh.slices_IndexFunc_int_int_L1 N a f (fun _ => some (-1)) N 0 = _ := this
  rw [e, List.drop_zero]
  cases hs : scan (fun i x => if g x then some (i : Int) else none) 0 a with
  | none =>
    have : a.any g = false := by
      rw [List.any_eq_false]
      intro x hx
      obtain ⟨j, hj⟩ := List.mem_iff_getElem?.1 hx
      have := scan_none hs j x hj
      intro hg
      rw [hg] at this; cases this
    rw [this]; rfl
  | some r =>
    obtain ⟨j, x, hx, hf⟩ := scan_some hs
    split at hf
    · rename_i hg
      cases hf
      have : a.any g = true := List.any_eq_true.2 ⟨x, List.mem_of_getElem? hx, hg⟩
      rw [this]
      simp only [orElse, Option.bind_some]
      rw [decide_eq_true (by omega)]
    · cases hf
def goalB (p : ApiProblem) (m : ApiMix) : Bool := validM p m == 0 && (m.fBase == p.fTarget && m.fNext.all (fun n => decide (n < 0)))
theorem mix_goal_eq (N : Nat) (p : ApiProblem) (m : ApiMix) (hN : N ≤ 1000000) (h20 : 100 ≤ N) (hw : wSl wU8 m.fHeld) : Sh.mix_Goal N p m = some (goalB p m) := by
  unfold Sh.mix_Goal goalB
  rw [mix_valid_eq N p m hN (by omega) hw]
  simp only [join_eq, Option.bind_some]
  by_cases hv : validM p m = 0
  · obtain ⟨hp, hm⟩ := valid_ok hw hv
    have := hp.nv
    rw [hv, slices_equal N _ _ hN (by rw [hm.base]; omega), contains_int N m.fNext (fun x => Sh.mix_Goal_1 N x) (fun n => decide (0 ≤ n)) hN (by rw [hm.next]; omega) (fun x _ => rfl)]
    simp only [Option.bind_some, beq_self_eq_true, cnd_true, Bool.true_and]
    have : m.fNext.all (fun n => decide (n < 0)) = !m.fNext.any (fun n => decide (0 ≤ n)) := by
      rw [List.not_any_eq_all_not]
      congr 1; funext n
      by_cases h : 0 ≤ n
      · rw [decide_eq_true h, decide_eq_false (by omega)]; rfl
      · rw [decide_eq_false h, decide_eq_true (by omega)]; rfl
    rw [this]
    cases m.fBase == p.fTarget <;> simp
  · rw [beq_eq_false_iff_ne.2 hv]; rfl
theorem ref_goal_eq (N : Nat) (p : ApiProblem) (m : ApiMix) (hN : N ≤ 1000000) (h20 : 100 ≤ N) (hw : wSl wU8 m.fHeld) : Sh.sheaveref36_Goal N p m = some (goalB p m) := by
  unfold Sh.sheaveref36_Goal goalB
  rw [ref_valid_eq N p m hN (by omega)]
  simp only [Option.bind_some]
  by_cases hv : validM p m = 0
  · obtain ⟨hp, hm⟩ := valid_ok hw hv
    have h1 := hp.nv
    have h2 := hp.tgt
    have h3 := hm.base
    have h4 := hm.next
    rw [hv]
    simp only [bne_self_eq_false, cnd_false, beq_self_eq_true, Bool.true_and]
    have := loop_scan (Sh.sheaveref36_Goal_L3 N p m fun _ => some true) m.fBase (some true) (fun i x => if 0 ≤ m.fNext.getD i 0 ∨ x ≠ p.fTarget.getD i 0 then some false else none)
      (fun n i x hx => by
        have hi := (List.getElem?_eq_some_iff.1 hx).1
        rw [Sh.sheaveref36_Goal_L3, cnd_pos (by omega)]
        simp only [join_eq]
        rw [show idx m.fBase (i : Int) = some x from by rw [idx_nat, hx], idx_lt (d := 0) (by omega), idx_lt (d := 0) (by omega)]
        simp only [Option.bind_some]
        rw [wrap_succ (by omega)]
        by_cases k1 : 0 ≤ m.fNext.getD i 0
        · rw [cnd_pos k1, if_pos (.inl k1)]; rfl
        · rw [cnd_neg k1]
          by_cases k2 : x = p.fTarget.getD i 0
          · rw [if_neg (fun h => h.elim k1 (fun h => h k2)), k2, bne_self_eq_false]; rfl
          · rw [if_pos (.inr k2), bne_iff_ne.2 k2]; rfl)
      (fun n => by rw [Sh.sheaveref36_Goal_L3, cnd_neg (by simp)]) N 0 (Nat.zero_le _) (by omega)
    refine this.trans ?_
    rw [List.drop_zero]
    cases hs : scan (fun i x => if 0 ≤ m.fNext.getD i 0 ∨ x ≠ p.fTarget.getD i 0 then some false else none) 0 m.fBase with
    | none =>
      have key : ∀ q, q < m.fBase.length → m.fBase.getD q 0 = p.fTarget.getD q 0 ∧ ¬ 0 ≤ m.fNext.getD q 0 := by
        intro q hq
        have hx : m.fBase[q]? = some (m.fBase.getD q 0) := by rw [List.getD_eq_getElem?_getD]; simp [hq]
        have := scan_none hs q _ hx
        rw [Nat.zero_add] at this
        split at this
        · cases this
        · rename_i h; exact ⟨Decidable.not_not.1 fun h' => h (.inr h'), fun h' => h (.inl h')⟩
      have e1 : m.fBase = p.fTarget := list_ext_getD (by omega) fun q hq => (key q hq).1
      have e2 : m.fNext.all (fun n => decide (n < 0)) = true := by
        rw [List.all_eq_true]
        intro n hn
        obtain ⟨q, hq⟩ := List.mem_iff_getElem?.1 hn
        have hl := (List.getElem?_eq_some_iff.1 hq).1
        have := (key q (by omega)).2
        rw [List.getD_eq_getElem?_getD, hq] at this
        simp only [Option.getD_some] at this
        simp only [decide_eq_true_eq]
        omega
      rw [e2, e1]; simp [orElse]
    | some r =>
      obtain ⟨j, x, hx, hf⟩ := scan_some hs
      rw [Nat.zero_add] at hf
      have hj := (List.getElem?_eq_some_iff.1 hx).1
      split at hf
      · rename_i h
        cases hf
        have : (m.fBase == p.fTarget && m.fNext.all (fun n => decide (n < 0))) = false := by
          rw [Bool.and_eq_false_iff]
          rcases h with h | h
          · right
            rw [List.all_eq_false]
            refine ⟨m.fNext.getD j 0, ?_, ?_⟩
            · rw [List.getD_eq_getElem?_getD, List.getElem?_eq_getElem (by omega)]; exact List.getElem_mem _
            · simp only [decide_eq_true_eq]; omega
          · left
            exact beq_eq_false_iff_ne.2 fun e => h (by rw [← e, List.getD_eq_getElem?_getD, hx]; rfl)
        rw [this]; rfl
      · cases hf
  · rw [bne_iff_ne.2 hv, beq_eq_false_iff_ne.2 hv]; rfl
theorem ref35_few (N : Nat) (hN : N ≤ 1000000) (h20 : 100 ≤ N) (p : ApiProblem) : ∃ b, Sh.sheaveref35_Few N p = some b := by
  unfold Sh.sheaveref35_Few
  simp only [join_eq]
  by_cases h1 : 8 < (p.fVersions.length : Int)
  · rw [cnd_pos h1]; exact ⟨_, rfl⟩
  rw [cnd_neg h1]
  by_cases h2 : 8 < (p.fNow.length : Int)
  · rw [cnd_pos h2]; exact ⟨_, rfl⟩
  rw [cnd_neg h2]
  by_cases h3 : 8 < (p.fTarget.length : Int)
  · rw [cnd_pos h3]; exact ⟨_, rfl⟩
  rw [cnd_neg h3]
  by_cases h4 : 14 < (p.fTables.length : Int)
  · rw [decide_eq_true h4]; exact ⟨_, rfl⟩
  rw [decide_eq_false h4, cnd_false]
  have inner1 : ∀ (i : Nat) (t : ApiTable), p.fTables[i]? = some t → t.fOK.length ≤ 8 → ∀ j : Option Bool, ∃ r, Sh.sheaveref35_Few_L14 N p (i : Int) (fun _ => j) N 0 = orElse r j := by
    intro i t ht hl j
    refine ⟨_, loop_scan (Sh.sheaveref35_Few_L14 N p (i : Int) fun _ => j) t.fOK j (fun _ row => if 8 < (row.length : Int) then some false else none) (fun n k x hx => ?_) (fun n => ?_) N 0 (Nat.zero_le _) (by omega)⟩
    · have hk := (List.getElem?_eq_some_iff.1 hx).1
      rw [Sh.sheaveref35_Few_L14, idx_nat, ht]
      simp only [Option.bind_some]
      rw [cnd_pos (by omega), idx_nat, hx, wrap_succ (by omega)]
      simp only [Option.bind_some]
      by_cases h : 8 < (x.length : Int)
      · rw [cnd_pos h, if_pos h]; rfl
      · rw [cnd_neg h, if_neg h]; rfl
    · rw [Sh.sheaveref35_Few_L14, idx_nat, ht]
      simp only [Option.bind_some]
      rw [cnd_neg (by simp)]
  have inner2 : ∀ (i : Nat) (t : ApiTable), p.fTables[i]? = some t → t.fRewrite.length ≤ 8 → ∀ j : Option Bool, ∃ r, Sh.sheaveref35_Few_L21 N p (i : Int) (fun _ => j) N 0 = orElse r j := by
    intro i t ht hl j
    refine ⟨_, loop_scan (Sh.sheaveref35_Few_L21 N p (i : Int) fun _ => j) t.fRewrite j (fun _ row => if 8 < (row.length : Int) then some false else none) (fun n k x hx => ?_) (fun n => ?_) N 0 (Nat.zero_le _) (by omega)⟩
    · have hk := (List.getElem?_eq_some_iff.1 hx).1
      rw [Sh.sheaveref35_Few_L21, idx_nat, ht]
      simp only [Option.bind_some]
      rw [cnd_pos (by omega), idx_nat, hx, wrap_succ (by omega)]
      simp only [Option.bind_some]
      by_cases h : 8 < (x.length : Int)
      · rw [cnd_pos h, if_pos h]; rfl
      · rw [cnd_neg h, if_neg h]; rfl
    · rw [Sh.sheaveref35_Few_L21, idx_nat, ht]
      simp only [Option.bind_some]
      rw [cnd_neg (by simp)]
  have outer : ∀ n i : Nat, i ≤ p.fTables.length → p.fTables.length - i < n → ∃ b, Sh.sheaveref35_Few_L6 N p (fun _ => some true) n (i : Int) = some b := by
    intro n
    induction n with
    | zero => intro i _ h; omega
    | succ n ih =>
      intro i hi hn
      rw [Sh.sheaveref35_Few_L6]
      simp only [join_eq]
      by_cases h : i < p.fTables.length
      · have hx : p.fTables[i]? = some p.fTables[i] := by simp [h]
        generalize p.fTables[i] = t at hx
        rw [cnd_pos (by omega), idx_nat, hx]
        simp only [Option.bind_some]
        by_cases k1 : 8 < (t.fOK.length : Int)
        · rw [cnd_pos k1]; exact ⟨_, rfl⟩
        rw [cnd_neg k1]
        by_cases k2 : 8 < (t.fRewrite.length : Int)
        · rw [decide_eq_true k2]; exact ⟨_, rfl⟩
        rw [decide_eq_false k2, cnd_false, wrap_succ (by omega)]
        obtain ⟨b, hb⟩ := ih (i + 1) (by omega) (by omega)
        rw [hb]
        obtain ⟨r2, e2⟩ := inner2 i t hx (by omega) (some b)
        obtain ⟨r1, e1⟩ := inner1 i t hx (by omega) (orElse r2 (some b))
        rw [e2, e1]
        cases r1 with
        | some r => exact ⟨_, rfl⟩
        | none => cases r2 <;> exact ⟨_, rfl⟩
      · rw [cnd_neg (by omega)]; exact ⟨_, rfl⟩
  exact outer N 0 (Nat.zero_le _) (by omega)
end Go.Lift

/- The first mix in plain words, and the law MixStart. -/
namespace Go.Lift
open Go
def holdS (p : ApiProblem) (t : ApiTable) : Int := if storedB t = true then shlI .u8 1 (p.fNow.getD t.fFrom.toNat 0) else 0
def startM (p : ApiProblem) : ApiMix := ⟨p.fNow, List.replicate p.fNow.length (-1), p.fTables.map (holdS p)⟩
theorem repeat_eq (N : Nat) (h : 100 ≤ N) (n : Nat) (hn : n ≤ 6) : Sh.slices_Repeat_int_int N [(-1)] (n : Int) = some (List.replicate n (-1)) := by
  obtain ⟨k, rfl⟩ : ∃ k, N = k + 100 := ⟨N - 100, by omega⟩
  have : n = 0 ∨ n = 1 ∨ n = 2 ∨ n = 3 ∨ n = 4 ∨ n = 5 ∨ n = 6 := by omega
  rcases this with rfl | rfl | rfl | rfl | rfl | rfl | rfl
  all_goals (show _ = _; kernel_rfl)
theorem set_step (T : List Int) (i : Nat) (hi : i < T.length) : (T.take i ++ List.replicate (T.length - i) 0).set i (T.getD i 0) = T.take (i + 1) ++ List.replicate (T.length - (i + 1)) 0 := by
  have hl : (T.take i).length = i := by simp; omega
  rw [List.set_append_right _ _ (by omega), hl, Nat.sub_self, show T.length - i = (T.length - (i + 1)) + 1 from by omega, List.replicate_succ, List.set_cons_zero, List.take_add_one, List.append_assoc]
  have : T[i]? = some (T.getD i 0) := by rw [List.getD_eq_getElem?_getD]; simp [hi]
  rw [this]; rfl
theorem keep_step (T : List Int) (i : Nat) (hi : i < T.length) (h0 : T.getD i 0 = 0) : T.take i ++ List.replicate (T.length - i) 0 = T.take (i + 1) ++ List.replicate (T.length - (i + 1)) 0 := by
  rw [← set_step T i hi, h0, List.set_append_right _ _ (by rw [List.length_take]; omega)]
  congr 1
  have hl : (T.take i).length = i := by simp; omega
  rw [hl, Nat.sub_self, show T.length - i = (T.length - (i + 1)) + 1 from by omega, List.replicate_succ, List.set_cons_zero]
theorem now_at {p : ApiProblem} (hv : validP p = 0) {t : ApiTable} (ht : t ∈ p.fTables) : 0 ≤ t.fFrom ∧ t.fFrom.toNat < p.fNow.length ∧ 0 ≤ p.fNow.getD t.fFrom.toNat 0 ∧ p.fNow.getD t.fFrom.toNat 0 < 6 ∧ p.fNow.getD t.fFrom.toNat 0 < p.fVersions.getD t.fFrom.toNat 0 ∧ t.fFrom.toNat < p.fVersions.length := by
  obtain ⟨hp, hr⟩ := valid_prob hv
  have h1 := tab_in (hp.tab t ht)
  have h2 := hr t.fFrom.toNat (by omega)
  have h3 := ver_at hp (i := t.fFrom.toNat) (by omega)
  have := hp.now
  refine ⟨h1.1, by omega, h2.1, by omega, h2.2.1, by omega⟩
theorem holdS_at {p : ApiProblem} {i : Nat} {t : ApiTable} (ht : p.fTables[i]? = some t) : (p.fTables.map (holdS p)).getD i 0 = holdS p t := by
  rw [List.getD_eq_getElem?_getD, List.getElem?_map, ht]; rfl
theorem mix_start_eq (N : Nat) (p : ApiProblem) (hN : N ≤ 1000000) (h20 : 100 ≤ N) : Sh.mix_Start N p = some (if validP p = 0 then startM p else ⟨[], [], []⟩, validP p) := by
  unfold Sh.mix_Start
  rw [fleet_validP N p hN (by omega)]
  simp only [Option.bind_some]
  by_cases hv : validP p = 0
  · rw [if_pos hv, hv]
    obtain ⟨hp, _⟩ := valid_prob hv
    have hnv := hp.nv
    have hnt := hp.nt
    have hnow := hp.now
    rw [bne_self_eq_false, cnd_false, clone_int N _ (by simp only [lim]; omega)]
    simp only [Option.bind_some]
    rw [repeat_eq N h20 _ (by omega)]
    simp only [Option.bind_some]
    rw [chk_bind_true (by simp only [lim]; omega)]
    obtain ⟨a', e, ha⟩ := loop_ex (Sh.mix_Start_L6 N p fun v7 => some (ApiMix.mk p.fNow (List.replicate p.fNow.length (-1)) v7, 0)) (fun a i => (a, i)) p.fTables.length (fun v7 => some (ApiMix.mk p.fNow (List.replicate p.fNow.length (-1)) v7, 0))
      (fun i a => a = (p.fTables.map (holdS p)).take i ++ List.replicate ((p.fTables.map (holdS p)).length - i) 0)
      (fun n i a hi ha => by
        have hx : p.fTables[i]? = some p.fTables[i] := by simp [hi]
        have hm : p.fTables[i] ∈ p.fTables := List.getElem_mem hi
        obtain ⟨n1, n2, n3, n4, _⟩ := now_at hv hm
        rw [Sh.mix_Start_L6, cnd_pos (by simp only; omega)]
        simp only [join_eq, idx_nat, hx, Option.bind_some, mix_stored_eq, wrap_succ (show i < 1000000 by omega)]
        have hal : i < (p.fTables.map (holdS p)).length := by simpa using hi
        cases hs : storedB p.fTables[i]
        · rw [cnd_false]
          refine ⟨a, rfl, ?_⟩
          rw [ha]
          exact keep_step _ _ hal (by rw [holdS_at hx]; unfold holdS; rw [hs]; rfl)
        · rw [cnd_true]
          have e1 : idx p.fNow p.fTables[i].fFrom = some (p.fNow.getD p.fTables[i].fFrom.toNat 0) := by
            obtain ⟨q, hq⟩ := Int.eq_ofNat_of_zero_le n1
            rw [hq]; exact idx_lt (by rw [hq] at n2; simpa using n2)
          rw [e1]
          simp only [Option.bind_some]
          rw [chk_bind_true n3]
          have hl : i < a.length := by rw [ha]; simp; omega
          have e2 : a[i]? = some a[i] := by simp [hl]
          rw [e2]
          simp only [Option.bind_some]
          refine ⟨_, rfl, ?_⟩
          rw [← set_step _ _ hal, holdS_at hx, ha]
          unfold holdS; rw [hs]; rfl)
      (fun n a ha => by rw [Sh.mix_Start_L6, cnd_neg (by simp)]) N 0 (List.replicate p.fTables.length 0) (Nat.zero_le _) (by omega) (by simp)
    have e' : Sh.mix_Start_L6 N p (fun v7 => some (ApiMix.mk p.fNow (List.replicate p.fNow.length (-1)) v7, 0)) N (List.replicate ((p.fTables.length : Int)).toNat (0 : Int), 0) = _ := e
    rw [e', ha]
    have e5 : (p.fTables.map (holdS p)).take p.fTables.length = p.fTables.map (holdS p) := List.take_of_length_le (by simp)
    simp [startM, e5]
  · rw [if_neg hv, bne_iff_ne.2 hv, cnd_true]
theorem ref_start_eq (N : Nat) (p : ApiProblem) (hN : N ≤ 1000000) (h20 : 100 ≤ N) : Sh.sheaveref36_Start N p = some (if validP p = 0 then startM p else ⟨[], [], []⟩, validP p) := by
  unfold Sh.sheaveref36_Start
  rw [ref_validP N p hN (by omega)]
  simp only [Option.bind_some]
  by_cases hv : validP p = 0
  · rw [if_pos hv, hv]
    obtain ⟨hp, _⟩ := valid_prob hv
    have hnv := hp.nv
    have hnt := hp.nt
    have hnow := hp.now
    rw [bne_self_eq_false, cnd_false]
    obtain ⟨a', e, ha⟩ := loop_ex (Sh.sheaveref36_Start_L3 N p fun v4 => Sh.sheaveref36_Start_L9 N p (fun v10 => some (ApiMix.mk v4.1 v4.2 v10, 0)) N (([] : List Int), 0)) (fun a i => (a.1, a.2, i)) p.fVersions.length (fun v4 => Sh.sheaveref36_Start_L9 N p (fun v10 => some (ApiMix.mk v4.1 v4.2 v10, 0)) N (([] : List Int), 0))
      (fun i a => a = (p.fNow.take i, List.replicate i (-1)))
      (fun n i a hi ha => by
        subst ha
        rw [Sh.sheaveref36_Start_L3, cnd_pos (by simp only; omega)]
        have hx : p.fNow[i]? = some p.fNow[i] := by simp [show i < p.fNow.length from by omega]
        simp only [idx_nat, hx, Option.bind_some, wrap_succ (show i < 1000000 by omega)]
        rw [chk_bind_true (by simp [lim]; omega), chk_bind_true (by simp [lim]; omega)]
        refine ⟨(p.fNow.take i ++ [p.fNow[i]], List.replicate i (-1) ++ [-1]), rfl, ?_⟩
        rw [List.take_add_one, hx, List.replicate_succ']; rfl)
      (fun n a ha => by rw [Sh.sheaveref36_Start_L3, cnd_neg (by simp)]) N 0 ([], []) (Nat.zero_le _) (by omega) rfl
    have e' : Sh.sheaveref36_Start_L3 N p (fun v4 => Sh.sheaveref36_Start_L9 N p (fun v10 => some (ApiMix.mk v4.1 v4.2 v10, 0)) N (([] : List Int), 0)) N (([] : List Int), ([] : List Int), 0) = _ := e
    rw [e', ha]
    simp only
    obtain ⟨b', e2, hb⟩ := loop_ex (Sh.sheaveref36_Start_L9 N p fun v10 => some (ApiMix.mk (p.fNow.take p.fVersions.length) (List.replicate p.fVersions.length (-1)) v10, 0)) (fun a i => (a, i)) p.fTables.length (fun v10 => some (ApiMix.mk (p.fNow.take p.fVersions.length) (List.replicate p.fVersions.length (-1)) v10, 0))
      (fun i a => a = (p.fTables.map (holdS p)).take i)
      (fun n i a hi ha => by
        subst ha
        have hx : p.fTables[i]? = some p.fTables[i] := by simp [hi]
        have hm : p.fTables[i] ∈ p.fTables := List.getElem_mem hi
        obtain ⟨n1, n2, n3, n4, _⟩ := now_at hv hm
        rw [Sh.sheaveref36_Start_L9, cnd_pos (by simp only; omega)]
        simp only [join_eq, idx_nat, hx, Option.bind_some, ref_stored_eq, wrap_succ (show i < 1000000 by omega)]
        have hT : (p.fTables.map (holdS p))[i]? = some (holdS p p.fTables[i]) := by rw [List.getElem?_map, hx]; rfl
        have hlen : ((p.fTables.map (holdS p)).take i).length + 1 ≤ lim := by simp [lim]; omega
        cases hs : storedB p.fTables[i]
        · rw [cnd_false, chk_bind_true (by simpa using hlen)]
          refine ⟨_, rfl, ?_⟩
          rw [List.take_add_one, hT]
          unfold holdS; rw [hs]; rfl
        · rw [cnd_true]
          have e1 : idx p.fNow p.fTables[i].fFrom = some (p.fNow.getD p.fTables[i].fFrom.toNat 0) := by
            obtain ⟨q, hq⟩ := Int.eq_ofNat_of_zero_le n1
            rw [hq]; exact idx_lt (by rw [hq] at n2; simpa using n2)
          rw [e1]
          simp only [Option.bind_some]
          rw [chk_bind_true n3, chk_bind_true (by simpa using hlen)]
          refine ⟨_, rfl, ?_⟩
          rw [List.take_add_one, hT]
          unfold holdS; rw [hs]; rfl)
      (fun n a ha => by rw [Sh.sheaveref36_Start_L9, cnd_neg (by simp)]) N 0 [] (Nat.zero_le _) (by omega) rfl
    have e3 : Sh.sheaveref36_Start_L9 N p (fun v10 => some (ApiMix.mk (p.fNow.take p.fVersions.length) (List.replicate p.fVersions.length (-1)) v10, 0)) N (([] : List Int), 0) = _ := e2
    rw [e3, hb]
    simp only [startM, ← hnow, List.take_length]
    rw [show p.fTables.length = (p.fTables.map (holdS p)).length from by simp, List.take_length]
  · rw [if_neg hv, bne_iff_ne.2 hv, cnd_true]
theorem start_ok {p : ApiProblem} (hv : validP p = 0) : MixOk p (startM p) := by
  obtain ⟨hp, hr⟩ := valid_prob hv
  have hnow := hp.now
  have hnx : ∀ i, i < p.fVersions.length → (List.replicate p.fNow.length (-1 : Int)).getD i 0 = -1 := fun i hi => by
    rw [List.getD_eq_getElem?_getD, List.getElem?_replicate, if_pos (by omega)]; rfl
  have hone : ∀ (i : Nat) (t : ApiTable), p.fTables[i]? = some t → ∃ b : Nat, b < 6 ∧ p.fNow.getD t.fFrom.toNat 0 = (b : Int) ∧ (b : Int) < p.fVersions.getD t.fFrom.toNat 0 ∧ t.fFrom.toNat < p.fVersions.length := fun i t ht => by
    obtain ⟨n1, n2, n3, n4, n5, n6⟩ := now_at hv (List.mem_of_getElem? ht)
    obtain ⟨b, hb⟩ := Int.eq_ofNat_of_zero_le n3
    exact ⟨b, by omega, hb, by omega, n6⟩
  have hbit : ∀ b : Nat, b < 8 → ∀ v, bitB (shlI .u8 1 (b : Int)) v = decide (b = v) := fun b hb v => by
    by_cases h : v < 8
    · exact (run_one ⟨b, hb⟩ ⟨v, h⟩).1
    · rw [bit_big (run_one ⟨b, hb⟩ ⟨0, by omega⟩).2.2 (by omega)]
      symm; apply decide_eq_false; omega
  refine { base := hnow, next := by simp [startM, hnow], held := by simp [startM], b0 := fun i hi => ⟨(hr i hi).1, (hr i hi).2.1⟩, n0 := fun i hi => ?_, ne := fun i hi => ?_, range := fun i hi => ?_, low := fun i t ht hs v hv' => ?_, high := fun i t ht hs v hb => ?_, none := fun i t ht hs => ?_ }
  · show -1 ≤ (List.replicate p.fNow.length (-1 : Int)).getD i 0 ∧ (List.replicate p.fNow.length (-1 : Int)).getD i 0 < _
    rw [hnx i hi]
    have := ver_at hp hi
    omega
  · show p.fNow.getD i 0 ≠ (List.replicate p.fNow.length (-1 : Int)).getD i 0
    rw [hnx i hi]
    have := hr i hi
    omega
  · have hx : p.fTables[i]? = some p.fTables[i] := by simp [hi]
    show 0 ≤ (p.fTables.map (holdS p)).getD i 0 ∧ (p.fTables.map (holdS p)).getD i 0 ≤ 255
    rw [holdS_at hx]
    unfold holdS
    split
    · obtain ⟨b, h1, h2, _⟩ := hone i _ hx
      rw [h2]
      exact (run_one ⟨b, by omega⟩ ⟨0, by omega⟩).2
    · omega
  · show bitB ((p.fTables.map (holdS p)).getD i 0) v = true
    obtain ⟨b, h1, h2, h3, h4⟩ := hone i t ht
    rw [holdS_at ht]
    unfold holdS
    rw [if_pos hs, h2, hbit b (by omega)]
    unfold runB at hv'
    have h5 : (startM p).fBase.getD t.fFrom.toNat 0 = (b : Int) := h2
    have h6 : (startM p).fNext.getD t.fFrom.toNat 0 = -1 := hnx _ h4
    rw [h5, h6, Bool.or_eq_true, decide_eq_true_iff, decide_eq_true_iff] at hv'
    apply decide_eq_true; omega
  · have hb : bitB ((p.fTables.map (holdS p)).getD i 0) v = true := hb
    obtain ⟨b, h1, h2, h3, h4⟩ := hone i t ht
    rw [holdS_at ht] at hb
    unfold holdS at hb
    rw [if_pos hs, h2, hbit b (by omega), decide_eq_true_iff] at hb
    omega
  · show (p.fTables.map (holdS p)).getD i 0 = 0
    rw [holdS_at ht]; unfold holdS; rw [hs]; rfl
theorem start_valid {p : ApiProblem} (hv : validP p = 0) : validM p (startM p) = 0 := ok_valid hv (start_ok hv)
end Go.Lift

/- Bits of sets of versions: or, and-not, the lowest bit. -/
namespace Go.Lift
open Go
theorem wrap_u8_nat (x : BitVec 8) : IntKind.wrap .u8 (x.toNat : Int) = (x.toNat : Int) := by
  have := x.isLt
  simp [IntKind.wrap, IntKind.signed, IntKind.bits]
  omega
theorem bv_range (x : BitVec 8) : 0 ≤ (x.toNat : Int) ∧ (x.toNat : Int) ≤ 255 := by
  have := x.isLt
  omega
theorem bv_bit (x : BitVec 8) (v : Nat) : bitB (x.toNat : Int) v = x.getLsbD v := by
  unfold bitB; rw [Int.toNat_natCast]; rfl
theorem of_bit {a : Int} (ha : 0 ≤ a ∧ a ≤ 255) (v : Nat) : (BitVec.ofInt 8 a).getLsbD v = bitB a v := by
  obtain ⟨a, rfl⟩ := Int.eq_ofNat_of_zero_le ha.1
  unfold BitVec.getLsbD bitB
  rw [u8_bv (by omega), Int.toNat_natCast]
theorem andNot_bit {a b : Int} (ha : 0 ≤ a ∧ a ≤ 255) (hb : 0 ≤ b ∧ b ≤ 255) : (∀ v, bitB (andNotI .u8 a b) v = (bitB a v && !bitB b v)) ∧ 0 ≤ andNotI .u8 a b ∧ andNotI .u8 a b ≤ 255 := by
  have e : andNotI .u8 a b = ((BitVec.ofInt 8 a &&& ~~~BitVec.ofInt 8 b).toNat : Int) := wrap_u8_nat (BitVec.ofInt 8 a &&& ~~~BitVec.ofInt 8 b)
  rw [e]
  refine ⟨fun v => ?_, bv_range _⟩
  rw [bv_bit, BitVec.getLsbD_and, BitVec.getLsbD_not, of_bit ha, of_bit hb]
  by_cases h : v < 8
  · simp [h]
  · rw [bit_big ha.2 (by omega)]; simp
theorem or_bit {a b : Int} (ha : 0 ≤ a ∧ a ≤ 255) (hb : 0 ≤ b ∧ b ≤ 255) : (∀ v, bitB (orI .u8 a b) v = (bitB a v || bitB b v)) ∧ 0 ≤ orI .u8 a b ∧ orI .u8 a b ≤ 255 := by
  have e : orI .u8 a b = ((BitVec.ofInt 8 a ||| BitVec.ofInt 8 b).toNat : Int) := wrap_u8_nat (BitVec.ofInt 8 a ||| BitVec.ofInt 8 b)
  rw [e]
  refine ⟨fun v => ?_, bv_range _⟩
  rw [bv_bit, BitVec.getLsbD_or, of_bit ha, of_bit hb]
theorem one_bit {b : Nat} (hb : b < 8) : (∀ v, bitB (shlI .u8 1 (b : Int)) v = decide (b = v)) ∧ 0 ≤ shlI .u8 1 (b : Int) ∧ shlI .u8 1 (b : Int) ≤ 255 := by
  refine ⟨fun v => ?_, (run_one ⟨b, hb⟩ ⟨0, by omega⟩).2⟩
  by_cases h : v < 8
  · exact (run_one ⟨b, hb⟩ ⟨v, h⟩).1
  · rw [bit_big (run_one ⟨b, hb⟩ ⟨0, by omega⟩).2.2 (by omega)]
    symm; apply decide_eq_false; omega
theorem has_eq (N : Nat) {s : Int} {v : Nat} (hs : 0 ≤ s ∧ s ≤ 255) (hv : v < 8) : Sh.sheaveref36_Has N s (v : Int) = some (bitB s v) := by
  unfold Sh.sheaveref36_Has
  rw [chk_bind_true (by omega), has_bit hs.1 hs.2 hv]
  cases bitB s v <;> rfl
def tzF (v : Nat) : Nat := ((List.range 8).find? fun u => v.testBit u).getD 8
def pcF (v : Nat) : Nat := ((List.range 8).filter fun u => v.testBit u).length
theorem tz_all : ∀ v : Fin 256, Sh.math_bits_TrailingZeros8 0 (v.val : Int) = some (tzF v.val : Int) := by decide +kernel
theorem tz_eq (N : Nat) {v : Nat} (h : v < 256) : Sh.math_bits_TrailingZeros8 N (v : Int) = some (tzF v : Int) := tz_all ⟨v, h⟩
theorem low_all : ∀ v : Fin 256, v.val ≠ 0 → tzF v.val < 8 ∧ bitB (v.val : Int) (tzF v.val) = true ∧ 0 ≤ andI .u8 (v.val : Int) (IntKind.wrap .u8 ((v.val : Int) - 1)) ∧ andI .u8 (v.val : Int) (IntKind.wrap .u8 ((v.val : Int) - 1)) ≤ 255 ∧
    pcF (andI .u8 (v.val : Int) (IntKind.wrap .u8 ((v.val : Int) - 1))).toNat + 1 = pcF v.val ∧
    ∀ u : Fin 8, bitB (andI .u8 (v.val : Int) (IntKind.wrap .u8 ((v.val : Int) - 1))) u.val = (bitB (v.val : Int) u.val && decide (u.val ≠ tzF v.val)) := by decide +kernel
theorem pc_le (v : Nat) : pcF v ≤ 8 := by
  have := List.length_filter_le (fun u => v.testBit u) (List.range 8)
  simpa [pcF] using this
theorem rew_loop (N : Nat) (t : ApiTable) (b : Int) (rw_ : Nat → Bool) : ∀ (k n v : Nat), pcF v ≤ k → k < n → v < 256 →
    (∀ u, u < 8 → bitB (v : Int) u = true → ∃ row, idx t.fRewrite (u : Int) = some row ∧ idx row b = some (rw_ u)) →
    Sh.step_rewritable_L1 N t b (fun _ => some true) n (v : Int) = some ((List.range 8).all fun u => !bitB (v : Int) u || rw_ u)
  | k, 0, v, _, h, _, _ => by omega
  | k, n + 1, v, hk, hn, hv, hr => by
    rw [Sh.step_rewritable_L1]
    by_cases h0 : v = 0
    · subst h0
      have : (((0 : Nat) : Int) != 0) = false := rfl
      rw [this, cnd_false]
      congr 1
    · have h1 : ((v : Int) != 0) = true := bne_iff_ne.2 (by omega)
      obtain ⟨l1, l2, l3, l4, l5, l6⟩ := low_all ⟨v, hv⟩ h0
      simp only at l1 l2 l3 l4 l5 l6
      obtain ⟨row, e1, e2⟩ := hr _ l1 l2
      rw [h1, cnd_true, tz_eq N hv]
      simp only [Option.bind_some, e1, e2]
      obtain ⟨w, hw⟩ := Int.eq_ofNat_of_zero_le l3
      rw [hw] at l4 l5 l6 ⊢
      rw [Int.toNat_natCast] at l5
      cases hq : rw_ (tzF v)
      · rw [Bool.not_false, cnd_true]
        congr 1
        symm
        rw [List.all_eq_false]
        exact ⟨tzF v, by simpa using l1, by rw [l2, hq]; simp⟩
      · rw [Bool.not_true, cnd_false]
        match k, hk with
        | 0, hk => exfalso; omega
        | k + 1, hk =>
        rw [rew_loop N t b rw_ k n w (by omega) (by omega) (by omega) (fun u hu hb => hr u hu (by have := l6 ⟨u, hu⟩; simp only at this; rw [hb] at this; simpa using (Bool.and_eq_true_iff.1 this.symm).1))]
        congr 1
        rw [Bool.eq_iff_iff, List.all_eq_true, List.all_eq_true]
        refine ⟨fun h u hu => ?_, fun h u hu => ?_⟩
        · have hu8 : u < 8 := by simpa using hu
          have h3 := h u hu
          have h4 := l6 ⟨u, hu8⟩
          simp only at h4
          rw [h4] at h3
          by_cases e : u = tzF v
          · rw [e, hq]; simp
          · simpa [e] using h3
        · have hu8 : u < 8 := by simpa using hu
          have h3 := h u hu
          have h4 := l6 ⟨u, hu8⟩
          simp only at h4
          rw [h4]
          cases hb : bitB (v : Int) u
          · simp
          · rw [hb] at h3; simp at h3; simp [h3]
end Go.Lift

/- Steps: both implementations give one answer. -/
namespace Go.Lift
open Go
theorem step_run_eq (N : Nat) (m : ApiMix) (s : Int) (h0 : 0 ≤ s) (h1 : s < (m.fBase.length : Int)) (h2 : s < (m.fNext.length : Int)) (hb : 0 ≤ m.fBase.getD s.toNat 0) : Sh.step_running N m s = some (runM m s.toNat) := by
  unfold Sh.step_running runM
  rw [idx_in (d := 0) h0 h1, idx_in (d := 0) h0 h2]
  simp only [Option.bind_some, join]
  rw [show chk (0 ≤ m.fBase.getD s.toNat 0) = some () from by unfold chk; rw [if_pos hb]]
  simp only [Option.bind_some]
  by_cases h : 0 ≤ m.fNext.getD s.toNat 0
  · rw [cnd_pos h, if_pos h, show chk (0 ≤ m.fNext.getD s.toNat 0) = some () from by unfold chk; rw [if_pos h]]; rfl
  · rw [cnd_neg h, if_neg h]
theorem step_stored_eq (N : Nat) (t : ApiTable) : Sh.step_stored N t = some (storedB t) := by
  unfold Sh.step_stored storedB
  simp only [join]
  cases h : t.fKind == 3 <;> simp
def stepV (s : ApiStep) : Bool := decide (1 ≤ s.fKind ∧ s.fKind ≤ 4 ∧ 0 ≤ s.fIndex ∧ 0 ≤ s.fVersion) && (s.fKind == 1 || s.fVersion == 0)
def stepX (p : ApiProblem) (s : ApiStep) : Bool :=
  if s.fKind = 3 then decide (s.fIndex < (p.fTables.length : Int)) else decide (s.fIndex < (p.fVersions.length : Int)) && (s.fKind != 1 || decide (s.fVersion < p.fVersions.getD s.fIndex.toNat 0))
theorem step_valid_eq (N : Nat) (s : ApiStep) : Sh.step_valid N s = some (stepV s) := by
  unfold Sh.step_valid stepV minI
  simp only [join]
  by_cases h1 : (if s.fVersion < s.fIndex then s.fVersion else s.fIndex) < 0
  · rw [cnd_pos h1, cnd_true, decide_eq_false (by split at h1 <;> omega)]; rfl
  · rw [cnd_neg h1]
    by_cases h2 : s.fKind < 1
    · rw [cnd_pos h2, cnd_true, decide_eq_false (by omega)]; rfl
    · rw [cnd_neg h2]
      by_cases h3 : 4 < s.fKind
      · rw [decide_eq_true h3, cnd_true, decide_eq_false (by omega)]; rfl
      · rw [decide_eq_false h3, cnd_false, decide_eq_true (by split at h1 <;> omega), Bool.true_and]
        cases h4 : s.fKind == 1 <;> simp
theorem ref_stepv_eq (N : Nat) (s : ApiStep) : Sh.sheaveref37_Valid N s = some (stepV s) := by
  unfold Sh.sheaveref37_Valid stepV
  simp only [join]
  by_cases h1 : 1 ≤ s.fKind
  · rw [cnd_pos h1]
    by_cases h2 : s.fKind ≤ 4
    · rw [cnd_pos h2]
      by_cases h3 : 0 ≤ s.fIndex
      · rw [cnd_pos h3]
        by_cases h4 : 0 ≤ s.fVersion
        · rw [cnd_pos h4, decide_eq_true (by omega), Bool.true_and]
          cases h5 : s.fKind == 1 <;> simp
        · rw [cnd_neg h4, decide_eq_false (by omega)]; rfl
      · rw [cnd_neg h3, decide_eq_false (by omega)]; rfl
    · rw [cnd_neg h2, decide_eq_false (by omega)]; rfl
  · rw [cnd_neg h1, decide_eq_false (by omega)]; rfl
theorem step_exists_eq (N : Nat) (p : ApiProblem) (s : ApiStep) (hv : stepV s = true) : Sh.step_exists N p s = some (stepX p s) := by
  have h0 : 0 ≤ s.fIndex := by
    unfold stepV at hv
    rw [Bool.and_eq_true, decide_eq_true_iff] at hv
    exact hv.1.2.2.1
  unfold Sh.step_exists stepX
  simp only [join]
  by_cases h1 : s.fKind = 3
  · rw [if_pos h1, beq_iff_eq.2 h1, cnd_true]
  · rw [if_neg h1, beq_eq_false_iff_ne.2 h1, cnd_false]
    by_cases h2 : s.fIndex < (p.fVersions.length : Int)
    · rw [cnd_pos h2, decide_eq_true h2, Bool.true_and]
      cases h3 : s.fKind != 1
      · rw [cnd_false, idx_in (d := 0) h0 h2, Bool.false_or]; rfl
      · rw [cnd_true]; rfl
    · rw [cnd_neg h2, decide_eq_false h2]; rfl
def upC (s : ApiStep) (t : ApiTable) : Bool := t.fFrom == s.fIndex && storedB t
def upF (s : ApiStep) (i : Nat) (t : ApiTable) (a : List Int) : List Int := if upC s t = true then a.set i (orI .u8 (a.getD i 0) (shlI .u8 1 s.fVersion)) else a
def upHeld (p : ApiProblem) (s : ApiStep) (held : List Int) : List Int := foldI (upF s) 0 p.fTables held
theorem step_start_loop {R : Type} (N : Nat) (p : ApiProblem) (s : ApiStep) (held : List Int) (hv : 0 ≤ s.fVersion) (hl : held.length = p.fTables.length) (h12 : p.fTables.length < N) (hN : N ≤ 1000000) (j : List Int → Option (Bool × List Int × List Int)) :
    Sh.step_start_L7 N p s j N (held, 0) = j (upHeld p s held) ∧ (upHeld p s held).length = p.fTables.length := by
  have := loop_fold (Sh.step_start_L7 N p s j) (fun a i => (a, i)) p.fTables j (upF s) (fun i a => a.length = p.fTables.length)
    (fun n i x a hx ha => by
      have hi := (List.getElem?_eq_some_iff.1 hx).1
      rw [Sh.step_start_L7, cnd_pos (by simp only; omega)]
      simp only [join_eq, idx_nat, hx, Option.bind_some, step_stored_eq, wrap_succ (show i < 1000000 by omega)]
      have e2 : a[i]? = some (a.getD i 0) := by rw [List.getD_eq_getElem?_getD]; simp [show i < a.length from by omega]
      unfold upF upC
      cases h1 : x.fFrom == s.fIndex
      · rw [cnd_false, cnd_false, Bool.false_and, if_neg (by simp)]; exact ⟨rfl, ha⟩
      · rw [cnd_true, Bool.true_and]
        cases h2 : storedB x
        · rw [cnd_false, if_neg (by simp)]; exact ⟨rfl, ha⟩
        · rw [cnd_true, e2, if_pos rfl]
          simp only [Option.bind_some]
          rw [chk_bind_true hv]
          exact ⟨rfl, by simpa using ha⟩)
    (fun n a ha => by rw [Sh.step_start_L7, cnd_neg (by simp)]) N 0 held (Nat.zero_le _) (by omega) hl
  rw [List.drop_zero] at this
  exact this
theorem ref_start_loop (N : Nat) (p : ApiProblem) (s : ApiStep) (held : List Int) (hv : 0 ≤ s.fVersion) (hl : held.length = p.fTables.length) (h12 : p.fTables.length < N) (hN : N ≤ 1000000) (j : List Int → Option (ApiMix × Bool)) :
    Sh.sheaveref37_After_L12 N p s j N (held, 0) = j (upHeld p s held) := by
  have := loop_fold (Sh.sheaveref37_After_L12 N p s j) (fun a i => (a, i)) p.fTables j (upF s) (fun i a => a.length = p.fTables.length)
    (fun n i x a hx ha => by
      have hi := (List.getElem?_eq_some_iff.1 hx).1
      rw [Sh.sheaveref37_After_L12, cnd_pos (by simp only; omega)]
      simp only [join_eq, idx_nat, hx, Option.bind_some, ref_stored_eq, wrap_succ (show i < 1000000 by omega)]
      have e2 : a[i]? = some (a.getD i 0) := by rw [List.getD_eq_getElem?_getD]; simp [show i < a.length from by omega]
      unfold upF upC
      cases h1 : x.fFrom == s.fIndex
      · rw [cnd_false, cnd_false, Bool.false_and, if_neg (by simp)]; exact ⟨rfl, ha⟩
      · rw [cnd_true, Bool.true_and]
        cases h2 : storedB x
        · rw [cnd_false, if_neg (by simp)]; exact ⟨rfl, ha⟩
        · rw [cnd_true, e2, if_pos rfl]
          simp only [Option.bind_some]
          rw [chk_bind_true hv]
          exact ⟨rfl, by simpa using ha⟩)
    (fun n a ha => by rw [Sh.sheaveref37_After_L12, cnd_neg (by simp)]) N 0 held (Nat.zero_le _) (by omega) hl
  rw [List.drop_zero] at this
  exact this.1
def rewAt (m : ApiMix) (t : ApiTable) (u : Nat) : Bool := (t.fRewrite.getD u []).getD (m.fBase.getD t.fFrom.toNat 0).toNat false
def oldB (m : ApiMix) (i : Nat) (t : ApiTable) (u : Nat) : Bool := bitB (m.fHeld.getD i 0) u && !runB m t.fFrom.toNat u
def stuckB (p : ApiProblem) (m : ApiMix) (i : Nat) (t : ApiTable) : Bool := t.fKind == 4 && (List.range 8).any fun u => oldB m i t u && !rewAt m t u
def afterP (p : ApiProblem) (m : ApiMix) (s : ApiStep) : Option ApiMix :=
  let i := s.fIndex.toNat
  if s.fKind = 1 then (if 0 ≤ m.fNext.getD i 0 ∨ m.fBase.getD i 0 = s.fVersion then none else some ⟨m.fBase, m.fNext.set i s.fVersion, upHeld p s m.fHeld⟩)
  else if s.fKind = 3 then match p.fTables[i]? with
    | none => none
    | some t => if storedB t = false ∨ m.fHeld.getD i 0 = runM m t.fFrom.toNat ∨ stuckB p m i t = true then none else some ⟨m.fBase, m.fNext, m.fHeld.set i (runM m t.fFrom.toNat)⟩
  else if m.fNext.getD i 0 < 0 then none
  else some ⟨if s.fKind = 2 then m.fBase.set i (m.fNext.getD i 0) else m.fBase, m.fNext.set i (-1), m.fHeld⟩
def applyP (p : ApiProblem) (m : ApiMix) (s : ApiStep) : ApiMix × Int :=
  if stepV s = false then (zeroM, 1) else if stepX p s = false then (zeroM, 4) else match afterP p m s with
    | none => (zeroM, 11)
    | some x => (x, 0)
end Go.Lift

/- Steps: clearing, and the whole of Apply. -/
namespace Go.Lift
open Go
section clear
variable {p : ApiProblem} {m : ApiMix} {i : Nat} {t : ApiTable}
theorem old_lt (hp : ProbOk p) (hm : MixOk p m) (ht : p.fTables[i]? = some t) (hs : storedB t = true) {u : Nat} (h : bitB (m.fHeld.getD i 0) u = true) : (u : Int) < p.fVersions.getD t.fFrom.toNat 0 ∧ u < 6 ∧ t.fFrom.toNat < p.fVersions.length := by
  have h1 := hm.high i t ht hs u h
  have hin := tab_in (hp.tab t (List.mem_of_getElem? ht))
  have h2 := ver_at hp (i := t.fFrom.toNat) (by omega)
  exact ⟨h1, by omega, by omega⟩
theorem rew_at (hp : ProbOk p) (hm : MixOk p m) (ht : p.fTables[i]? = some t) (hs : storedB t = true) (h4 : t.fKind = 4) {u : Nat} (h : bitB (m.fHeld.getD i 0) u = true) :
    idx t.fRewrite (u : Int) = some (t.fRewrite.getD u []) ∧ idx (t.fRewrite.getD u []) (m.fBase.getD t.fFrom.toNat 0) = some (rewAt m t u) := by
  have hT := tab_ok (hp.tab t (List.mem_of_getElem? ht))
  obtain ⟨h1, h2, h3⟩ := old_lt hp hm ht hs h
  have hl := hT.reL h4
  have e : t.fRewrite[u]? = some (t.fRewrite.getD u []) := by rw [List.getD_eq_getElem?_getD]; simp [show u < t.fRewrite.length from by omega]
  have hr := hT.reR _ (List.mem_of_getElem? e)
  have hb := hm.b0 t.fFrom.toNat h3
  refine ⟨by rw [idx_nat, e], ?_⟩
  unfold rewAt
  obtain ⟨b, hb'⟩ := Int.eq_ofNat_of_zero_le hb.1
  rw [hb'] at hb ⊢
  rw [Int.toNat_natCast]
  exact idx_lt (by omega)
theorem step_clear_eq (N : Nat) (hN : N ≤ 1000000) (h20 : 100 ≤ N) (hp : ProbOk p) (hm : MixOk p m) (ht : p.fTables[i]? = some t) :
    Sh.step_clear N p m (i : Int) = some (if storedB t = false ∨ m.fHeld.getD i 0 = runM m t.fFrom.toNat ∨ stuckB p m i t = true then (false, m.fHeld) else (true, m.fHeld.set i (runM m t.fFrom.toNat))) := by
  have hi := (List.getElem?_eq_some_iff.1 ht).1
  have hin := tab_in (hp.tab t (List.mem_of_getElem? ht))
  have hb := hm.base
  have hnx := hm.next
  have hh := hm.held
  have hr := serv_run hp hm.toMixServ (s := t.fFrom.toNat) (by omega)
  have hrg := hm.range i hi
  have eh : idx m.fHeld (i : Int) = some (m.fHeld.getD i 0) := idx_lt (by omega)
  unfold Sh.step_clear
  simp only [join_eq, idx_nat, ht, Option.bind_some, step_stored_eq]
  have eh' : m.fHeld[i]? = some (m.fHeld.getD i 0) := by rw [← idx_nat, eh]
  cases hs : storedB t
  · rw [Bool.not_false, cnd_true, if_pos (.inl rfl)]
  · rw [Bool.not_true, cnd_false, step_run_eq N m _ hin.1 (by omega) (by omega) (hm.b0 _ (by omega)).1]
    simp only [Option.bind_some, eh']
    by_cases h1 : m.fHeld.getD i 0 = runM m t.fFrom.toNat
    · rw [beq_iff_eq.2 h1, cnd_true, cnd_true, if_pos (.inr (.inl h1))]
    · rw [beq_eq_false_iff_ne.2 h1, cnd_false]
      by_cases h4 : t.fKind = 4
      · rw [beq_iff_eq.2 h4, cnd_true, idx_in (d := 0) hin.1 (by omega)]
        simp only [Option.bind_some]
        obtain ⟨a1, a2, a3⟩ := andNot_bit hrg hr.2
        obtain ⟨w, hw⟩ := Int.eq_ofNat_of_zero_le a2
        unfold Sh.step_rewritable
        rw [hw] at a1 a3 ⊢
        rw [rew_loop N t _ (rewAt m t) 8 N w (pc_le _) (by omega) (by omega) (fun u hu hbu => by
          have := a1 u; rw [hbu] at this
          exact ⟨_, rew_at hp hm ht hs h4 (Bool.and_eq_true_iff.1 this.symm).1⟩)]
        simp only [Option.bind_some]
        have e : (!(List.range 8).all fun u => !bitB (w : Int) u || rewAt m t u) = stuckB p m i t := by
          unfold stuckB
          rw [beq_iff_eq.2 h4, Bool.true_and, List.not_all_eq_any_not]
          congr 1
          funext u
          rw [a1 u, hr.1 u]
          unfold oldB
          cases bitB (m.fHeld.getD i 0) u <;> cases runB m t.fFrom.toNat u <;> cases rewAt m t u <;> rfl
        rw [e]
        cases hst : stuckB p m i t
        · rw [cnd_false, if_neg (by rintro (h | h | h); cases h; exact h1 h; cases h)]; rfl
        · rw [cnd_true, if_pos (.inr (.inr rfl))]
      · have e : stuckB p m i t = false := by unfold stuckB; rw [beq_eq_false_iff_ne.2 h4]; rfl
        rw [beq_eq_false_iff_ne.2 h4, cnd_false, cnd_false, e, if_neg (by rintro (h | h | h); cases h; exact h1 h; cases h)]; rfl
theorem ref_clear_loop (N : Nat) (hN : N ≤ 1000000) (h20 : 100 ≤ N) (hp : ProbOk p) (hm : MixOk p m) (ht : p.fTables[i]? = some t) (hs : storedB t = true) (s : ApiStep) (hsi : s.fIndex = (i : Int)) (j : Option (ApiMix × Bool)) :
    Sh.sheaveref37_After_L38 N p m s t (runM m t.fFrom.toNat) (fun _ => j) N 0 = if stuckB p m i t = true then some (zeroM, false) else j := by
  have hi := (List.getElem?_eq_some_iff.1 ht).1
  have hin := tab_in (hp.tab t (List.mem_of_getElem? ht))
  have hb := hm.base
  have hh := hm.held
  have hr := serv_run hp hm.toMixServ (s := t.fFrom.toNat) (by omega)
  have hrg := hm.range i hi
  have hver := ver_at hp (i := t.fFrom.toNat) (by omega)
  obtain ⟨nv, hnv⟩ := Int.eq_ofNat_of_zero_le (show 0 ≤ p.fVersions.getD t.fFrom.toNat 0 by omega)
  have eh' : m.fHeld[i]? = some (m.fHeld.getD i 0) := by rw [List.getD_eq_getElem?_getD]; simp [show i < m.fHeld.length from by omega]
  have := loop_scan (Sh.sheaveref37_After_L38 N p m s t (runM m t.fFrom.toNat) fun _ => j) (List.range nv) j (fun u _ => if (oldB m i t u && (t.fKind == 4 && !rewAt m t u)) = true then some (zeroM, false) else none)
    (fun n u x hx => by
      have hu : u < nv := by
        have := (List.getElem?_eq_some_iff.1 hx).1
        simpa using this
      rw [Sh.sheaveref37_After_L38, idx_in (d := 0) hin.1 (by omega), hnv]
      simp only [Option.bind_some]
      rw [cnd_pos (by omega)]
      simp only [join_eq, hsi, idx_nat, eh', Option.bind_some]
      rw [has_eq N hrg (by omega), wrap_succ (by omega)]
      simp only [Option.bind_some]
      cases h1 : bitB (m.fHeld.getD i 0) u
      · have e : oldB m i t u = false := by unfold oldB; rw [h1]; rfl
        rw [cnd_false, cnd_false, cnd_false, e]; rfl
      · rw [cnd_true, has_eq N hr.2 (by omega), hr.1 u]
        simp only [Option.bind_some]
        have e : oldB m i t u = !runB m t.fFrom.toNat u := by unfold oldB; rw [h1]; rfl
        rw [← e]
        cases h2 : oldB m i t u
        · rw [cnd_false, cnd_false]; rfl
        · rw [cnd_true]
          by_cases h4 : t.fKind = 4
          · obtain ⟨e1, e2⟩ := rew_at hp hm ht hs h4 h1
            rw [idx_nat] at e1
            rw [beq_iff_eq.2 h4, cnd_true, e1, idx_in (d := 0) hin.1 (by omega)]
            simp only [Option.bind_some]
            rw [e2]
            simp only [Option.bind_some]
            cases rewAt m t u <;> rfl
          · rw [beq_eq_false_iff_ne.2 h4, cnd_false, cnd_false]; rfl)
    (fun n => by
      rw [Sh.sheaveref37_After_L38, idx_in (d := 0) hin.1 (by omega), hnv]
      simp only [Option.bind_some, List.length_range]
      rw [cnd_neg (by omega)]) N 0 (Nat.zero_le _) (by simp; omega)
  have e0 : Sh.sheaveref37_After_L38 N p m s t (runM m t.fFrom.toNat) (fun _ => j) N 0 = _ := this
  rw [e0, List.drop_zero]
  by_cases hst : stuckB p m i t = true
  · rw [if_pos hst]
    unfold stuckB at hst
    rw [Bool.and_eq_true, List.any_eq_true] at hst
    obtain ⟨h4, u, hu, h5⟩ := hst
    rw [Bool.and_eq_true] at h5
    have h6 : bitB (m.fHeld.getD i 0) u = true := by have := h5.1; unfold oldB at this; exact (Bool.and_eq_true_iff.1 this).1
    have h7 := old_lt hp hm ht hs h6
    cases hsc : scan (fun u (_ : Nat) => if (oldB m i t u && (t.fKind == 4 && !rewAt m t u)) = true then some (zeroM, false) else none) 0 (List.range nv) with
    | some r =>
      obtain ⟨q, x, hx, hf⟩ := scan_some hsc
      split at hf
      · cases hf; rfl
      · cases hf
    | none =>
      exfalso
      have hx : (List.range nv)[u]? = some u := List.getElem?_range (by omega)
      have := scan_none hsc u u hx
      rw [Nat.zero_add, h5.1, h4, h5.2] at this
      cases this
  · rw [if_neg hst]
    have : scan (fun u (_ : Nat) => if (oldB m i t u && (t.fKind == 4 && !rewAt m t u)) = true then some (zeroM, false) else none) 0 (List.range nv) = none := scan_none_of fun q x hx => by
      rw [Nat.zero_add]
      split
      · rename_i h5
        exfalso; apply hst
        rw [Bool.and_eq_true, Bool.and_eq_true] at h5
        unfold stuckB
        rw [h5.2.1, Bool.true_and, List.any_eq_true]
        have hq : q < nv := by
          have := (List.getElem?_eq_some_iff.1 hx).1
          simpa using this
        exact ⟨q, List.mem_range.2 (by omega), by rw [h5.1, h5.2.2]; rfl⟩
      · rfl
    rw [this]; rfl
end clear
end Go.Lift

/- Apply: both implementations give applyP; a step leads from a valid mix to a valid mix. -/
namespace Go.Lift
open Go
theorem stepV_out {s : ApiStep} (h : stepV s = true) : 1 ≤ s.fKind ∧ s.fKind ≤ 4 ∧ 0 ≤ s.fIndex ∧ 0 ≤ s.fVersion ∧ (s.fKind ≠ 1 → s.fVersion = 0) := by
  unfold stepV at h
  rw [Bool.and_eq_true, decide_eq_true_iff, Bool.or_eq_true, beq_iff_eq, beq_iff_eq] at h
  exact ⟨h.1.1, h.1.2.1, h.1.2.2.1, h.1.2.2.2, fun hk => h.2.elim (fun e => (hk e).elim) id⟩
theorem stepX_out {p : ApiProblem} {s : ApiStep} (h : stepX p s = true) : (s.fKind = 3 → s.fIndex < (p.fTables.length : Int)) ∧ (s.fKind ≠ 3 → s.fIndex < (p.fVersions.length : Int)) ∧ (s.fKind = 1 → s.fVersion < p.fVersions.getD s.fIndex.toNat 0) := by
  unfold stepX at h
  split at h
  · rename_i hk
    rw [decide_eq_true_iff] at h
    exact ⟨fun _ => h, fun hn => (hn hk).elim, fun h1 => by omega⟩
  · rename_i hk
    rw [Bool.and_eq_true, decide_eq_true_iff, Bool.or_eq_true, decide_eq_true_iff, bne_iff_ne] at h
    exact ⟨fun h3 => (hk h3).elim, fun _ => h.1, fun h1 => h.2.elim (fun hn => (hn h1).elim) id⟩
theorem cloned_eq (N : Nat) {p : ApiProblem} {m : ApiMix} (hp : ProbOk p) (hm : MixOk p m) : Sh.step_cloned N m = some m := by
  have hnv := hp.nv
  have hnt := hp.nt
  have h1 := hm.base
  have h2 := hm.next
  have h3 := hm.held
  unfold Sh.step_cloned
  rw [clone_int N _ (by simp only [lim]; omega), clone_int N _ (by simp only [lim]; omega), clone_set N _ (by simp only [lim]; omega)]
  rfl
theorem step_after_eq (N : Nat) (hN : N ≤ 1000000) (h20 : 100 ≤ N) {p : ApiProblem} {m : ApiMix} (hp : ProbOk p) (hm : MixOk p m) {s : ApiStep} (hv : stepV s = true) (hx : stepX p s = true) :
    ∃ o, Sh.step_after N p m s = some (o, (afterP p m s).isSome) ∧ ∀ x, afterP p m s = some x → o = x := by
  obtain ⟨k1, k4, i0, v0, vk⟩ := stepV_out hv
  obtain ⟨x3, xn, x1⟩ := stepX_out hx
  have hnv := hp.nv
  have hnt := hp.nt
  have hb := hm.base
  have hn := hm.next
  have hh := hm.held
  obtain ⟨i, hi⟩ := Int.eq_ofNat_of_zero_le i0
  unfold Sh.step_after afterP
  rw [cloned_eq N hp hm]
  simp only [Option.bind_some, join_eq]
  by_cases hk1 : s.fKind = 1
  · have hi1 : (i : Int) < p.fVersions.length := by have := xn (by omega); omega
    rw [beq_iff_eq.2 hk1, cnd_true, if_pos hk1]
    unfold Sh.step_start
    simp only [join_eq, hi, Int.toNat_natCast]
    rw [idx_lt (d := 0) (show i < m.fNext.length by omega)]
    simp only [Option.bind_some]
    by_cases c1 : 0 ≤ m.fNext.getD i 0
    · rw [cnd_pos c1, cnd_true, if_pos (.inl c1)]
      exact ⟨_, rfl, fun x hx => by cases hx⟩
    · rw [cnd_neg c1, idx_lt (d := 0) (show i < m.fBase.length by omega)]
      simp only [Option.bind_some]
      by_cases c2 : m.fBase.getD i 0 = s.fVersion
      · rw [beq_iff_eq.2 c2, cnd_true, if_pos (.inr c2)]
        exact ⟨_, rfl, fun x hx => by cases hx⟩
      · rw [beq_eq_false_iff_ne.2 c2, cnd_false, (step_start_loop (R := Unit) N p s m.fHeld v0 hh (by omega) hN _).1, if_neg (by rintro (h | h); exact c1 h; exact c2 h)]
        exact ⟨_, rfl, fun x hx => by cases hx; rfl⟩
  · rw [beq_eq_false_iff_ne.2 hk1, cnd_false, if_neg hk1]
    by_cases hk3 : s.fKind = 3
    · have hi3 : i < p.fTables.length := by have := x3 hk3; omega
      have ht : p.fTables[i]? = some p.fTables[i] := by simp [hi3]
      rw [beq_iff_eq.2 hk3, cnd_true, if_pos hk3, hi, step_clear_eq N hN h20 hp hm ht]
      simp only [Option.bind_some, Int.toNat_natCast, ht]
      split
      · exact ⟨_, rfl, fun x hx => by cases hx⟩
      · exact ⟨_, rfl, fun x hx => by cases hx; rfl⟩
    · have hi1 : (i : Int) < p.fVersions.length := by have := xn hk3; omega
      rw [beq_eq_false_iff_ne.2 hk3, cnd_false, if_neg hk3, hi, idx_lt (d := 0) (show i < m.fNext.length by omega)]
      simp only [Option.bind_some, Int.toNat_natCast]
      by_cases c1 : m.fNext.getD i 0 < 0
      · rw [cnd_pos c1, if_pos c1]
        exact ⟨_, rfl, fun x hx => by cases hx⟩
      · rw [cnd_neg c1, if_neg c1]
        by_cases hk2 : s.fKind = 2
        · rw [beq_iff_eq.2 hk2, cnd_true, idx_lt (d := 0) (show i < m.fBase.length by omega), if_pos hk2]
          exact ⟨_, rfl, fun x hx => by cases hx; rfl⟩
        · rw [beq_eq_false_iff_ne.2 hk2, cnd_false, if_neg hk2]
          exact ⟨_, rfl, fun x hx => by cases hx; rfl⟩
theorem step_apply_eq (N : Nat) (hN : N ≤ 1000000) (h20 : 100 ≤ N) {p : ApiProblem} {m : ApiMix} (hp : ProbOk p) (hm : MixOk p m) (s : ApiStep) : Sh.step_apply N p m s = some (applyP p m s) := by
  unfold Sh.step_apply applyP
  rw [step_valid_eq]
  simp only [Option.bind_some]
  cases hv : stepV s
  · rw [Bool.not_false, cnd_true, if_pos rfl]; rfl
  · rw [Bool.not_true, cnd_false, if_neg (by simp), step_exists_eq N p s hv]
    simp only [Option.bind_some]
    cases hx : stepX p s
    · rw [Bool.not_false, cnd_true, if_pos rfl]; rfl
    · rw [Bool.not_true, cnd_false, if_neg (by simp)]
      obtain ⟨o, e, ho⟩ := step_after_eq N hN h20 hp hm hv hx
      rw [e]
      simp only [Option.bind_some]
      cases ha : afterP p m s with
      | none => rfl
      | some x => rw [ho x ha]; rfl
theorem ref_after_eq (N : Nat) (hN : N ≤ 1000000) (h20 : 100 ≤ N) {p : ApiProblem} {m : ApiMix} (hp : ProbOk p) (hm : MixOk p m) {s : ApiStep} (hv : stepV s = true) (hx : stepX p s = true) :
    Sh.sheaveref37_After N p m s = some (match afterP p m s with | none => (zeroM, false) | some x => (x, true)) := by
  obtain ⟨k1, k4, i0, v0, vk⟩ := stepV_out hv
  obtain ⟨x3, xn, x1⟩ := stepX_out hx
  have hnv := hp.nv
  have hnt := hp.nt
  have hb := hm.base
  have hn := hm.next
  have hh := hm.held
  obtain ⟨i, hi⟩ := Int.eq_ofNat_of_zero_le i0
  unfold Sh.sheaveref37_After afterP
  rw [chk_bind_true (by simp [lim]; omega), chk_bind_true (by simp [lim]; omega), chk_bind_true (by simp [lim]; omega)]
  simp only [Option.bind_some, join_eq, List.nil_append]
  by_cases hk1 : s.fKind = 1
  · have hi1 : (i : Int) < p.fVersions.length := by have := xn (by omega); omega
    rw [beq_iff_eq.2 hk1, cnd_true, if_pos hk1]
    simp only [hi, Int.toNat_natCast]
    rw [idx_lt (d := 0) (show i < m.fNext.length by omega)]
    simp only [Option.bind_some]
    by_cases c1 : 0 ≤ m.fNext.getD i 0
    · rw [cnd_pos c1, cnd_true, if_pos (.inl c1)]; rfl
    · rw [cnd_neg c1, idx_lt (d := 0) (show i < m.fBase.length by omega)]
      simp only [Option.bind_some]
      by_cases c2 : m.fBase.getD i 0 = s.fVersion
      · rw [beq_iff_eq.2 c2.symm, cnd_true, if_pos (.inr c2)]; rfl
      · rw [beq_eq_false_iff_ne.2 (fun h => c2 h.symm), cnd_false, ref_start_loop N p s m.fHeld v0 hh (by omega) hN _, if_neg (by rintro (h | h); exact c1 h; exact c2 h)]
  · rw [beq_eq_false_iff_ne.2 hk1, cnd_false, if_neg hk1]
    by_cases hk3 : s.fKind = 3
    · have hi3 : i < p.fTables.length := by have := x3 hk3; omega
      have ht : p.fTables[i]? = some p.fTables[i] := by simp [hi3]
      have hin := tab_in (hp.tab _ (List.mem_of_getElem? ht))
      have eh' : idx m.fHeld (i : Int) = some (m.fHeld.getD i 0) := idx_lt (by omega)
      rw [beq_eq_false_iff_ne.2 (show s.fKind ≠ 2 by omega), cnd_false, beq_iff_eq.2 hk3, cnd_true, if_pos hk3, hi, idx_nat, ht]
      simp only [Option.bind_some, ref_stored_eq, Int.toNat_natCast, ht]
      cases hs : storedB p.fTables[i]
      · rw [Bool.not_false, cnd_true, if_pos (.inl rfl)]; rfl
      · rw [Bool.not_true, cnd_false, ref_run_eq N m _ hin.1 (by omega) (by omega) (hm.b0 _ (by omega)).1, eh']
        simp only [Option.bind_some]
        by_cases h1 : m.fHeld.getD i 0 = runM m (p.fTables[i]).fFrom.toNat
        · rw [beq_iff_eq.2 h1, cnd_true, if_pos (.inr (.inl h1))]; rfl
        · rw [beq_eq_false_iff_ne.2 h1, cnd_false]
          rw [ref_clear_loop N hN h20 hp hm ht hs s hi]
          cases hst : stuckB p m i p.fTables[i]
          · rw [if_neg (by simp), if_neg (by rintro (h | h | h); cases h; exact h1 h; cases h)]
          · rw [if_pos rfl, if_pos (.inr (.inr rfl))]
    · have hi1 : (i : Int) < p.fVersions.length := by have := xn hk3; omega
      rw [if_neg hk3, hi, idx_lt (d := 0) (show i < m.fNext.length by omega)]
      simp only [Option.bind_some, Int.toNat_natCast]
      by_cases hk2 : s.fKind = 2
      · rw [beq_iff_eq.2 hk2, cnd_true, if_pos hk2]
        by_cases c1 : m.fNext.getD i 0 < 0
        · rw [cnd_pos c1, if_pos c1]; rfl
        · rw [cnd_neg c1, if_neg c1, idx_lt (d := 0) (show i < m.fBase.length by omega)]; rfl
      · rw [beq_eq_false_iff_ne.2 hk2, cnd_false, beq_eq_false_iff_ne.2 hk3, cnd_false, if_neg hk2]
        by_cases c1 : m.fNext.getD i 0 < 0
        · rw [cnd_pos c1, if_pos c1]; rfl
        · rw [cnd_neg c1, if_neg c1]
end Go.Lift

/- A step leads from a valid mix to a valid mix; Apply of both implementations. -/
namespace Go.Lift
open Go
theorem upF_fold (s : ApiStep) : ∀ (xs : List ApiTable) (i : Nat) (a : List Int), i + xs.length ≤ a.length → (foldI (upF s) i xs a).length = a.length ∧ ∀ q, (foldI (upF s) i xs a).getD q 0 = match (if i ≤ q then xs[q - i]? else none) with
    | some t => if upC s t = true then orI .u8 (a.getD q 0) (shlI .u8 1 s.fVersion) else a.getD q 0
    | none => a.getD q 0
  | [], i, a, _ => by
    refine ⟨rfl, fun q => ?_⟩
    split
    · rename_i h; split at h
      · simp at h
      · cases h
    · rfl
  | x :: xs, i, a, hl => by
    have hl' : i + (xs.length + 1) ≤ a.length := by simpa using hl
    have ha : (upF s i x a).length = a.length := by unfold upF; split <;> simp
    obtain ⟨ih1, ih2⟩ := upF_fold s xs (i + 1) (upF s i x a) (by omega)
    refine ⟨by rw [foldI, ih1, ha], fun q => ?_⟩
    rw [foldI, ih2 q]
    have hu : (upF s i x a).getD q 0 = if q = i ∧ upC s x = true then orI .u8 (a.getD q 0) (shlI .u8 1 s.fVersion) else a.getD q 0 := by
      unfold upF
      by_cases hc : upC s x = true
      · rw [if_pos hc, getD_set (by omega)]
        by_cases hq : q = i
        · subst hq; rw [if_pos rfl, if_pos ⟨rfl, hc⟩]
        · rw [if_neg hq, if_neg (fun h => hq h.1)]
      · rw [if_neg hc, if_neg (fun h => hc h.2)]
    by_cases h1 : i + 1 ≤ q
    · rw [if_pos h1, if_pos (show i ≤ q by omega), hu, if_neg (by omega)]
      rw [show (x :: xs)[q - i]? = xs[q - (i + 1)]? from by rw [show q - i = (q - (i + 1)) + 1 from by omega, List.getElem?_cons_succ]]
    · rw [if_neg h1]
      by_cases h2 : q = i
      · subst h2
        rw [if_pos (Nat.le_refl _), Nat.sub_self, hu]
        simp
      · rw [if_neg (show ¬ i ≤ q by omega), hu, if_neg (by omega)]
theorem upHeld_at {p : ApiProblem} {s : ApiStep} {held : List Int} (hl : held.length = p.fTables.length) : (upHeld p s held).length = p.fTables.length ∧ ∀ q t, p.fTables[q]? = some t → (upHeld p s held).getD q 0 = if upC s t = true then orI .u8 (held.getD q 0) (shlI .u8 1 s.fVersion) else held.getD q 0 := by
  obtain ⟨h1, h2⟩ := upF_fold s p.fTables 0 held (by omega)
  refine ⟨h1.trans hl, fun q t ht => ?_⟩
  have := h2 q
  rw [if_pos (Nat.zero_le _), Nat.sub_zero, ht] at this
  exact this
theorem runB_iff {m : ApiMix} {s v : Nat} : runB m s v = true ↔ m.fBase.getD s 0 = (v : Int) ∨ m.fNext.getD s 0 = (v : Int) := by
  unfold runB; rw [Bool.or_eq_true, decide_eq_true_iff, decide_eq_true_iff]
theorem after_ok {p : ApiProblem} {m x : ApiMix} (hp : ProbOk p) (hm : MixOk p m) {s : ApiStep} (hv : stepV s = true) (hx : stepX p s = true) (h : afterP p m s = some x) : MixOk p x := by
  obtain ⟨k1, k4, i0, v0, vk⟩ := stepV_out hv
  obtain ⟨x3, xn, x1⟩ := stepX_out hx
  obtain ⟨i, hi⟩ := Int.eq_ofNat_of_zero_le i0
  have hb := hm.base
  have hn := hm.next
  have hh := hm.held
  unfold afterP at h
  simp only [hi, Int.toNat_natCast] at h
  rw [hi, Int.toNat_natCast] at x1
  split at h
  · rename_i hk1
    have hi1 : i < p.fVersions.length := by have := xn (by omega); omega
    have hx1 := x1 hk1
    have hvi := ver_at hp hi1
    split at h
    · cases h
    rename_i hc
    cases h
    obtain ⟨u1, u2⟩ := upHeld_at (s := s) hh
    obtain ⟨b, hbv⟩ := Int.eq_ofNat_of_zero_le v0
    have hob := one_bit (b := b) (by omega)
    have hN : ∀ q, (m.fNext.set i s.fVersion).getD q 0 = if q = i then s.fVersion else m.fNext.getD q 0 := fun q => getD_set (by omega)
    refine { base := hb, next := by simpa using hn, held := u1, b0 := hm.b0, n0 := fun q hq => ?_, ne := fun q hq => ?_, range := fun q hq => ?_, low := fun q t ht hs v hr => ?_, high := fun q t ht hs v hbit => ?_, none := fun q t ht hs => ?_ }
    · show -1 ≤ (m.fNext.set i s.fVersion).getD q 0 ∧ (m.fNext.set i s.fVersion).getD q 0 < _
      rw [hN q]
      split
      · rename_i e; subst e; omega
      · exact hm.n0 q hq
    · show m.fBase.getD q 0 ≠ (m.fNext.set i s.fVersion).getD q 0
      rw [hN q]
      split
      · rename_i e; subst e; exact fun h => hc (.inr h)
      · exact hm.ne q hq
    · have ht : p.fTables[q]? = some p.fTables[q] := by simp [hq]
      show 0 ≤ (upHeld p s m.fHeld).getD q 0 ∧ (upHeld p s m.fHeld).getD q 0 ≤ 255
      rw [u2 q _ ht, hbv]
      split
      · exact (or_bit (hm.range q hq) hob.2).2
      · exact hm.range q hq
    · have hq := (List.getElem?_eq_some_iff.1 ht).1
      show bitB ((upHeld p s m.fHeld).getD q 0) v = true
      have hin := tab_in (hp.tab t (List.mem_of_getElem? ht))
      rw [runB_iff] at hr
      have hr : m.fBase.getD t.fFrom.toNat 0 = (v : Int) ∨ (m.fNext.set i s.fVersion).getD t.fFrom.toNat 0 = (v : Int) := hr
      rw [hN] at hr
      rw [u2 q t ht, hbv]
      have hlow := hm.low q t ht hs v
      rw [runB_iff] at hlow
      by_cases hf : t.fFrom.toNat = i
      · have hup : upC s t = true := by unfold upC; rw [hs, Bool.and_true, beq_iff_eq, hi]; omega
        rw [if_pos hup, (or_bit (hm.range q hq) hob.2).1, hob.1 v, Bool.or_eq_true, decide_eq_true_iff]
        rw [if_pos hf] at hr
        rcases hr with h | h
        · exact .inl (hlow (.inl h))
        · right; omega
      · rw [if_neg hf] at hr
        have hup : upC s t = false := by unfold upC; rw [hs, Bool.and_true, beq_eq_false_iff_ne, hi]; omega
        rw [hup, if_neg (by simp)]
        exact hlow hr
    · have hq := (List.getElem?_eq_some_iff.1 ht).1
      have hbit : bitB ((upHeld p s m.fHeld).getD q 0) v = true := hbit
      have hin := tab_in (hp.tab t (List.mem_of_getElem? ht))
      rw [u2 q t ht, hbv] at hbit
      split at hbit
      · rename_i hup
        rw [(or_bit (hm.range q hq) hob.2).1, hob.1 v, Bool.or_eq_true, decide_eq_true_iff] at hbit
        rcases hbit with h | h
        · exact hm.high q t ht hs v h
        · unfold upC at hup
          rw [hs, Bool.and_true, beq_iff_eq, hi] at hup
          rw [hup, Int.toNat_natCast]; omega
      · exact hm.high q t ht hs v hbit
    · show (upHeld p s m.fHeld).getD q 0 = 0
      have hup : upC s t = false := by unfold upC; rw [hs, Bool.and_false]
      rw [u2 q t ht, hup, if_neg (by simp)]
      exact hm.none q t ht hs
  · rename_i hk1
    split at h
    · rename_i hk3
      have hi3 : i < p.fTables.length := by have := x3 hk3; omega
      have ht0 : p.fTables[i]? = some p.fTables[i] := by simp [hi3]
      rw [ht0] at h
      simp only at h
      split at h
      · cases h
      rename_i hc
      cases h
      have hin0 := tab_in (hp.tab _ (List.mem_of_getElem? ht0))
      have hr0 := serv_run hp hm.toMixServ (s := (p.fTables[i]).fFrom.toNat) (by omega)
      have hs0 : storedB p.fTables[i] = true := by
        cases hs : storedB p.fTables[i]
        · exact (hc (.inl hs)).elim
        · rfl
      have hH : ∀ q, (m.fHeld.set i (runM m (p.fTables[i]).fFrom.toNat)).getD q 0 = if q = i then runM m (p.fTables[i]).fFrom.toNat else m.fHeld.getD q 0 := fun q => getD_set (by omega)
      refine { base := hb, next := hn, held := by simpa using hh, b0 := hm.b0, n0 := hm.n0, ne := hm.ne, range := fun q hq => ?_, low := fun q t ht hs v hr => ?_, high := fun q t ht hs v hbit => ?_, none := fun q t ht hs => ?_ }
      · show 0 ≤ (m.fHeld.set i (runM m (p.fTables[i]).fFrom.toNat)).getD q 0 ∧ (m.fHeld.set i (runM m (p.fTables[i]).fFrom.toNat)).getD q 0 ≤ 255
        rw [hH q]
        split
        · exact hr0.2
        · exact hm.range q hq
      · show bitB ((m.fHeld.set i (runM m (p.fTables[i]).fFrom.toNat)).getD q 0) v = true
        have hr : runB m t.fFrom.toNat v = true := hr
        rw [hH q]
        split
        · rename_i e; subst e
          rw [ht0] at ht; cases ht
          rw [hr0.1]; exact hr
        · exact hm.low q t ht hs v hr
      · have hbit : bitB ((m.fHeld.set i (runM m (p.fTables[i]).fFrom.toNat)).getD q 0) v = true := hbit
        rw [hH q] at hbit
        split at hbit
        · rename_i e; subst e
          rw [ht0] at ht; cases ht
          rw [hr0.1] at hbit
          exact hm.high q _ ht0 hs0 v (hm.low q _ ht0 hs0 v hbit)
        · exact hm.high q t ht hs v hbit
      · show (m.fHeld.set i (runM m (p.fTables[i]).fFrom.toNat)).getD q 0 = 0
        rw [hH q, if_neg (fun e => by subst e; rw [ht0] at ht; cases ht; rw [hs0] at hs; cases hs)]
        exact hm.none q t ht hs
    · rename_i hk3
      have hi1 : i < p.fVersions.length := by have := xn hk3; omega
      have hvi := ver_at hp hi1
      split at h
      · cases h
      rename_i hc
      cases h
      have hN : ∀ q, (m.fNext.set i (-1)).getD q 0 = if q = i then -1 else m.fNext.getD q 0 := fun q => getD_set (by omega)
      have hB : ∀ q, (if s.fKind = 2 then m.fBase.set i (m.fNext.getD i 0) else m.fBase).getD q 0 = if s.fKind = 2 ∧ q = i then m.fNext.getD i 0 else m.fBase.getD q 0 := fun q => by
        by_cases hk2 : s.fKind = 2
        · rw [if_pos hk2, getD_set (by omega)]
          by_cases e : q = i
          · rw [if_pos e, if_pos ⟨hk2, e⟩]
          · rw [if_neg e, if_neg (fun h => e h.2)]
        · rw [if_neg hk2, if_neg (fun h => hk2 h.1)]
      have hrun : ∀ q v, runB ⟨if s.fKind = 2 then m.fBase.set i (m.fNext.getD i 0) else m.fBase, m.fNext.set i (-1), m.fHeld⟩ q v = true → runB m q v = true := fun q v hr => by
        rw [runB_iff] at hr ⊢
        simp only [hN q, hB q] at hr
        by_cases e : q = i
        · subst e
          rw [if_pos rfl] at hr
          by_cases hk2 : s.fKind = 2
          · rw [if_pos ⟨hk2, rfl⟩] at hr; omega
          · rw [if_neg (fun h => hk2 h.1)] at hr; omega
        · rw [if_neg e, if_neg (fun h => e h.2)] at hr; exact hr
      refine { base := by simp only; split <;> simp [hb], next := by simpa using hn, held := hh, b0 := fun q hq => ?_, n0 := fun q hq => ?_, ne := fun q hq => ?_, range := hm.range, low := fun q t ht hs v hr => hm.low q t ht hs v (hrun _ _ hr), high := hm.high, none := hm.none }
      · simp only [hB q]
        split
        · rename_i e; obtain ⟨_, e⟩ := e; subst e
          have := hm.n0 q hq
          omega
        · exact hm.b0 q hq
      · simp only [hN q]
        split
        · rename_i e; subst e; omega
        · exact hm.n0 q hq
      · simp only [hB q, hN q]
        have h1 := hm.b0 q hq
        by_cases e : q = i
        · rw [if_pos e]
          split
          · rename_i e2; obtain ⟨_, e2⟩ := e2; subst e2; omega
          · omega
        · rw [if_neg e, if_neg (fun h => e h.2)]; exact hm.ne q hq
theorem ref_apply_eq (N : Nat) (hN : N ≤ 1000000) (h20 : 100 ≤ N) {p : ApiProblem} {m : ApiMix} (hw : wSl wU8 m.fHeld) (s : ApiStep) : Sh.sheaveref37_Apply N p m s = some (if validM p m = 0 then applyP p m s else (zeroM, validM p m)) := by
  unfold Sh.sheaveref37_Apply applyP
  rw [ref_valid_eq N p m hN (by omega)]
  simp only [Option.bind_some, join_eq]
  by_cases hval : validM p m = 0
  · obtain ⟨hp, hm⟩ := valid_ok hw hval
    rw [if_pos hval, hval, bne_self_eq_false, cnd_false, ref_stepv_eq]
    simp only [Option.bind_some]
    cases hv : stepV s
    · rw [Bool.not_false, cnd_true, if_pos rfl]; rfl
    · rw [Bool.not_true, cnd_false, if_neg (by simp)]
      obtain ⟨k1, k4, i0, v0, vk⟩ := stepV_out hv
      have key : ∀ b : Bool, stepX p s = b → (if b = false then (zeroM, (4 : Int)) else match afterP p m s with | none => (zeroM, 11) | some x => (x, 0)) = (if b = false then (zeroM, (4 : Int)) else match afterP p m s with | none => (zeroM, 11) | some x => (x, 0)) := fun _ _ => rfl
      have tail : stepX p s = true → ((Sh.sheaveref37_After N p m s).bind fun v15 => cnd (!v15.2) (some (ApiMix.mk [] [] [], (11 : Int))) (some (v15.1, 0))) = some (match afterP p m s with | none => (zeroM, 11) | some x => (x, 0)) := fun hx => by
        rw [ref_after_eq N hN h20 hp hm hv hx]
        cases afterP p m s <;> rfl
      have zz : (ApiMix.mk [] [] [], (4 : Int)) = (zeroM, 4) := rfl
      by_cases hk3 : s.fKind = 3
      · rw [beq_iff_eq.2 hk3, cnd_true, show (s.fKind != 3) = false from by rw [hk3]; rfl]
        have hX : stepX p s = decide (s.fIndex < (p.fTables.length : Int)) := by unfold stepX; rw [if_pos hk3]
        by_cases c : (p.fTables.length : Int) ≤ s.fIndex
        · rw [cnd_pos c, cnd_true, hX, decide_eq_false (by omega), if_pos rfl]; rfl
        · have hx : stepX p s = true := by rw [hX, decide_eq_true (by omega)]
          rw [cnd_neg c, cnd_false, cnd_false, beq_eq_false_iff_ne.2 (show s.fKind ≠ 1 by omega), cnd_false, cnd_false, hx, if_neg (by simp)]
          exact tail hx
      · rw [beq_eq_false_iff_ne.2 hk3, cnd_false, bne_iff_ne.2 hk3, cnd_true]
        have hX : stepX p s = (decide (s.fIndex < (p.fVersions.length : Int)) && (s.fKind != 1 || decide (s.fVersion < p.fVersions.getD s.fIndex.toNat 0))) := by unfold stepX; rw [if_neg hk3]
        by_cases c : (p.fVersions.length : Int) ≤ s.fIndex
        · rw [decide_eq_true c, cnd_true, hX, decide_eq_false (show ¬ s.fIndex < (p.fVersions.length : Int) by omega), Bool.false_and, if_pos rfl]; rfl
        · rw [decide_eq_false c, cnd_false]
          by_cases hk1 : s.fKind = 1
          · rw [beq_iff_eq.2 hk1, cnd_true, idx_in (d := 0) i0 (by omega)]
            simp only [Option.bind_some]
            by_cases c2 : p.fVersions.getD s.fIndex.toNat 0 ≤ s.fVersion
            · rw [decide_eq_true c2, cnd_true, hX, decide_eq_false (show ¬ s.fVersion < p.fVersions.getD s.fIndex.toNat 0 by omega), show (s.fKind != 1) = false from by rw [hk1]; rfl, Bool.false_or, Bool.and_false, if_pos rfl]; rfl
            · have hx : stepX p s = true := by rw [hX, decide_eq_true (by omega), decide_eq_true (by omega), Bool.or_true]; rfl
              rw [decide_eq_false c2, cnd_false, hx, if_neg (by simp)]
              exact tail hx
          · have hx : stepX p s = true := by rw [hX, decide_eq_true (by omega), bne_iff_ne.2 hk1]; rfl
            rw [beq_eq_false_iff_ne.2 hk1, cnd_false, cnd_false, hx, if_neg (by simp)]
            exact tail hx
  · rw [if_neg hval, bne_iff_ne.2 hval, cnd_true]; rfl
theorem step_Apply_eq (N : Nat) (hN : N ≤ 1000000) (h20 : 100 ≤ N) {p : ApiProblem} {m : ApiMix} (hw : wSl wU8 m.fHeld) (s : ApiStep) : Sh.step_Apply N p m s = some (if validM p m = 0 then applyP p m s else (zeroM, validM p m)) := by
  unfold Sh.step_Apply
  rw [mix_valid_eq N p m hN (by omega) hw]
  simp only [Option.bind_some]
  by_cases hval : validM p m = 0
  · obtain ⟨hp, hm⟩ := valid_ok hw hval
    rw [if_pos hval, hval, bne_self_eq_false, cnd_false, step_apply_eq N hN h20 hp hm s]; rfl
  · rw [if_neg hval, bne_iff_ne.2 hval, cnd_true]; rfl
theorem applyP_ok {p : ApiProblem} {m : ApiMix} (hp : ProbOk p) (hm : MixOk p m) {s : ApiStep} (h : (applyP p m s).2 = 0) : MixOk p (applyP p m s).1 := by
  unfold applyP at h ⊢
  split at h
  · cases h
  rename_i h1
  rw [if_neg h1]
  split at h
  · cases h
  rename_i h2
  rw [if_neg h2]
  cases ha : afterP p m s with
  | none => rw [ha] at h; cases h
  | some x => exact after_ok hp hm (by simpa using h1) (by simpa using h2) ha
end Go.Lift

/- Failure and Check: both implementations give one answer; the laws PlanCheck and PlanFailure. -/
namespace Go.Lift
open Go
def failGo (p : ApiProblem) (total : Nat) : List ApiStep → Nat → ApiMix → Int × ApiMix × ApiConflict × Int
  | [], _, m => if goalB p m = true then (0, zeroM, zeroC, 15) else ((total : Int), zeroM, zeroC, 14)
  | s :: l, i, m => if (applyP p m s).2 ≠ 0 ∨ s.fKind = 4 then ((i : Int), zeroM, zeroC, 0) else match blameF p (applyP p m s).1 with
    | some (x, c) => ((i : Int), x, c, 0)
    | none => failGo p total l (i + 1) (applyP p m s).1
def failP (p : ApiProblem) (l : List ApiStep) : Int × ApiMix × ApiConflict × Int :=
  if validP p ≠ 0 then (0, zeroM, zeroC, validP p) else match blameF p (startM p) with
    | some (x, c) => (-1, x, c, 0)
    | none => failGo p l.length l 0 (startM p)
section
variable {N : Nat} {p : ApiProblem} {l : List ApiStep}
theorem plan_fail_loop (hN : N ≤ 1000000) (h20 : 100 ≤ N) (hv : validP p = 0) (hl : l.length ≤ 1000) : ∀ (n i : Nat) (m : ApiMix), i ≤ l.length → l.length - i < n → MixOk p m →
    Sh.plan_Failure_L5 N p l (fun v6 => (Sh.mix_Goal N p v6).bind fun v15 => cnd (!v15) (some ((l.length : Int), (ApiMix.mk ([] : List Int) ([] : List Int) ([] : List Int)), (ApiConflict.mk 0 0 0), 14)) (some (0, (ApiMix.mk ([] : List Int) ([] : List Int) ([] : List Int)), (ApiConflict.mk 0 0 0), 15))) n (m, (i : Int)) = some (failGo p l.length (l.drop i) i m)
  | 0, i, m, _, h, _ => by omega
  | n + 1, i, m, hi, h, hm => by
    obtain ⟨hp, _⟩ := valid_prob hv
    have hval := ok_valid hv hm
    rw [Sh.plan_Failure_L5]
    by_cases hlt : i < l.length
    · have hx : l[i]? = some l[i] := by simp [hlt]
      rw [cnd_pos (by simp only; omega), drop_cons hx, failGo]
      simp only [join_eq, idx_nat, hx, Option.bind_some, wrap_succ (show i < 1000000 by omega)]
      rw [step_Apply_eq N hN h20 (ok_u8 hm), if_pos hval]
      simp only [Option.bind_some]
      by_cases h1 : (applyP p m l[i]).2 = 0
      · rw [h1, bne_self_eq_false, cnd_false]
        by_cases h2 : l[i].fKind = 4
        · rw [beq_iff_eq.2 h2, cnd_true, if_pos (.inr h2)]; rfl
        · have hm' := applyP_ok hp hm h1
          rw [beq_eq_false_iff_ne.2 h2, cnd_false, if_neg (by rintro (h | h); exact h rfl; exact h2 h), mix_blame_eq N p _ hN h20 (ok_u8 hm') (ok_valid hv hm')]
          unfold blameR
          simp only [Option.bind_some]
          cases hb : blameF p (applyP p m l[i]).1 with
          | some y => rfl
          | none =>
            have e : ((15 : Int) == 0) = false := rfl
            simp only
            rw [e, cnd_false]
            exact plan_fail_loop hN h20 hv hl n (i + 1) _ (by omega) (by omega) hm'
      · rw [bne_iff_ne.2 h1, cnd_true, cnd_true, if_pos (.inl h1)]; rfl
    · have hd : l.drop i = [] := List.drop_eq_nil_of_le (by omega)
      rw [cnd_neg (by simp only; omega), hd, failGo, mix_goal_eq N p m hN h20 (ok_u8 hm)]
      simp only [Option.bind_some]
      cases goalB p m <;> rfl
theorem ref_fail_loop (hN : N ≤ 1000000) (h20 : 100 ≤ N) (hv : validP p = 0) (hl : l.length ≤ 1000) : ∀ (n i : Nat) (m : ApiMix), i ≤ l.length → l.length - i < n → MixOk p m →
    Sh.sheaveref39_Failure_L3 N p l (fun v4 => (Sh.sheaveref36_Goal N p v4).bind fun v16 => cnd (!v16) (some ((l.length : Int), (ApiMix.mk ([] : List Int) ([] : List Int) ([] : List Int)), (ApiConflict.mk 0 0 0), 14)) (some (0, (ApiMix.mk ([] : List Int) ([] : List Int) ([] : List Int)), (ApiConflict.mk 0 0 0), 15))) n (m.fBase, m.fNext, m.fHeld, (i : Int)) = some (failGo p l.length (l.drop i) i m)
  | 0, i, m, _, h, _ => by omega
  | n + 1, i, m, hi, h, hm => by
    obtain ⟨hp, _⟩ := valid_prob hv
    have hval := ok_valid hv hm
    rw [Sh.sheaveref39_Failure_L3]
    by_cases hlt : i < l.length
    · have hx : l[i]? = some l[i] := by simp [hlt]
      rw [cnd_pos (by simp only; omega), drop_cons hx, failGo]
      simp only [join_eq, idx_nat, hx, Option.bind_some, wrap_succ (show i < 1000000 by omega)]
      rw [cnd_pos (by omega), ref_apply_eq N hN h20 (ok_u8 hm), if_pos hval]
      simp only [Option.bind_some]
      by_cases h1 : (applyP p m l[i]).2 = 0
      · rw [h1, bne_self_eq_false, cnd_false]
        by_cases h2 : l[i].fKind = 4
        · rw [beq_iff_eq.2 h2, cnd_true, if_pos (.inr h2)]; rfl
        · have hm' := applyP_ok hp hm h1
          rw [beq_eq_false_iff_ne.2 h2, cnd_false, if_neg (by rintro (h | h); exact h rfl; exact h2 h), ref_blame_eq N p _ hN h20 (ok_u8 hm') (ok_valid hv hm')]
          unfold blameR
          simp only [Option.bind_some]
          cases hb : blameF p (applyP p m l[i]).1 with
          | some y => rfl
          | none =>
            have e : ((15 : Int) == 0) = false := rfl
            simp only
            rw [e, cnd_false]
            exact ref_fail_loop hN h20 hv hl n (i + 1) _ (by omega) (by omega) hm'
      · rw [bne_iff_ne.2 h1, cnd_true, cnd_true, if_pos (.inl h1)]; rfl
    · have hd : l.drop i = [] := List.drop_eq_nil_of_le (by omega)
      rw [cnd_neg (by simp only; omega), hd, failGo, ref_goal_eq N p _ hN h20 (ok_u8 hm)]
      simp only [Option.bind_some]
      cases goalB p m <;> rfl
theorem plan_fail_eq (hN : N ≤ 1000000) (h20 : 100 ≤ N) (hl : l.length ≤ 1000) (hln : l.length < N) : Sh.plan_Failure N p l = some (failP p l) := by
  unfold Sh.plan_Failure failP
  rw [mix_start_eq N p hN h20]
  simp only [Option.bind_some]
  by_cases hv : validP p = 0
  · have hm := start_ok hv
    rw [if_pos hv, hv, bne_self_eq_false, cnd_false, if_neg (by simp), mix_blame_eq N p _ hN h20 (ok_u8 hm) (start_valid hv)]
    unfold blameR
    simp only [Option.bind_some]
    cases hb : blameF p (startM p) with
    | some y => rfl
    | none =>
      have e : ((15 : Int) == 0) = false := rfl
      simp only
      rw [e, cnd_false]
      have := plan_fail_loop (N := N) (p := p) (l := l) hN h20 hv hl N 0 (startM p) (Nat.zero_le _) (by omega) hm
      rw [List.drop_zero] at this
      exact this
  · rw [if_neg hv, bne_iff_ne.2 hv, cnd_true, if_pos hv]; rfl
theorem ref_fail_eq (hN : N ≤ 1000000) (h20 : 100 ≤ N) (hl : l.length ≤ 1000) (hln : l.length + 1 < N) : Sh.sheaveref39_Failure N p l = some (failP p l) := by
  unfold Sh.sheaveref39_Failure failP
  rw [ref_start_eq N p hN h20]
  simp only [Option.bind_some]
  by_cases hv : validP p = 0
  · have hm := start_ok hv
    rw [if_pos hv, hv, bne_self_eq_false, cnd_false, if_neg (by simp)]
    obtain ⟨k, rfl⟩ : ∃ k, N = k + 1 := ⟨N - 1, by omega⟩
    rw [Sh.sheaveref39_Failure_L3, cnd_pos (by simp only; omega)]
    simp only [join_eq]
    rw [cnd_neg (by omega), ref_blame_eq (k + 1) p _ hN h20 (ok_u8 hm) (start_valid hv)]
    unfold blameR
    simp only [Option.bind_some]
    cases hb : blameF p (startM p) with
    | some y => rfl
    | none =>
      have e : ((15 : Int) == 0) = false := rfl
      simp only
      rw [e, cnd_false, show IntKind.wrap .i64 ((-1 : Int) + 1) = ((0 : Nat) : Int) from by decide +kernel]
      have := ref_fail_loop (N := k + 1) (p := p) (l := l) hN h20 hv hl k 0 (startM p) (Nat.zero_le _) (by omega) hm
      rw [List.drop_zero] at this
      exact this
  · rw [if_neg hv, bne_iff_ne.2 hv, cnd_true, if_pos hv]; rfl
theorem failGo_eq_ok (hN : N ≤ 1000000) (h20 : 100 ≤ N) (hp : ProbOk p) (total : Nat) : ∀ (l : List ApiStep) (i : Nat) (m : ApiMix), MixOk p m → Sh.sheaveref36_Equal N (failGo p total l i m).2.1 (failGo p total l i m).2.1 = some true := by
  have hz : Sh.sheaveref36_Equal N zeroM zeroM = some true := ref_eq_self hN (by simp [zeroM]; omega) (by simp [zeroM]; omega) (by simp [zeroM]; omega) (fun y hy => by simp [zeroM] at hy)
  intro l
  induction l with
  | nil => intro i m _; rw [failGo]; split <;> exact hz
  | cons s l ih =>
    intro i m hm
    rw [failGo]
    split
    · exact hz
    · rename_i h
      have h1 : (applyP p m s).2 = 0 := Decidable.byContradiction fun hn => h (.inl hn)
      have hm' := applyP_ok hp hm h1
      have := blame_eq_ok N hN h20 hp hm'
      unfold blameR at this
      cases hb : blameF p (applyP p m s).1 with
      | some y => rw [hb] at this; exact this
      | none => exact ih _ _ hm'
theorem failP_eq_ok (hN : N ≤ 1000000) (h20 : 100 ≤ N) : Sh.sheaveref36_Equal N (failP p l).2.1 (failP p l).2.1 = some true := by
  have hz : Sh.sheaveref36_Equal N zeroM zeroM = some true := ref_eq_self hN (by simp [zeroM]; omega) (by simp [zeroM]; omega) (by simp [zeroM]; omega) (fun y hy => by simp [zeroM] at hy)
  unfold failP
  split
  · exact hz
  · rename_i h
    have hv : validP p = 0 := Decidable.byContradiction h
    obtain ⟨hp, _⟩ := valid_prob hv
    have := blame_eq_ok N hN h20 hp (start_ok hv)
    unfold blameR at this
    cases hb : blameF p (startM p) with
    | some y => rw [hb] at this; exact this
    | none => exact failGo_eq_ok hN h20 hp _ l 0 _ (start_ok hv)
def checkP (p : ApiProblem) (l : List ApiStep) : Bool := (failP p l).2.2.2 == 15
theorem plan_check_eq (hN : N ≤ 1000000) (h20 : 100 ≤ N) (hl : l.length ≤ 1000) (hln : l.length < N) : Sh.plan_Check N p l = some (checkP p l) := by
  unfold Sh.plan_Check
  rw [plan_fail_eq hN h20 hl hln]; rfl
end
theorem awake39_true : Sh.sheavelaw39_awake 1000 = some true := by show _ = _; kernel_rfl
theorem planFailure_plain (p : ApiProblem) (l : List ApiStep) (_ : wApiProblem p) (_ : wSl wApiStep l) : Sh.sheavelaw39_PlanFailure 1000 p l = some true := by
  unfold Sh.sheavelaw39_PlanFailure
  simp only [join_eq, awake39_true, Option.bind_some, Bool.not_true, cnd_false]
  obtain ⟨b1, e1⟩ := ref35_few 1000 (by omega) (by omega) p
  rw [e1]
  simp only [Option.bind_some]
  cases b1
  · rfl
  simp only [Bool.not_true, cnd_false]
  by_cases h : (30 : Int) < (l.length : Int)
  · rw [decide_eq_true h, cnd_true]
  · rw [decide_eq_false h, cnd_false, plan_fail_eq (by omega) (by omega) (by omega) (by omega), ref_fail_eq (by omega) (by omega) (by omega) (by omega)]
    simp only [Option.bind_some, beq_self_eq_true, cnd_true, Bool.and_true]
    rw [failP_eq_ok (by omega) (by omega), plan_check_eq (by omega) (by omega) (by omega) (by omega)]
    simp only [Option.bind_some, cnd_true, checkP, beq_self_eq_true]
end Go.Lift

/- The law PlanErrors in plain words. -/
namespace Go.Lift
open Go
end Go.Lift

/- Trim: both implementations give one list. -/
namespace Go.Lift
open Go
end Go.Lift

/- A plan without a step: what can be left out. -/
namespace Go.Lift
open Go
structure LeM (p : ApiProblem) (m x : ApiMix) : Prop where
  base : m.fBase = x.fBase
  next : m.fNext = x.fNext
  held : ∀ i, i < p.fTables.length → ∀ v, bitB (m.fHeld.getD i 0) v = true → bitB (x.fHeld.getD i 0) v = true
theorem LeM.refl (p : ApiProblem) (m : ApiMix) : LeM p m m := ⟨rfl, rfl, fun _ _ _ h => h⟩
theorem LeM.trans {p : ApiProblem} {a b c : ApiMix} (h : LeM p a b) (g : LeM p b c) : LeM p a c := ⟨h.base.trans g.base, h.next.trans g.next, fun i hi v hv => g.held i hi v (h.held i hi v hv)⟩
end Go.Lift

/- A step between two mixes; openings and closings; the law PlanTrim. -/
namespace Go.Lift
open Go
end Go.Lift

/- The law PlanTrim in plain words. -/
namespace Go.Lift
open Go
end Go.Lift

/- The keys of mixes. -/
namespace Go.Lift
open Go
end Go.Lift

/- Keys tell mixes. -/
namespace Go.Lift
open Go
end Go.Lift

/- The possible steps of a mix, in order: both implementations. -/
namespace Go.Lift
open Go
end Go.Lift

/- Enabled: the possible steps. -/
namespace Go.Lift
open Go
end Go.Lift

