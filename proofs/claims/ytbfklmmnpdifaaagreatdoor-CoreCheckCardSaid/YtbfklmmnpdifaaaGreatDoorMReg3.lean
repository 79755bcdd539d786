/- Lemmas for CoreCheckCardSaid, which YtbfklmmnpdifaaaGreatDoorFinC7 proves. -/
import Derived.Test.YtbfklmmnpdifaaaGreatDoorDec
import Derived.KernelRfl
open Bool renaming and_eq_true → zI, and_eq_true_iff → uC, and_true → vV, false_and → vM, false_or → vO, not_false → yT, not_true → yA, or_eq_false_iff → uU, or_eq_true → xO, or_true → zA2, true_and → yP
open Int renaming eq_ofNat_of_zero_le → zJ, ofNat_inj → vZ, tmod → zZ, toNat_natCast → zT
open List renaming all_eq_true → zG, any_eq_false → vJ, any_eq_true → xF, append_assoc → yS, append_nil → x8, cons_append → uQ, drop_eq_nil_of_le → zL, drop_zero → zX, eq_nil_of_length_eq_zero → yN, filter_append → xH, flatMap_append → uZ, flatMap_eq_nil_iff → zA0, getD_cons_succ → uY, getD_cons_zero → vN, getElem?_append_left → yH, getElem?_append_right → yG, getElem?_drop → xG, getElem?_eq_getElem → yK, getElem?_eq_none → yV, getElem?_map → zD, getElem?_set → xB, getElem?_take_of_lt → yJ, getElem_mem → xQ, length → xK, length_append → zY, length_cons → yC, length_map → zO, length_range → uB, length_set → xY, length_singleton → yB, map_append → xE, map_cons → yI, mem_append → yE, mem_append_left → xA, mem_cons → zQ, mem_cons_of_mem → xZ, mem_iff_getElem? → zU, mem_map → zW, mem_range → yX, mem_singleton → yR, nil_append → uF, pairwise_append → uN, pairwise_lt_range → vG, pairwise_map → vU, range → zS, range_succ → xX, replicate → zH, take_add_one → yU, take_length → uG, take_of_length_le → zA1
open Nat renaming add_assoc → xI, add_comm → vS, add_zero → xJ, eq_zero_or_pos → uS, le_refl → zN, le_trans → xU, mul_le_mul_right → zF, sub_self → vC, succ_mul → yD, zero_add → zC, zero_le → zK
open Option renaming getD_some → yF, map_some → y7
namespace Go.Lift
open IntKind renaming wrap → wI
open Option renaming bind_some → oS
open List renaming getElem?_eq_some_iff → lI
theorem AT {α : Type} (xs : List α) (i : Nat) : Bl xs (i : Int) = xs[i]? := by
 unfold Bl; simp
theorem Ch {n : Int} (h0 : -9223372036854775808 ≤ n) (h1 : n ≤ 9223372036854775807) : wI .i64 n = n := by
 simp [wI, IntKind.signed, IntKind.bits]; omega
theorem AB {i : Nat} (h : i < 1000000) : wI .i64 ((i : Int) + 1) = ((i + 1 : Nat) : Int) := by
 rw [Ch (by omega) (by omega)]; simp
@[simp] theorem AO {α : Type} {a b : Option α} : AN true a b = a := rfl
@[simp] theorem Ao {α : Type} {a b : Option α} : AN false a b = b := rfl
theorem Az {α : Type} {p : Prop} [Decidable p] {a b : Option α} (h : p) : AN (decide p) a b = a := by simp [h]
theorem Av {α : Type} {p : Prop} [Decidable p] {a b : Option α} (h : ¬ p) : AN (decide p) a b = b := by simp [h]
def bU (a b : Int) : Int := if a < b then -1 else if b < a then 1 else 0
def E7 : List Int → List Int → Int
 | [], [] => 0
 | [], _ :: _ => -1
 | _ :: _, [] => 1
 | a :: as1, b :: bs => if a < b then -1 else if b < a then 1 else E7 as1 bs
theorem Zi (N : Nat) (a b : Int) : FC N a b = some (bU a b) := by
 unfold FC Gp bU
 by_cases h1 : a < b <;> by_cases h2 : b < a <;> simp [h1, h2]
theorem Y4 (N : Nat) (a b : Int) : Er N a b = some (bU a b) := by
 unfold Er Fb bU
 by_cases h1 : a < b <;> by_cases h2 : b < a <;> simp [h1, h2]
theorem CQ {α : Type} {xs : List α} {i : Nat} {x : α} (h : xs[i]? = some x) : xs.drop i = x :: xs.drop (i + 1) := by
 obtain ⟨hi, rfl⟩ := lI.1 h
 exact List.drop_eq_getElem_cons hi
theorem TZ (N : Nat) (a b : List Int) (hb : a.length < 1000000) : ∀ (n i : Nat), i ≤ a.length → i ≤ b.length → a.length - i < n →
  Cx N a b (fun _ => AN (decide ((a.length : Int) < (b.length : Int))) (some (-1)) (some 0)) n (i : Int) = some (E7 (a.drop i) (b.drop i))
 | 0, i, _, _, h => by omega
 | n + 1, i, hi, hj, h => by
  unfold Cx
  by_cases h1 : i < a.length
  ·rw [Az (by omega), AT]
   have ha : a[i]? = some a[i] := by simp [h1]
   rw [ha, CQ ha]
   simp only [oS]
   by_cases h2 : i < b.length
   ·rw [Av (by omega), AT]
    have hbb : b[i]? = some b[i] := by simp [h2]
    rw [hbb, CQ hbb]
    simp only [oS, Zi, E7, bU]
    rw [AB (by omega), TZ N a b hb n (i + 1) (by omega) (by omega) (by omega)]
    by_cases h3 : a[i] < b[i]
    ·simp [h3]
    ·by_cases h4 : b[i] < a[i]
     ·simp [h3, h4]
     ·simp [h3, h4]
   ·rw [Az (by omega), zL (by omega : b.length ≤ i)]
    simp [E7]
  ·rw [Av (by omega), zL (by omega : a.length ≤ i)]
   by_cases h2 : a.length < b.length
   ·rw [Az (by omega)]
    have hbb : b[i]? = some b[i] := by simp [show i < b.length from by omega]
    rw [CQ hbb]; simp [E7]
   ·rw [Av (by omega), zL (by omega : b.length ≤ i)]
    simp [E7]
theorem RC (N : Nat) (a b : List Int) (hb : a.length < 1000000) : ∀ (n i : Nat), i ≤ a.length → i ≤ b.length → a.length - i < n →
  BA N a b (fun _ => AN (decide ((a.length : Int) < (b.length : Int))) (some (-1)) (some 0)) n (i : Int) = some (E7 (a.drop i) (b.drop i))
 | 0, i, _, _, h => by omega
 | n + 1, i, hi, hj, h => by
  unfold BA
  by_cases h1 : i < a.length
  ·rw [Az (by omega), AT]
   have ha : a[i]? = some a[i] := by simp [h1]
   rw [ha, CQ ha]
   simp only [oS]
   by_cases h2 : i < b.length
   ·rw [Av (by omega), AT]
    have hbb : b[i]? = some b[i] := by simp [h2]
    rw [hbb, CQ hbb]
    simp only [oS, Y4, E7, bU]
    rw [AB (by omega), RC N a b hb n (i + 1) (by omega) (by omega) (by omega)]
    by_cases h3 : a[i] < b[i]
    ·simp [h3]
    ·by_cases h4 : b[i] < a[i]
     ·simp [h3, h4]
     ·simp [h3, h4]
   ·rw [Az (by omega), zL (by omega : b.length ≤ i)]
    simp [E7]
  ·rw [Av (by omega), zL (by omega : a.length ≤ i)]
   by_cases h2 : a.length < b.length
   ·rw [Az (by omega)]
    have hbb : b[i]? = some b[i] := by simp [show i < b.length from by omega]
    rw [CQ hbb]; simp [E7]
   ·rw [Av (by omega), zL (by omega : b.length ≤ i)]
    simp [E7]
theorem Vv (N : Nat) (a b : List Int) (hb : a.length < 1000000) : ∀ (n i : Nat), i ≤ a.length → i ≤ b.length → a.length - i < n →
  DK N a b (fun _ => AN (decide ((a.length : Int) < (b.length : Int))) (some (-1)) (AN (decide ((b.length : Int) < (a.length : Int))) (some 1) (some 0))) n (i : Int) = some (E7 (a.drop i) (b.drop i))
 | 0, i, _, _, h => by omega
 | n + 1, i, hi, hj, h => by
  unfold DK
  simp only [Bc]
  by_cases h1 : i < a.length
  ·rw [Az (p := (i : Int) < (a.length : Int)) (by omega)]
   have ha : a[i]? = some a[i] := by simp [h1]
   rw [CQ ha]
   by_cases h2 : i < b.length
   ·have hbb : b[i]? = some b[i] := by simp [h2]
    rw [show decide ((i : Int) < (b.length : Int)) = true from decide_eq_true (by omega), AO, AT, AT, ha, hbb, CQ hbb]
    simp only [oS, E7]
    rw [AB (by omega), Vv N a b hb n (i + 1) (by omega) (by omega) (by omega)]
    by_cases h3 : a[i] < b[i]
    ·simp [h3]
    ·by_cases h4 : b[i] < a[i]
     ·simp [h3, h4]
     ·simp [h3, h4]
   ·rw [show decide ((i : Int) < (b.length : Int)) = false from decide_eq_false (by omega), Ao, Av (by omega), Az (by omega), zL (by omega : b.length ≤ i)]
    simp [E7]
  ·rw [Av (p := (i : Int) < (a.length : Int)) (by omega), Ao, zL (by omega : a.length ≤ i)]
   by_cases h2 : a.length < b.length
   ·rw [Az (by omega)]
    have hbb : b[i]? = some b[i] := by simp [show i < b.length from by omega]
    rw [CQ hbb]; simp [E7]
   ·rw [Av (by omega), Av (by omega), zL (by omega : b.length ≤ i)]
    simp [E7]
theorem PG {N : Nat} {a b : List Int} (h : a.length < N) (hN : N ≤ 1000000) : Cv N a b = some (E7 a b) := by
 have := TZ N a b (by omega) N 0 (by omega) (by omega) (by omega)
 simpa [Cv] using this
theorem Tn {N : Nat} {a b : List Int} (h : a.length < N) (hN : N ≤ 1000000) : Cs N a b = some (E7 a b) := by
 have := RC N a b (by omega) N 0 (by omega) (by omega) (by omega)
 simpa [Cs] using this
theorem Qx {N : Nat} {a b : List Int} (h : a.length < N) (hN : N ≤ 1000000) : DO N a b = some (E7 a b) := by
 have := Vv N a b (by omega) N 0 (by omega) (by omega) (by omega)
 simpa [DO] using this
theorem Rm : ∀ a : List Int, E7 a a = 0
 | [] => rfl
 | a :: as1 => by simp [E7, Rm as1]
theorem Pb : ∀ a b : List Int, E7 a b = 0 → a = b
 | [], [], _ => rfl
 | [], _ :: _, h => by simp [E7] at h
 | _ :: _, [], h => by simp [E7] at h
 | a :: as1, b :: bs, h => by
  unfold E7 at h
  split at h
  ·omega
  ·split at h
   ·omega
   ·rw [Pb as1 bs h, show a = b from by omega]
theorem Q9 : ∀ a b : List Int, E7 b a = - E7 a b
 | [], [] => rfl
 | [], _ :: _ => rfl
 | _ :: _, [] => rfl
 | a :: as1, b :: bs => by
  have := Q9 as1 bs
  unfold E7
  by_cases h1 : a < b
  ·simp [h1, show ¬ b < a from by omega]
  ·by_cases h2 : b < a
   ·simp [h1, h2]
   ·simp [h1, h2, this]
theorem VQ : ∀ a b c : List Int, E7 a b ≤ 0 → E7 b c ≤ 0 → E7 a c ≤ 0
 | [], _, [], _, _ => by simp [E7]
 | [], _, _ :: _, _, _ => by simp [E7]
 | _ :: _, [], _, h, _ => by simp [E7] at h
 | _ :: _, _ :: _, [], _, h => by simp [E7] at h
 | a :: as1, b :: bs, c :: cs, h1, h2 => by
  have ih := VQ as1 bs cs
  unfold E7 at h1 h2 ⊢
  split at h1 <;> split at h2 <;> (try split at h1) <;> (try split at h2) <;> split <;> (try split) <;> omega
def Ut : List Int → Int
 | [] => 0
 | x :: xs => if x = 0 then Ut xs else x
theorem fG (N : Nat) (a : List Int) (hb : a.length < 1000000) : ∀ (n i : Nat), i ≤ a.length → a.length - i < n →
  Fv N a (fun _ => some 0) n (i : Int) = some (Ut (a.drop i))
 | 0, i, _, h => by omega
 | n + 1, i, hi, h => by
  unfold Fv
  by_cases h1 : i < a.length
  ·have ha : a[i]? = some a[i] := by simp [h1]
   rw [Az (by omega), AT, ha, CQ ha]
   simp only [oS, Ut]
   rw [AB (by omega), fG N a hb n (i + 1) (by omega) (by omega)]
   by_cases h3 : a[i] = 0
   ·simp [h3]
   ·have : (a[i] != 0) = true := by simpa using h3
    simp [h3, this]
  ·rw [Av (by omega), zL (by omega : a.length ≤ i)]
   simp [Ut]
theorem bi {N : Nat} {a : List Int} (h : a.length < N) (hN : N ≤ 1000000) : HU N a = some (Ut a) := by
 have := fG N a (by omega) N 0 (by omega) (by omega)
 simpa [HU] using this
theorem cp (N : Nat) (a : List Int) (hb : a.length < 1000000) (hw : LH Ly a) : ∀ (n i : Nat), i ≤ a.length → a.length - i < n →
  C7 N a (fun v => some v) n (a.take i, (i : Int)) = some a
 | 0, i, _, h => by omega
 | n + 1, i, hi, h => by
  unfold C7
  by_cases h1 : i < a.length
  ·have ha : a[i]? = some a[i] := by simp [h1]
   rw [Az (by simpa using h1)]
   simp only
   rw [AT, ha]
   have hr : wI .i64 a[i] = a[i] := by
    have := hw a[i] (xQ h1)
    unfold Ly at this
    have h2 : 0 ≤ a[i] ∧ a[i] ≤ 255 := by simpa [Lit.wf, IntKind.min, IntKind.max, IntKind.signed, IntKind.bits] using this
    exact Ch (by omega) (by omega)
   simp only [oS, hr]
   have hlen : (a.take i).length + ([a[i]] : List Int).length ≤ Dh := by
    simp [Dh]; omega
   rw [show D3 ((a.take i).length + ([a[i]] : List Int).length ≤ Dh) = some () from by unfold D3; rw [if_pos hlen]]
   simp only [oS]
   rw [AB (by omega), show a.take i ++ [a[i]] = a.take (i + 1) from by rw [yU, ha]; rfl]
   exact cp N a hb hw n (i + 1) (by omega) (by omega)
  ·rw [Av (by simpa using h1)]
   simp only
   rw [zA1 (by omega)]
theorem OM {N : Nat} {a : List Int} (h : a.length < N) (hN : N ≤ 1000000) (hw : LH Ly a) : DL N a = some a := by
 have := cp N a (by omega) hw N 0 (by omega) (by omega)
 simpa [DL] using this
def eY (a : Ab) : Prop := a.fL.length ≤ 8 ∧ a.fI.length ≤ 8 ∧ a.fN.length ≤ 14
theorem ZA (N : Nat) (a : Ab) : ∃ b, FD N a = some b ∧ (b = true → eY a) := by
 unfold FD
 simp only [Bc]
 by_cases h1 : a.fL.length ≤ 8 <;> by_cases h2 : a.fI.length ≤ 8 <;> by_cases h3 : a.fN.length ≤ 14 <;>
  ·refine ⟨_, by first
    | rw [Av (p := (a.fL.length : Int) ≤ 8) (by omega)]
    | rw [Az (p := (a.fL.length : Int) ≤ 8) (by omega), Av (p := (a.fI.length : Int) ≤ 8) (by omega)]
    | rw [Az (p := (a.fL.length : Int) ≤ 8) (by omega), Az (p := (a.fI.length : Int) ≤ 8) (by omega)], ?_⟩
   first
    | (intro h; exact absurd h (by decide))
    | (intro h; have := of_decide_eq_true h; exact ⟨h1, h2, by omega⟩)
def G4 (a b : Ab) : Int := Ut [E7 a.fL b.fL, E7 a.fI b.fI, E7 a.fN b.fN]
theorem Ms (a : Ab) : G4 a a = 0 := by unfold G4; simp [Rm, Ut]
def CU {α R : Type} (f : Nat → α → Option R) : Nat → List α → Option R
 | _, [] => none
 | i, x :: xs => match f i x with
  | some r => some r
  | none => CU f (i + 1) xs
theorem FR {α R : Type} (f : Nat → α → Option R) (i : Nat) (x : α) (xs : List α) : CU f i (x :: xs) = match f i x with
  | some r => some r
  | none => CU f (i + 1) xs := rfl
def BG {R : Type} (a : Option R) (b : Option R) : Option R := match a with
 | some r => some r
 | none => b
theorem Cm {α R : Type} (L : Nat → Int → Option R) (xs : List α) (j : Option R) (f : Nat → α → Option R)
  (hs : ∀ (n i : Nat) (x : α), xs[i]? = some x → L (n + 1) (i : Int) = BG (f i x) (L n ((i + 1 : Nat) : Int))) (he : ∀ n : Nat, L (n + 1) (xs.length : Int) = j) :
  ∀ n i : Nat, i ≤ xs.length → xs.length - i < n → L n (i : Int) = BG (CU f i (xs.drop i)) j
 | 0, i, _, h => by omega
 | n + 1, i, hi, h => by
  by_cases h1 : i < xs.length
  ·have hx : xs[i]? = some xs[i] := by simp [h1]
   rw [hs n i _ hx, CQ hx, Cm L xs j f hs he n (i + 1) (by omega) (by omega)]
   rw [FR]
   cases f i xs[i] <;> rfl
  ·have : i = xs.length := by omega
   subst this
   rw [he n, zL (zN _)]
   rfl
theorem RE (N : Nat) (k n : Int) : DI N k n = some (decide (0 ≤ k) && decide (k < n)) := by
 unfold DI
 simp only [Bc]
 by_cases h : 0 ≤ k
 ·rw [Az h]; simp [h]
 ·rw [Av h]; simp [h]
theorem OF (N : Nat) (t : An) : Be N t = some (t.fP == 3 || t.fP == 4) := by
 unfold Be
 simp only [Bc]
 cases h : t.fP == 3 <;> simp
def sq (l : List (List Bool)) (n m : Int) : Bool := decide ((l.length : Int) = n) && l.all fun r => decide ((r.length : Int) = m)
theorem Pr {α : Type} (p : α → Bool) {R : Type} (r : Nat → R) : ∀ (i : Nat) (xs : List α), (CU (fun i x => if p x then none else some (r i)) i xs).isNone = xs.all p
 | i, [] => rfl
 | i, x :: xs => by
  unfold CU
  cases h : p x <;> simp [h, Pr p r (i + 1) xs]
theorem Q0 (N : Nat) (l : List (List Bool)) (n m : Int) (h : n < (N : Int)) (hN : N ≤ 1000000) : DX N l n m = some (sq l n m) := by
 unfold DX sq
 by_cases h1 : (l.length : Int) = n
 ·subst h1
  simp only [bne_self_eq_false, Ao, decide_true, yP]
  have := Cm (CO N l (l.length : Int) m (fun _ => some true)) l (some true) (fun _ r => if decide ((r.length : Int) = m) then none else some false)
   (fun n i x hx => by
    have hi := (lI.1 hx).1
    rw [CO, Az (by omega), AT, hx]
    simp only [oS]
    rw [AB (by omega)]
    by_cases h2 : (x.length : Int) = m
    ·simp [h2, BG]
    ·have : ((x.length : Int) != m) = true := by simpa using h2
     simp [h2, this, BG])
   (fun n => by rw [CO, Av (by omega)]) N 0 (by omega) (by omega)
  simp only [Int.ofNat_zero, zX] at this
  rw [this]
  have h3 := Pr (fun r : List Bool => decide ((r.length : Int) = m)) (fun _ => false) 0 l
  cases hsc : CU (fun (_ : Nat) (r : List Bool) => if decide ((r.length : Int) = m) = true then none else some false) 0 l with
  | none => rw [hsc] at h3; rw [← h3]; rfl
  | some b =>
   rw [hsc] at h3
   rw [← h3]
   have : ∀ (i : Nat) (xs : List (List Bool)) b, CU (fun (_ : Nat) (r : List Bool) => if decide ((r.length : Int) = m) = true then none else some false) i xs = some b → b = false := by
    intro i xs
    induction xs generalizing i with
    | nil => intro b hb; cases hb
    | cons x xs ih =>
     intro b hb
     unfold CU at hb
     split at hb
     ·rename_i r hr; cases hb; split at hr <;> simp at hr; exact hr
     ·exact ih _ b hb
   rw [this 0 l b hsc]; rfl
 ·have : ((l.length : Int) != n) = true := by simpa using h1
  simp [this, h1]
theorem Q6 (N : Nat) (l : List (List Bool)) (n m : Int) (h : n < (N : Int)) (hN : N ≤ 1000000) : FT N l n m = some (sq l n m) := by
 unfold FT sq
 simp only [Bc]
 by_cases h1 : (l.length : Int) = n
 ·subst h1
  simp only [beq_self_eq_true, AO, decide_true, yP]
  have := Cm (Bz N l (fun x => Ep N x m) (fun _ => some (-1))) l (some (-1)) (fun i r => if decide ((r.length : Int) = m) then none else some (i : Int))
   (fun n i x hx => by
    have hi := (lI.1 hx).1
    rw [Bz, Az (by omega), AT, hx]
    simp only [oS, Ep]
    rw [AB (by omega)]
    by_cases h2 : (x.length : Int) = m
    ·simp [h2, BG]
    ·have : ((x.length : Int) != m) = true := by simpa using h2
     simp [h2, this, BG])
   (fun n => by rw [Bz, Av (by omega)]) N 0 (by omega) (by omega)
  simp only [Int.ofNat_zero, zX] at this
  unfold Dm DQ
  rw [this]
  have h3 := Pr (fun r : List Bool => decide ((r.length : Int) = m)) (fun i : Nat => (i : Int)) 0 l
  cases hsc : CU (fun (i : Nat) (r : List Bool) => if decide ((r.length : Int) = m) = true then none else some (i : Int)) 0 l with
  | none => rw [hsc] at h3; rw [← h3]; rfl
  | some b =>
   rw [hsc] at h3
   rw [← h3]
   have : ∀ (i : Nat) (xs : List (List Bool)) b, CU (fun (i : Nat) (r : List Bool) => if decide ((r.length : Int) = m) = true then none else some (i : Int)) i xs = some b → 0 ≤ b := by
    intro i xs
    induction xs generalizing i with
    | nil => intro b hb; cases hb
    | cons x xs ih =>
     intro b hb
     rw [FR] at hb
     split at hb
     ·rename_i r hr
      cases hb
      split at hr
      ·cases hr
      ·cases hr; omega
     ·exact ih _ b hb
   have := this 0 l b hsc
   simp [BG, this]
 ·have : ((l.length : Int) == n) = false := by simpa using h1
  simp [this, h1]
open List renaming mem_of_getElem? → lM
open List renaming getD_eq_getElem?_getD → lD
def Kb (l : List (List Bool)) : Option Int := CU (fun i row => if row.getD i false then none else some 1) 0 l
theorem Te {row : List Bool} {i : Nat} (h : i < row.length) : Bl row (i : Int) = some (row.getD i false) := by
 rw [AT, lD]; simp [h]
theorem Zk (N : Nat) (t : An) (h : t.fT.length < N) (hN : N ≤ 1000000) (hsq : ∀ row, row ∈ t.fT → row.length = t.fT.length) (j : Option Int) :
  Cf N t (fun _ => j) N 0 = BG (Kb t.fT) j := by
 have := Cm (Cf N t (fun _ => j)) t.fT j (fun i row => if row.getD i false then none else some 1)
  (fun n i x hx => by
   have hi := (lI.1 hx).1
   have hl := hsq x (lM hx)
   rw [Cf, Az (by omega), AT, hx]
   simp only [oS]
   rw [Te (by omega), AB (by omega)]
   simp only [oS]
   cases x.getD i false <;> rfl)
  (fun n => by rw [Cf, Av (by omega)]) N 0 (by omega) (by omega)
 simpa [Kb] using this
theorem Ri (N : Nat) (t : An) (h : t.fT.length < N) (hN : N ≤ 1000000) (hsq : ∀ row, row ∈ t.fT → row.length = t.fT.length) (j : Option Int) :
  DG N t (fun _ => j) N 0 = BG (Kb t.fT) j := by
 have := Cm (DG N t (fun _ => j)) t.fT j (fun i row => if row.getD i false then none else some 1)
  (fun n i x hx => by
   have hi := (lI.1 hx).1
   have hl := hsq x (lM hx)
   rw [DG, Az (by omega), AT, hx]
   simp only [oS]
   rw [Te (by omega), AB (by omega)]
   simp only [oS]
   cases x.getD i false <;> rfl)
  (fun n => by rw [DG, Av (by omega)]) N 0 (by omega) (by omega)
 simpa [Kb] using this
theorem Pe {l : List (List Bool)} {n m : Int} (h : sq l n m = true) : (l.length : Int) = n ∧ ∀ row, row ∈ l → (row.length : Int) = m := by
 unfold sq at h
 simp only [zI, decide_eq_true_eq, zG] at h
 exact h
def D9 (p : Aa) (t : An) : Int :=
 if t.fP < 1 ∨ 4 < t.fP ∨ (t.fY = true ∧ (t.fP = 3 ∨ t.fP = 4)) then 1
 else if t.fO < 0 ∨ (p.fJ.length : Int) ≤ t.fO ∨ t.fS < 0 ∨ (p.fJ.length : Int) ≤ t.fS then 4
 else
  let f := p.fJ.getD t.fO.toNat 0
  let g := p.fJ.getD t.fS.toNat 0
  if sq t.fX f g = false then 6
  else if t.fP = 4 then (if sq t.fT f f = false then 6 else (Kb t.fT).getD 0)
  else if t.fT.length = 0 then 0 else 6
theorem Eo {α : Type} {xs : List α} {i : Int} {d : α} (h0 : 0 ≤ i) (h1 : i < (xs.length : Int)) : Bl xs i = some (xs.getD i.toNat d) := by
 obtain ⟨k, rfl⟩ := zJ h0
 rw [AT, lD, zT]
 simp [show k < xs.length from by omega]
theorem Xu {t : An} (A B : Option Int) (hk : ¬ (t.fY = true ∧ (t.fP = 3 ∨ t.fP = 4))) : AN t.fY (AN (t.fP == 3 || t.fP == 4) A B) B = B := by
 cases ha : t.fY
 ·rfl
 ·have : (t.fP == 3 || t.fP == 4) = false := by
   rw [uU]
   constructor
   ·simp only [beq_eq_false_iff_ne]; intro h; exact hk ⟨ha, .inl h⟩
   ·simp only [beq_eq_false_iff_ne]; intro h; exact hk ⟨ha, .inr h⟩
  rw [this]; rfl
theorem KE {p : Aa} {i : Int} (hv : ∀ v, v ∈ p.fJ → 1 ≤ v ∧ v ≤ 6) (h0 : 0 ≤ i) (h1 : i < (p.fJ.length : Int)) : 1 ≤ p.fJ.getD i.toNat 0 ∧ p.fJ.getD i.toNat 0 ≤ 6 := by
 refine hv _ ?_
 rw [lD, yK (by omega)]
 exact xQ _
theorem Wm (N : Nat) (p : Aa) (t : An) (hN : N ≤ 1000000) (h6 : 7 ≤ N) (hv : ∀ v, v ∈ p.fJ → 1 ≤ v ∧ v ≤ 6) : Fa N p t = some (D9 p t) := by
 unfold Fa D9
 simp only [Bc, OF, oS]
 by_cases k1 : t.fP < 1
 ·simp [k1]
 by_cases k2 : 4 < t.fP
 ·simp [k1, k2]
 rw [Av k1, Av k2]
 by_cases hk : t.fY = true ∧ (t.fP = 3 ∨ t.fP = 4)
 ·obtain ⟨ha, k | k⟩ := hk <;> simp [ha, k]
 rw [Ao, Xu _ _ hk, if_neg (fun h => h.elim k1 fun h => h.elim k2 hk)]
 by_cases f1 : t.fO < 0
 ·simp [f1]
 by_cases f2 : (p.fJ.length : Int) ≤ t.fO
 ·simp [f1, f2]
 by_cases f3 : t.fS < 0
 ·simp [f1, f2, f3]
 by_cases f4 : (p.fJ.length : Int) ≤ t.fS
 ·simp [f1, f2, f3, f4]
 rw [Av f1, Av f2, Av f3, if_neg (fun h => h.elim f1 fun h => h.elim f2 fun h => h.elim f3 f4)]
 have hf := KE hv (i := t.fO) (by omega) (by omega)
 rw [decide_eq_false f4, Ao, Eo (d := 0) (by omega : 0 ≤ t.fO) (by omega), Eo (d := 0) (by omega : 0 ≤ t.fS) (by omega)]
 simp only [oS]
 generalize p.fJ.getD t.fO.toNat 0 = f at *
 generalize p.fJ.getD t.fS.toNat 0 = g at *
 rw [Q0 N t.fX f g (by omega) hN, Q0 N t.fT f f (by omega) hN]
 simp only [oS]
 cases hq : sq t.fX f g
 ·rfl
 simp only [yA, Ao]
 by_cases k4 : t.fP = 4
 ·have : (t.fP != 4) = false := by simp [k4]
  rw [this, Ao]
  simp only [k4, if_true]
  cases hr : sq t.fT f f
  ·rfl
  ·have h7 := Pe hr
   simp only [yA, Ao]
   rw [Zk N t (by omega) hN (fun row hm => by have := h7.2 row hm; omega)]
   cases Kb t.fT <;> simp [BG]
 ·have : (t.fP != 4) = true := by simpa using k4
  rw [this, AO]
  simp only [k4, if_false]
  by_cases hr : t.fT.length = 0
  ·simp [hr]
  ·have : ((t.fT.length : Int) != 0) = true := bne_iff_ne.2 (by omega)
   rw [this]; simp [hr]
theorem Zz (N : Nat) (k : Int) (a : Bool) : HS N k a = some (k == 1 || (k == 2 || ((k == 3 || k == 4) && !a))) := by
 unfold HS
 simp only [Bc]
 cases h1 : k == 1 <;> cases h2 : k == 2 <;> cases h3 : k == 3 <;> cases h4 : k == 4 <;> cases a <;> rfl
theorem Px (N : Nat) (p : Aa) (t : An) (hN : N ≤ 1000000) (h6 : 7 ≤ N) (hv : ∀ v, v ∈ p.fJ → 1 ≤ v ∧ v ≤ 6) : Hk N p t = some (D9 p t) := by
 unfold Hk D9
 simp only [Bc, Zz, RE, oS]
 by_cases hb : t.fP < 1 ∨ 4 < t.fP ∨ (t.fY = true ∧ (t.fP = 3 ∨ t.fP = 4))
 ·have : (t.fP == 1 || (t.fP == 2 || ((t.fP == 3 || t.fP == 4) && !t.fY))) = false := by
   rcases hb with h | h | ⟨ha, h | h⟩
   ·rw [beq_eq_false_iff_ne.2 (by omega : t.fP ≠ 1), beq_eq_false_iff_ne.2 (by omega : t.fP ≠ 2), beq_eq_false_iff_ne.2 (by omega : t.fP ≠ 3), beq_eq_false_iff_ne.2 (by omega : t.fP ≠ 4)]; rfl
   ·rw [beq_eq_false_iff_ne.2 (by omega : t.fP ≠ 1), beq_eq_false_iff_ne.2 (by omega : t.fP ≠ 2), beq_eq_false_iff_ne.2 (by omega : t.fP ≠ 3), beq_eq_false_iff_ne.2 (by omega : t.fP ≠ 4)]; rfl
   ·simp [ha, h]
   ·simp [ha, h]
  rw [this, if_pos hb]; rfl
 ·have : (t.fP == 1 || (t.fP == 2 || ((t.fP == 3 || t.fP == 4) && !t.fY))) = true := by
   have hk : t.fP = 1 ∨ t.fP = 2 ∨ t.fP = 3 ∨ t.fP = 4 := by
    have h1 : ¬ t.fP < 1 := fun h => hb (.inl h)
    have h2 : ¬ 4 < t.fP := fun h => hb (.inr (.inl h))
    omega
   rcases hk with h | h | h | h
   ·simp [h]
   ·simp [h]
   ·cases ha : t.fY
    ·simp [h]
    ·exact (hb (.inr (.inr ⟨ha, .inl h⟩))).elim
   ·cases ha : t.fY
    ·simp [h]
    ·exact (hb (.inr (.inr ⟨ha, .inr h⟩))).elim
  rw [this, if_neg hb]
  simp only [yA, Ao]
  by_cases f1 : t.fO < 0
  ·simp [f1, show ¬ (0 ≤ t.fO) from by omega]
  by_cases f2 : (p.fJ.length : Int) ≤ t.fO
  ·simp [f2, show ¬ (t.fO < (p.fJ.length : Int)) from by omega]
  by_cases f3 : t.fS < 0
  ·simp [f3, show 0 ≤ t.fO from by omega, show t.fO < (p.fJ.length : Int) from by omega, show ¬ (0 ≤ t.fS) from by omega]
  by_cases f4 : (p.fJ.length : Int) ≤ t.fS
  ·simp [f4, show 0 ≤ t.fO from by omega, show t.fO < (p.fJ.length : Int) from by omega, show ¬ (t.fS < (p.fJ.length : Int)) from by omega]
  rw [if_neg (fun h => h.elim f1 fun h => h.elim f2 fun h => h.elim f3 f4)]
  have hf := KE hv (i := t.fO) (by omega) (by omega)
  have hg := KE hv (i := t.fS) (by omega) (by omega)
  rw [decide_eq_true (by omega : 0 ≤ t.fO), decide_eq_true (by omega : t.fO < (p.fJ.length : Int)), decide_eq_true (by omega : 0 ≤ t.fS), decide_eq_true (by omega : t.fS < (p.fJ.length : Int)), Eo (d := 0) (by omega : 0 ≤ t.fO) (by omega), Eo (d := 0) (by omega : 0 ≤ t.fS) (by omega)]
  simp only [Bool.and_self, yA, Ao, oS]
  generalize p.fJ.getD t.fO.toNat 0 = f at *
  generalize p.fJ.getD t.fS.toNat 0 = g at *
  rw [Q6 N t.fX f g (by omega) hN, Q6 N t.fT f f (by omega) hN]
  simp only [oS]
  cases hq : sq t.fX f g
  ·rfl
  simp only [yA, Ao]
  by_cases k4 : t.fP = 4
  ·simp only [k4, beq_self_eq_true, AO, if_true]
   cases hr : sq t.fT f f
   ·rfl
   ·have h7 := Pe hr
    simp only [yA, Ao]
    rw [Ri N t (by omega) hN (fun row hm => by have := h7.2 row hm; omega)]
    cases Kb t.fT <;> simp [BG]
  ·have : (t.fP == 4) = false := beq_eq_false_iff_ne.2 k4
   rw [this, Ao]
   simp only [k4, if_false, yT, AO]
   by_cases hr : t.fT.length = 0
   ·rw [Ri N t (by omega) hN (fun row hm => by rw [yN hr] at hm; cases hm), yN hr]
    simp [Kb, CU, BG]
   ·rw [decide_eq_true (by omega : 0 < (t.fT.length : Int))]
    simp [hr]
def Gq (p : Aa) (i : Nat) (v : Int) : Option Int :=
 if v < 1 ∨ 6 < v ∨ p.fQ.getD i 0 < 0 ∨ v ≤ p.fQ.getD i 0 ∨ p.fU.getD i 0 < 0 ∨ v ≤ p.fU.getD i 0 then some 7 else none
def MH (p : Aa) (_ : Nat) (t : An) : Option Int := if D9 p t = 0 then none else some (D9 p t)
def BB (p : Aa) : Int :=
 if 6 < p.fJ.length ∨ 12 < p.fK.length then 3
 else if p.fQ.length ≠ p.fJ.length ∨ p.fU.length ≠ p.fJ.length then 6
 else ((BG (CU (Gq p) 0 p.fJ) (CU (MH p) 0 p.fK)).getD 0)
theorem Fg {α R : Type} {f : Nat → α → Option R} : ∀ {i : Nat} {xs : List α}, CU f i xs = none → ∀ j x, xs[j]? = some x → f (i + j) x = none
 | _, [], _, j, x, hx => by simp at hx
 | i, y :: ys, h, j, x, hx => by
  rw [FR] at h
  split at h
  ·cases h
  ·rename_i h0
   cases j with
   | zero => simp at hx; subst hx; exact h0
   | succ j =>
    have := Fg h j x (by simpa using hx)
    rwa [show i + 1 + j = i + (j + 1) from by omega] at this
theorem PM {p : Aa} (h : CU (Gq p) 0 p.fJ = none) : ∀ v, v ∈ p.fJ → 1 ≤ v ∧ v ≤ 6 := by
 intro v hv
 obtain ⟨i, hi⟩ := zU.1 hv
 have := Fg h i v hi
 unfold Gq at this
 split at this
 ·cases this
 ·rename_i hn
  constructor
  ·exact Int.not_lt.1 fun h => hn (.inl h)
  ·exact Int.not_lt.1 fun h => hn (.inr (.inl h))
theorem Dd {α : Type} {xs : List α} {i : Nat} {d : α} (h : i < xs.length) : Bl xs (i : Int) = some (xs.getD i d) := by
 rw [AT, lD]; simp [h]
theorem Uq (N : Nat) (p : Aa) (hN : N ≤ 1000000) (h1 : p.fJ.length < N) (h2 : p.fQ.length = p.fJ.length) (h3 : p.fU.length = p.fJ.length) (j : Option Int) :
  Bs N p (fun _ => j) N 0 = BG (CU (Gq p) 0 p.fJ) j := by
 have := Cm (Bs N p (fun _ => j)) p.fJ j (Gq p)
  (fun n i x hx => by
   have hi := (lI.1 hx).1
   rw [Bs, Az (by omega), AT, hx]
   simp only [oS, Bc]
   rw [Dd (d := 0) (by omega), Dd (d := 0) (by omega), AB (by omega)]
   simp only [oS]
   unfold Gq
   generalize p.fQ.getD i 0 = a
   generalize p.fU.getD i 0 = b
   by_cases k1 : x < 1 <;> by_cases k2 : 6 < x <;> by_cases k3 : a < 0 <;> by_cases k4 : x ≤ a <;> by_cases k5 : b < 0 <;> by_cases k6 : x ≤ b <;> simp [k1, k2, k3, k4, k5, k6, BG])
  (fun n => by rw [Bs, Av (by omega)]) N 0 (by omega) (by omega)
 simpa using this
theorem R5 (N : Nat) (p : Aa) (hN : N ≤ 1000000) (h1 : p.fJ.length < N) (h2 : p.fQ.length = p.fJ.length) (h3 : p.fU.length = p.fJ.length) (j : Option Int) :
  Cb N p (fun _ => j) N 0 = BG (CU (Gq p) 0 p.fJ) j := by
 have := Cm (Cb N p (fun _ => j)) p.fJ j (Gq p)
  (fun n i x hx => by
   have hi := (lI.1 hx).1
   rw [Cb, Az (by omega), AT, hx]
   simp only [oS, Bc, RE]
   rw [Dd (d := 0) (by omega), Dd (d := 0) (by omega), AB (by omega)]
   simp only [oS]
   unfold Gq
   generalize p.fQ.getD i 0 = a
   generalize p.fU.getD i 0 = b
   have e1 : decide (0 ≤ a) = !decide (a < 0) := by rw [← decide_not]; congr 1; simp
   have e2 : decide (a < x) = !decide (x ≤ a) := by rw [← decide_not]; congr 1; simp
   have e3 : decide (0 ≤ b) = !decide (b < 0) := by rw [← decide_not]; congr 1; simp
   have e4 : decide (b < x) = !decide (x ≤ b) := by rw [← decide_not]; congr 1; simp
   rw [e1, e2, e3, e4]
   by_cases k1 : x < 1 <;> by_cases k2 : 6 < x <;> by_cases k3 : a < 0 <;> by_cases k4 : x ≤ a <;> by_cases k5 : b < 0 <;> by_cases k6 : x ≤ b <;> simp [k1, k2, k3, k4, k5, k6, BG])
  (fun n => by rw [Cb, Av (by omega)]) N 0 (by omega) (by omega)
 simpa using this
theorem XU (N : Nat) (p : Aa) (hN : N ≤ 1000000) (h6 : 7 ≤ N) (h1 : p.fK.length < N) (hv : ∀ v, v ∈ p.fJ → 1 ≤ v ∧ v ≤ 6) (j : Option Int) :
  Bj N p (fun _ => j) N 0 = BG (CU (MH p) 0 p.fK) j := by
 have := Cm (Bj N p (fun _ => j)) p.fK j (MH p)
  (fun n i x hx => by
   have hi := (lI.1 hx).1
   rw [Bj, Az (by omega), AT, hx]
   simp only [oS]
   rw [Wm N p x hN h6 hv, AB (by omega)]
   simp only [oS]
   unfold MH
   by_cases k : D9 p x = 0
   ·simp [k, BG]
   ·rw [bne_iff_ne.2 k, if_neg k]; rfl)
  (fun n => by rw [Bj, Av (by omega)]) N 0 (by omega) (by omega)
 simpa using this
theorem UV (N : Nat) (p : Aa) (hN : N ≤ 1000000) (h6 : 7 ≤ N) (h1 : p.fK.length < N) (hv : ∀ v, v ∈ p.fJ → 1 ≤ v ∧ v ≤ 6) (j : Option Int) :
  B4 N p (fun _ => j) N 0 = BG (CU (MH p) 0 p.fK) j := by
 have := Cm (B4 N p (fun _ => j)) p.fK j (MH p)
  (fun n i x hx => by
   have hi := (lI.1 hx).1
   rw [B4, Az (by omega), AT, hx]
   simp only [oS]
   rw [Px N p x hN h6 hv, AB (by omega)]
   simp only [oS]
   unfold MH
   by_cases k : D9 p x = 0
   ·simp [k, BG]
   ·rw [bne_iff_ne.2 k, if_neg k]; rfl)
  (fun n => by rw [B4, Av (by omega)]) N 0 (by omega) (by omega)
 simpa using this
theorem Lo (N : Nat) (p : Aa) (hN : N ≤ 1000000) (h : 20 ≤ N) : BN N p = some (BB p) := by
 unfold BN BB
 simp only [Bc]
 by_cases k1 : 6 < p.fJ.length
 ·rw [Az (by omega)]; simp [k1]
 rw [Av (by omega)]
 by_cases k2 : 12 < p.fK.length
 ·rw [decide_eq_true (by omega : (12 : Int) < (p.fK.length : Int))]; simp [k2]
 rw [decide_eq_false (by omega : ¬ (12 : Int) < (p.fK.length : Int)), Ao, if_neg (by omega)]
 by_cases k3 : p.fQ.length = p.fJ.length
 ·by_cases k4 : p.fU.length = p.fJ.length
  ·rw [k3, k4]
   simp only [bne_self_eq_false, Ao, ne_eq, not_true_eq_false, or_self, if_false]
   rw [Uq N p hN (by omega) k3 k4]
   cases hs : CU (Gq p) 0 p.fJ with
   | some r => rfl
   | none =>
    simp only [BG]
    rw [XU N p hN (by omega) (by omega) (PM hs)]
    cases CU (MH p) 0 p.fK <;> rfl
  ·have : ((p.fU.length : Int) != (p.fJ.length : Int)) = true := bne_iff_ne.2 (by omega)
   rw [this, k3]; simp [k4]
 ·have : ((p.fQ.length : Int) != (p.fJ.length : Int)) = true := bne_iff_ne.2 (by omega)
  rw [this]; simp [k3]
theorem JN (N : Nat) (p : Aa) (hN : N ≤ 1000000) (h : 20 ≤ N) : Ck N p = some (BB p) := by
 unfold Ck BB
 simp only [Bc]
 by_cases k1 : 6 < p.fJ.length
 ·rw [Az (by omega)]; simp [k1]
 rw [Av (by omega)]
 by_cases k2 : 12 < p.fK.length
 ·rw [decide_eq_true (by omega : (12 : Int) < (p.fK.length : Int))]; simp [k2]
 rw [decide_eq_false (by omega : ¬ (12 : Int) < (p.fK.length : Int)), Ao, if_neg (by omega)]
 by_cases k3 : p.fQ.length = p.fJ.length
 ·by_cases k4 : p.fU.length = p.fJ.length
  ·rw [k3, k4]
   simp only [bne_self_eq_false, Ao, ne_eq, not_true_eq_false, or_self, if_false]
   rw [R5 N p hN (by omega) k3 k4]
   cases hs : CU (Gq p) 0 p.fJ with
   | some r => rfl
   | none =>
    simp only [BG]
    rw [UV N p hN (by omega) (by omega) (PM hs)]
    cases CU (MH p) 0 p.fK <;> rfl
  ·have : ((p.fU.length : Int) != (p.fJ.length : Int)) = true := bne_iff_ne.2 (by omega)
   rw [this, k3]; simp [k4]
 ·have : ((p.fQ.length : Int) != (p.fJ.length : Int)) = true := bne_iff_ne.2 (by omega)
  rw [this]; simp [k3]
theorem J5 {n : Int} (h : Ly n) : 0 ≤ n ∧ n ≤ 255 := by
 unfold Ly at h
 simpa [Lit.wf, IntKind.min, IntKind.max, IntKind.signed, IntKind.bits] using h
theorem QP : ∀ k : Fin 256, Df .u8 0 (k.val : Int) = 0 := by decide +kernel
theorem QU : ∀ k : Fin 256, Df .u8 (k.val : Int) 0 = (k.val : Int) := by decide +kernel
theorem X6 {n : Int} (h : Ly n) : Df .u8 0 n = 0 := by
 have := J5 h
 obtain ⟨k, rfl⟩ := zJ this.1
 exact QP ⟨k, by omega⟩
theorem Ya {n : Int} (h : Ly n) : Df .u8 n 0 = n := by
 have := J5 h
 obtain ⟨k, rfl⟩ := zJ this.1
 exact QU ⟨k, by omega⟩
theorem Dw {α R : Type} {f : Nat → α → Option R} : ∀ {i : Nat} {xs : List α} {r : R}, CU f i xs = some r → ∃ j x, xs[j]? = some x ∧ f (i + j) x = some r
 | _, [], _, h => by cases h
 | i, y :: ys, r, h => by
  rw [FR] at h
  split at h
  ·rename_i r' h0
   cases h
   exact ⟨0, y, rfl, h0⟩
  ·obtain ⟨j, x, h1, h2⟩ := Dw h
   exact ⟨j + 1, x, by simpa using h1, by rwa [show i + (j + 1) = i + 1 + j from by omega]⟩
structure Bg (p : Aa) : Prop where
 nv : p.fJ.length ≤ 6
 nt : p.fK.length ≤ 12
 now : p.fQ.length = p.fJ.length
 tgt : p.fU.length = p.fJ.length
 ver : ∀ v, v ∈ p.fJ → 1 ≤ v ∧ v ≤ 6
 tab : ∀ t, t ∈ p.fK → D9 p t = 0
theorem Vi (l : List (List Bool)) : (Kb l).getD 0 = 0 ∨ (Kb l).getD 0 = 1 := by
 cases h : Kb l with
 | none => exact .inl rfl
 | some r =>
  obtain ⟨j, x, _, h⟩ := Dw h
  split at h
  ·cases h
  ·cases h; exact .inr rfl
theorem Sb (p : Aa) (t : An) : D9 p t = 0 ∨ D9 p t = 1 ∨ D9 p t = 4 ∨ D9 p t = 6 := by
 unfold D9
 split
 ·exact .inr (.inl rfl)
 split
 ·exact .inr (.inr (.inl rfl))
 simp only
 split
 ·exact .inr (.inr (.inr rfl))
 split
 ·split
  ·exact .inr (.inr (.inr rfl))
  ·rcases Vi t.fT with h | h
   ·exact .inl h
   ·exact .inr (.inl h)
 ·split
  ·exact .inl rfl
  ·exact .inr (.inr (.inr rfl))
theorem Ir (p : Aa) : (BB p = 0 ∧ Bg p) ∨ (BB p = 1 ∨ BB p = 3 ∨ BB p = 4 ∨ BB p = 6 ∨ BB p = 7) := by
 unfold BB
 split
 ·simp
 rename_i k1
 split
 ·simp
 rename_i k2
 cases hs : CU (Gq p) 0 p.fJ with
 | some r =>
  obtain ⟨j, x, _, h⟩ := Dw hs
  unfold Gq at h
  split at h
  ·cases h; simp [BG]
  ·cases h
 | none =>
  cases ht : CU (MH p) 0 p.fK with
  | some r =>
   obtain ⟨j, t, _, h⟩ := Dw ht
   unfold MH at h
   split at h
   ·cases h
   ·rename_i hne
    cases h
    simp only [BG, yF]
    right
    rcases Sb p t with h | h | h | h
    ·exact (hne h).elim
    ·exact .inl h
    ·exact .inr (.inr (.inl h))
    ·exact .inr (.inr (.inr (.inl h)))
  | none =>
   left
   refine ⟨rfl, by omega, by omega, by omega, by omega, PM hs, fun t hm => ?_⟩
   obtain ⟨j, hj⟩ := zU.1 hm
   have := Fg ht j t hj
   unfold MH at this
   split at this
   ·assumption
   ·cases this
def HQ (m : Ab) (s : Nat) : Int :=
 if 0 ≤ m.fI.getD s 0 then Qz .u8 (D8 .u8 1 (m.fL.getD s 0)) (D8 .u8 1 (m.fI.getD s 0)) else D8 .u8 1 (m.fL.getD s 0)
def L4 (m : Ab) (i : Nat) (v : Int) : Option Int :=
 if m.fL.getD i 0 < 0 ∨ v ≤ m.fL.getD i 0 ∨ m.fI.getD i 0 < -1 ∨ v ≤ m.fI.getD i 0 then some 7
 else if m.fL.getD i 0 = m.fI.getD i 0 then some 1 else none
def B8 (t : An) : Bool := t.fP == 3 || t.fP == 4
def Zp (p : Aa) (t : An) : Int := wI .u8 (D8 .u8 1 (p.fJ.getD t.fO.toNat 0) - 1)
def JA (p : Aa) (m : Ab) (i : Nat) (t : An) : Option Int :=
 if B8 t = true then (if Df .u8 (HQ m t.fO.toNat) (m.fN.getD i 0) ≠ 0 ∨ Df .u8 (m.fN.getD i 0) (Zp p t) ≠ 0 then some 1 else none)
 else if m.fN.getD i 0 ≠ 0 then some 1 else none
def BX (p : Aa) (m : Ab) : Int :=
 if BB p ≠ 0 then BB p
 else if m.fL.length ≠ p.fJ.length ∨ m.fI.length ≠ p.fJ.length ∨ m.fN.length ≠ p.fK.length then 6
 else (BG (CU (L4 m) 0 p.fJ) (CU (JA p m) 0 p.fK)).getD 0
theorem J0 {p : Aa} {t : An} (h : D9 p t = 0) : 0 ≤ t.fO ∧ t.fO < (p.fJ.length : Int) ∧ 0 ≤ t.fS ∧ t.fS < (p.fJ.length : Int) := by
 unfold D9 at h
 split at h
 ·cases h
 ·split at h
  ·cases h
  ·omega
theorem M5 (N : Nat) (m : Ab) (s : Int) (h0 : 0 ≤ s) (h1 : s < (m.fL.length : Int)) (h2 : s < (m.fI.length : Int)) (hb : 0 ≤ m.fL.getD s.toNat 0) : FB N m s = some (HQ m s.toNat) := by
 unfold FB HQ
 rw [Eo (d := 0) h0 h1, Eo (d := 0) h0 h2]
 simp only [oS, Bc]
 rw [show D3 (0 ≤ m.fL.getD s.toNat 0) = some () from by unfold D3; rw [if_pos hb]]
 simp only [oS]
 by_cases h : 0 ≤ m.fI.getD s.toNat 0
 ·rw [Az h, if_pos h, show D3 (0 ≤ m.fI.getD s.toNat 0) = some () from by unfold D3; rw [if_pos h]]; rfl
 ·rw [Av h, if_neg h]
theorem Li (N : Nat) (m : Ab) (s : Int) (h0 : 0 ≤ s) (h1 : s < (m.fL.length : Int)) (h2 : s < (m.fI.length : Int)) (hb : 0 ≤ m.fL.getD s.toNat 0) : B9 N m s = some (HQ m s.toNat) := by
 unfold B9 HQ
 rw [Eo (d := 0) h0 h1, Eo (d := 0) h0 h2]
 simp only [oS, Bc]
 rw [show D3 (0 ≤ m.fL.getD s.toNat 0) = some () from by unfold D3; rw [if_pos hb]]
 simp only [oS]
 by_cases h : 0 ≤ m.fI.getD s.toNat 0
 ·rw [Az h, if_pos h, show D3 (0 ≤ m.fI.getD s.toNat 0) = some () from by unfold D3; rw [if_pos h]]; rfl
 ·rw [Av h, if_neg h]
theorem R0 (N : Nat) (p : Aa) (m : Ab) (hN : N ≤ 1000000) (h1 : p.fJ.length < N) (h2 : m.fL.length = p.fJ.length) (h3 : m.fI.length = p.fJ.length) (j : Option Int) :
  ED N p m (fun _ => j) N 0 = BG (CU (L4 m) 0 p.fJ) j := by
 have := Cm (ED N p m (fun _ => j)) p.fJ j (L4 m)
  (fun n i x hx => by
   have hi := (lI.1 hx).1
   rw [ED, Az (by omega), AT, hx]
   simp only [oS, Bc]
   rw [Dd (d := 0) (by omega), Dd (d := 0) (by omega), AB (by omega)]
   simp only [oS]
   unfold L4
   generalize m.fL.getD i 0 = a
   generalize m.fI.getD i 0 = b
   by_cases k7 : a = b
   ·subst k7
    by_cases k3 : a < 0 <;> by_cases k4 : x ≤ a <;> by_cases k5 : a < -1 <;> simp [k3, k4, k5, BG]
   ·have k8 : (a == b) = false := beq_eq_false_iff_ne.2 k7
    by_cases k3 : a < 0 <;> by_cases k4 : x ≤ a <;> by_cases k5 : b < -1 <;> by_cases k6 : x ≤ b <;> simp [k3, k4, k5, k6, k7, k8, BG])
  (fun n => by rw [ED, Av (by omega)]) N 0 (by omega) (by omega)
 simpa using this
theorem RY (N : Nat) (p : Aa) (m : Ab) (hN : N ≤ 1000000) (h1 : p.fJ.length < N) (h2 : m.fL.length = p.fJ.length) (h3 : m.fI.length = p.fJ.length) (j : Option Int) :
  Co N p m (fun _ => j) N 0 = BG (CU (L4 m) 0 p.fJ) j := by
 have := Cm (Co N p m (fun _ => j)) p.fJ j (L4 m)
  (fun n i x hx => by
   have hi := (lI.1 hx).1
   rw [Co, Az (by omega), show Bl p.fJ (i : Int) = some x from by rw [AT, hx]]
   simp only [oS, Bc]
   rw [Dd (d := 0) (by omega), Dd (d := 0) (by omega), AB (by omega)]
   simp only [oS]
   unfold L4
   generalize m.fL.getD i 0 = a
   generalize m.fI.getD i 0 = b
   by_cases k7 : a = b
   ·subst k7
    by_cases k3 : a < 0 <;> by_cases k4 : x ≤ a <;> by_cases k5 : a < -1 <;> simp [k3, k4, k5, BG]
   ·have k8 : (a == b) = false := beq_eq_false_iff_ne.2 k7
    by_cases k3 : a < 0 <;> by_cases k4 : x ≤ a <;> by_cases k5 : b < -1 <;> by_cases k6 : x ≤ b <;> simp [k3, k4, k5, k6, k7, k8, BG])
  (fun n => by rw [Co, Av (by omega)]) N 0 (by omega) (by omega)
 simpa using this
structure MixServ (p : Aa) (m : Ab) : Prop where
 base : m.fL.length = p.fJ.length
 next : m.fI.length = p.fJ.length
 held : m.fN.length = p.fK.length
 b0 : ∀ i, i < p.fJ.length → 0 ≤ m.fL.getD i 0 ∧ m.fL.getD i 0 < p.fJ.getD i 0
 n0 : ∀ i, i < p.fJ.length → -1 ≤ m.fI.getD i 0 ∧ m.fI.getD i 0 < p.fJ.getD i 0
 ne : ∀ i, i < p.fJ.length → m.fL.getD i 0 ≠ m.fI.getD i 0
theorem Sz {p : Aa} {m : Ab} (h2 : m.fL.length = p.fJ.length) (h3 : m.fI.length = p.fJ.length) (h4 : m.fN.length = p.fK.length) (h : CU (L4 m) 0 p.fJ = none) : MixServ p m := by
 have key : ∀ i, i < p.fJ.length → ¬ (m.fL.getD i 0 < 0 ∨ p.fJ.getD i 0 ≤ m.fL.getD i 0 ∨ m.fI.getD i 0 < -1 ∨ p.fJ.getD i 0 ≤ m.fI.getD i 0) ∧ ¬ m.fL.getD i 0 = m.fI.getD i 0 := by
  intro i hi
  have hx : p.fJ[i]? = some (p.fJ.getD i 0) := by rw [lD]; simp [hi]
  have := Fg h i _ hx
  rw [zC] at this
  unfold L4 at this
  split at this
  ·cases this
  ·split at this
   ·cases this
   ·rename_i k1 k2; exact ⟨k1, k2⟩
 exact ⟨h2, h3, h4, fun i hi => by have := (key i hi).1; omega, fun i hi => by have := (key i hi).1; omega, fun i hi => (key i hi).2⟩
theorem TF {m : Ab} (hw : LH Ly m.fN) {i : Nat} (h : i < m.fN.length) : Ly (m.fN.getD i 0) := by
 refine hw _ ?_
 rw [lD, yK h]
 exact xQ _
theorem KD (N : Nat) (t : An) : Ga N t = some (B8 t) := by
 unfold Ga B8
 simp only [Bc]
 cases h : t.fP == 3 <;> simp
theorem HK (N : Nat) (t : An) : Be N t = some (B8 t) := OF N t
theorem Ur (N : Nat) (p : Aa) (m : Ab) (hN : N ≤ 1000000) (h1 : p.fK.length < N) (hp : Bg p) (hm : MixServ p m) (hw : LH Ly m.fN) (j : Option Int) :
  Eg N p m (fun _ => j) N 0 = BG (CU (JA p m) 0 p.fK) j := by
 have := Cm (Eg N p m (fun _ => j)) p.fK j (JA p m)
  (fun n i x hx => by
   have hi := (lI.1 hx).1
   have hin := J0 (hp.tab x (lM hx))
   have hheld := TF hw (show i < m.fN.length from by rw [hm.held]; exact hi)
   have hv := KE hp.ver hin.1 hin.2.1
   rw [Eg, Az (by omega), AT, hx]
   simp only [oS, Bc, KD]
   rw [M5 N m x.fO hin.1 (by rw [hm.base]; exact hin.2.1) (by rw [hm.next]; exact hin.2.1) (hm.b0 _ (by omega)).1, Eo (d := 0) hin.1 hin.2.1, Dd (d := 0) (show i < m.fN.length from by rw [hm.held]; exact hi), AB (by omega)]
   simp only [oS]
   rw [show D3 (0 ≤ p.fJ.getD x.fO.toNat 0) = some () from by unfold D3; rw [if_pos (by omega)]]
   simp only [oS]
   unfold JA Zp
   rw [X6 hheld, Ya hheld]
   generalize Df .u8 (HQ m x.fO.toNat) (m.fN.getD i 0) = A
   generalize Df .u8 (m.fN.getD i 0) (wI .u8 (D8 .u8 1 (p.fJ.getD x.fO.toNat 0) - 1)) = B
   generalize m.fN.getD i 0 = H
   cases B8 x
   ·simp only [Ao, bne_self_eq_false]
    by_cases k : H = 0
    ·simp [k, BG]
    ·have : (H != 0) = true := bne_iff_ne.2 k
     simp [k, this, BG]
   ·simp only [AO]
    by_cases k : A = 0
    ·by_cases k2 : B = 0
     ·simp [k, k2, BG]
     ·have : (B != 0) = true := bne_iff_ne.2 k2
      simp [k, k2, this, BG]
    ·have : (A != 0) = true := bne_iff_ne.2 k
     simp [k, this, BG])
  (fun n => by rw [Eg, Av (by omega)]) N 0 (by omega) (by omega)
 simpa using this
theorem UI (N : Nat) (p : Aa) (m : Ab) (hN : N ≤ 1000000) (h1 : p.fK.length < N) (hp : Bg p) (hm : MixServ p m) (j : Option Int) :
  Cc N p m (fun _ => j) N 0 = BG (CU (JA p m) 0 p.fK) j := by
 have := Cm (Cc N p m (fun _ => j)) p.fK j (JA p m)
  (fun n i x hx => by
   have hi := (lI.1 hx).1
   have hin := J0 (hp.tab x (lM hx))
   have hv := KE hp.ver hin.1 hin.2.1
   rw [Cc, Az (by omega), AT, hx]
   simp only [oS, Bc, HK]
   rw [Li N m x.fO hin.1 (by rw [hm.base]; exact hin.2.1) (by rw [hm.next]; exact hin.2.1) (hm.b0 _ (by omega)).1, Eo (d := 0) hin.1 hin.2.1, Dd (d := 0) (show i < m.fN.length from by rw [hm.held]; exact hi), AB (by omega)]
   simp only [oS]
   rw [show D3 (0 ≤ p.fJ.getD x.fO.toNat 0) = some () from by unfold D3; rw [if_pos (by omega)]]
   simp only [oS]
   unfold JA Zp
   generalize Df .u8 (HQ m x.fO.toNat) (m.fN.getD i 0) = A
   generalize Df .u8 (m.fN.getD i 0) (wI .u8 (D8 .u8 1 (p.fJ.getD x.fO.toNat 0) - 1)) = B
   generalize m.fN.getD i 0 = H
   cases B8 x
   ·simp only [yT, AO, Ao]
    by_cases k : H = 0
    ·simp [k, BG]
    ·have : (H != 0) = true := bne_iff_ne.2 k
     simp [k, this, BG]
   ·simp only [yA, Ao, AO]
    by_cases k : A = 0
    ·by_cases k2 : B = 0
     ·simp [k, k2, BG]
     ·have : (B != 0) = true := bne_iff_ne.2 k2
      simp [k, k2, this, BG]
    ·have : (A != 0) = true := bne_iff_ne.2 k
     by_cases k2 : B = 0
     ·simp [k, k2, this, BG]
     ·have h5 : (B != 0) = true := bne_iff_ne.2 k2
      simp [k, h5, BG])
  (fun n => by rw [Cc, Av (by omega)]) N 0 (by omega) (by omega)
 simpa using this
theorem IC (N : Nat) (p : Aa) (m : Ab) (hN : N ≤ 1000000) (h : 20 ≤ N) (hw : LH Ly m.fN) : FW N p m = some (BX p m) := by
 unfold FW BX
 rw [JN N p hN h]
 simp only [oS, Bc]
 by_cases k0 : BB p = 0
 ·have hp : Bg p := by
   rcases Ir p with h | h
   ·exact h.2
   ·omega
  have hnv := hp.nv
  have hnt := hp.nt
  rw [k0]
  simp only [bne_self_eq_false, Ao, ne_eq, not_true_eq_false, if_false]
  by_cases k1 : m.fL.length = p.fJ.length
  ·by_cases k2 : m.fI.length = p.fJ.length
   ·by_cases k3 : m.fN.length = p.fK.length
    ·rw [k1, k2, k3]
     simp only [bne_self_eq_false, Ao, not_true_eq_false, or_self, if_false]
     rw [R0 N p m hN (by omega) k1 k2]
     cases hs : CU (L4 m) 0 p.fJ with
     | some r => rfl
     | none =>
      simp only [BG]
      rw [Ur N p m hN (by omega) hp (Sz k1 k2 k3 hs) hw]
      cases CU (JA p m) 0 p.fK <;> rfl
    ·have : ((m.fN.length : Int) != (p.fK.length : Int)) = true := bne_iff_ne.2 (by omega)
     rw [this, k1, k2]; simp [k3]
   ·have : ((m.fI.length : Int) != (p.fJ.length : Int)) = true := bne_iff_ne.2 (by omega)
    rw [this, k1]; simp [k2]
  ·have : ((m.fL.length : Int) != (p.fJ.length : Int)) = true := bne_iff_ne.2 (by omega)
   rw [this]; simp [k1]
 ·rw [bne_iff_ne.2 k0]; simp [k0]
theorem Ld (N : Nat) (p : Aa) (m : Ab) (hN : N ≤ 1000000) (h : 20 ≤ N) : DC N p m = some (BX p m) := by
 unfold DC BX
 rw [Lo N p hN h]
 simp only [oS, Bc]
 by_cases k0 : BB p = 0
 ·have hp : Bg p := by
   rcases Ir p with h | h
   ·exact h.2
   ·omega
  have hnv := hp.nv
  have hnt := hp.nt
  rw [k0]
  simp only [bne_self_eq_false, Ao, ne_eq, not_true_eq_false, if_false]
  by_cases k1 : m.fL.length = p.fJ.length
  ·by_cases k2 : m.fI.length = p.fJ.length
   ·by_cases k3 : m.fN.length = p.fK.length
    ·rw [k1, k2, k3]
     simp only [bne_self_eq_false, Ao, not_true_eq_false, or_self, if_false]
     rw [RY N p m hN (by omega) k1 k2]
     cases hs : CU (L4 m) 0 p.fJ with
     | some r => rfl
     | none =>
      simp only [BG]
      rw [UI N p m hN (by omega) hp (Sz k1 k2 k3 hs)]
      cases CU (JA p m) 0 p.fK <;> rfl
    ·have : ((m.fN.length : Int) != (p.fK.length : Int)) = true := bne_iff_ne.2 (by omega)
     rw [this, k1, k2]; simp [k3]
   ·have : ((m.fI.length : Int) != (p.fJ.length : Int)) = true := bne_iff_ne.2 (by omega)
    rw [this, k1]; simp [k2]
  ·have : ((m.fL.length : Int) != (p.fJ.length : Int)) = true := bne_iff_ne.2 (by omega)
   rw [this]; simp [k1]
 ·rw [bne_iff_ne.2 k0]; simp [k0]
theorem Sn (p : Aa) (m : Ab) : BX p m = 0 ∨ BX p m = 1 ∨ BX p m = 3 ∨ BX p m = 4 ∨ BX p m = 6 ∨ BX p m = 7 := by
 unfold BX
 split
 ·rename_i h
  rcases Ir p with h1 | h1
  ·exact (h h1.1).elim
  ·exact .inr h1
 split
 ·simp
 cases hs : CU (L4 m) 0 p.fJ with
 | some r =>
  obtain ⟨j, x, _, h⟩ := Dw hs
  unfold L4 at h
  split at h
  ·cases h; simp [BG]
  ·split at h
   ·cases h; simp [BG]
   ·cases h
 | none =>
  cases ht : CU (JA p m) 0 p.fK with
  | some r =>
   obtain ⟨j, x, _, h⟩ := Dw ht
   unfold JA at h
   split at h
   ·split at h
    ·cases h; simp [BG]
    ·cases h
   ·split at h
    ·cases h; simp [BG]
    ·cases h
  | none => simp [BG]
@[simp] theorem A8 {α β : Type} (k : α) (f : α → β) : Bc k f = f k := rfl
@[simp] theorem Yl {p : Prop} [Decidable p] (h : p) : D3 p = some () := by unfold D3; rw [if_pos h]
theorem Au {β : Type} {p : Prop} [Decidable p] (h : p) (f : Unit → Option β) : (D3 p).bind f = f () := by rw [Yl h]; rfl
def CY {α β : Type} (g : Nat → α → List β) : Nat → List α → List β
 | _, [] => []
 | i, x :: xs => g i x ++ CY g (i + 1) xs
def Jr {α A : Type} (f : Nat → α → A → A) : Nat → List α → A → A
 | _, [], a => a
 | i, x :: xs, a => Jr f (i + 1) xs (f i x a)
theorem NA {α β : Type} (g : Nat → α → List β) : ∀ (i : Nat) (xs ys : List α), CY g i (xs ++ ys) = CY g i xs ++ CY g (i + xs.length) ys
 | i, [], ys => by simp [CY]
 | i, x :: xs, ys => by
  rw [uQ, CY, CY, NA g (i + 1) xs ys, yS, yC, xI, vS 1]
theorem Hq {α β : Type} {g : Nat → α → List β} {y : β} : ∀ {i : Nat} {xs : List α}, y ∈ CY g i xs ↔ ∃ j x, xs[j]? = some x ∧ y ∈ g (i + j) x
 | _, [] => by simp [CY]
 | i, x :: xs => by
  rw [CY, yE, Hq]
  constructor
  ·rintro (h | ⟨j, z, hz, h⟩)
   ·exact ⟨0, x, rfl, h⟩
   ·exact ⟨j + 1, z, by simpa using hz, by rwa [show i + (j + 1) = i + 1 + j from by omega]⟩
  ·rintro ⟨j, z, hz, h⟩
   cases j with
   | zero => simp at hz; subst hz; exact .inl h
   | succ j => exact .inr ⟨j, z, by simpa using hz, by rwa [show i + 1 + j = i + (j + 1) from by omega]⟩
theorem Gr {α β : Type} {g : Nat → α → List β} {c : Nat} : ∀ {i : Nat} {xs : List α}, (∀ j x, xs[j]? = some x → (g (i + j) x).length ≤ c) → (CY g i xs).length ≤ c * xs.length
 | _, [], _ => by simp [CY]
 | i, x :: xs, h => by
  have h1 := h 0 x rfl
  have h2 := Gr (g := g) (c := c) (i := i + 1) (xs := xs) fun j y hy => by
   have := h (j + 1) y (by simpa using hy)
   rwa [show i + (j + 1) = i + 1 + j from by omega] at this
  rw [CY, zY, yC, Nat.mul_add]
  simp only [xJ] at h1
  omega
theorem Ih {α A S R : Type} (L : Nat → S → Option R) (mk : A → Int → S) (xs : List α) (j : A → Option R) (f : Nat → α → A → A) (I : Nat → A → Prop)
  (hs : ∀ (n i : Nat) (x : α) (a : A), xs[i]? = some x → I i a → L (n + 1) (mk a (i : Int)) = L n (mk (f i x a) ((i + 1 : Nat) : Int)) ∧ I (i + 1) (f i x a))
  (he : ∀ (n : Nat) (a : A), I xs.length a → L (n + 1) (mk a (xs.length : Int)) = j a) :
  ∀ (n i : Nat) (a : A), i ≤ xs.length → xs.length - i < n → I i a → L n (mk a (i : Int)) = j (Jr f i (xs.drop i) a) ∧ I xs.length (Jr f i (xs.drop i) a)
 | 0, i, _, _, h, _ => by omega
 | n + 1, i, a, hi, h, ha => by
  by_cases h1 : i < xs.length
  ·have hx : xs[i]? = some xs[i] := by simp [h1]
   obtain ⟨e1, e2⟩ := hs n i _ a hx ha
   rw [e1, CQ hx, Jr]
   exact Ih L mk xs j f I hs he n (i + 1) _ (by omega) (by omega) e2
  ·have : i = xs.length := by omega
   subst this
   rw [zL (zN _), Jr]
   exact ⟨he n a ha, ha⟩
theorem PV {α β : Type} (g : Nat → α → List β) : ∀ (i : Nat) (xs : List α) (acc : List β), Jr (fun i x a => a ++ g i x) i xs acc = acc ++ CY g i xs
 | _, [], acc => by simp [Jr, CY]
 | i, x :: xs, acc => by rw [Jr, PV g (i + 1) xs, CY, yS]
theorem FQ {α β S R : Type} (L : Nat → S → Option R) (mk : List β → Int → S) (xs : List α) (j : List β → Option R) (g : Nat → α → List β) (c B : Nat)
  (hg : ∀ i x, xs[i]? = some x → (g i x).length ≤ c)
  (hs : ∀ (n i : Nat) (x : α) (a : List β), xs[i]? = some x → a.length + (g i x).length ≤ B → L (n + 1) (mk a (i : Int)) = L n (mk (a ++ g i x) ((i + 1 : Nat) : Int)))
  (he : ∀ (n : Nat) (a : List β), L (n + 1) (mk a (xs.length : Int)) = j a) (n : Nat) (a : List β) (hn : xs.length < n) (ha : a.length + c * xs.length ≤ B) :
  L n (mk a 0) = j (a ++ CY g 0 xs) := by
 have := Ih L mk xs j (fun i x a => a ++ g i x) (fun i b => i ≤ xs.length ∧ b.length ≤ a.length + c * i)
  (fun n i x b hx hb => by
   have h1 := hg i x hx
   have hi := (lI.1 hx).1
   have h2 : c * (i + 1) ≤ c * xs.length := Nat.mul_le_mul_left c hi
   have h3 : c * (i + 1) = c * i + c := Nat.mul_succ c i
   refine ⟨hs n i x b hx (by have := hb.2; omega), hi, ?_⟩
   rw [zY]
   have := hb.2
   omega)
  (fun n b _ => he n b) n 0 a (zK _) (by omega) ⟨zK _, by omega⟩
 have h2 := this.1
 rw [zX, PV] at h2
 exact h2
def Ee (s : Int) (v : Nat) : Bool := s.toNat.testBit v
def JP (m : Ab) (s v : Nat) : Bool := decide (m.fL.getD s 0 = (v : Int)) || decide (m.fI.getD s 0 = (v : Int))
theorem Zx : ∀ (s : Fin 256) (v : Fin 8), AL .u8 (A0 .u8 (s.val : Int) (v.val : Int)) 1 = if Ee (s.val : Int) v.val then 1 else 0 := by decide +kernel
theorem RX {s : Int} {v : Nat} (h0 : 0 ≤ s) (h1 : s ≤ 255) (hv : v < 8) : AL .u8 (A0 .u8 s (v : Int)) 1 = if Ee s v then 1 else 0 := by
 obtain ⟨k, rfl⟩ := zJ h0
 exact Zx ⟨k, by omega⟩ ⟨v, hv⟩
theorem SW {s : Int} {v : Nat} (h0 : 0 ≤ s) (h1 : s ≤ 255) (hv : v < 8) : (AL .u8 (A0 .u8 s (v : Int)) 1 == 0) = !Ee s v := by
 rw [RX h0 h1 hv]; cases Ee s v <;> rfl
theorem Tq {s : Int} {v : Nat} (h0 : 0 ≤ s) (h1 : s ≤ 255) (hv : v < 8) : (AL .u8 (A0 .u8 s (v : Int)) 1 == 1) = Ee s v := by
 rw [RX h0 h1 hv]; cases Ee s v <;> rfl
theorem Ls {s : Int} {v : Nat} (h1 : s ≤ 255) (hv : 8 ≤ v) : Ee s v = false := by
 unfold Ee
 apply Nat.testBit_lt_two_pow
 have : (2 : Nat) ^ 8 ≤ 2 ^ v := Nat.pow_le_pow_right (by omega) hv
 omega
theorem K7 : ∀ (b : Fin 8) (v : Fin 8), Ee (D8 .u8 1 (b.val : Int)) v.val = decide (b.val = v.val) ∧ 0 ≤ D8 .u8 1 (b.val : Int) ∧ D8 .u8 1 (b.val : Int) ≤ 255 := by decide +kernel
theorem YR : ∀ (b n : Fin 8) (v : Fin 8), Ee (Qz .u8 (D8 .u8 1 (b.val : Int)) (D8 .u8 1 (n.val : Int))) v.val = (decide (b.val = v.val) || decide (n.val = v.val))
  ∧ 0 ≤ Qz .u8 (D8 .u8 1 (b.val : Int)) (D8 .u8 1 (n.val : Int)) ∧ Qz .u8 (D8 .u8 1 (b.val : Int)) (D8 .u8 1 (n.val : Int)) ≤ 255 := by decide +kernel
theorem WP {m : Ab} {s : Nat} (hb0 : 0 ≤ m.fL.getD s 0) (hb1 : m.fL.getD s 0 < 8) (hn1 : m.fI.getD s 0 < 8) :
  (∀ v, Ee (HQ m s) v = JP m s v) ∧ 0 ≤ HQ m s ∧ HQ m s ≤ 255 := by
 unfold HQ JP
 obtain ⟨b, hb⟩ := zJ hb0
 rw [hb] at hb1 ⊢
 by_cases h : 0 ≤ m.fI.getD s 0
 ·obtain ⟨n, hn⟩ := zJ h
  rw [hn] at hn1 ⊢
  rw [if_pos (by omega)]
  have h1 := YR ⟨b, by omega⟩ ⟨n, by omega⟩
  refine ⟨fun v => ?_, (h1 0).2⟩
  by_cases hv : v < 8
  ·rw [(h1 ⟨v, hv⟩).1]
   simp only [vZ]
  ·rw [Ls (h1 0).2.2 (by omega)]
   simp; omega
 ·rw [if_neg h]
  have h1 := K7 ⟨b, by omega⟩
  refine ⟨fun v => ?_, (h1 0).2⟩
  have h3 : decide (m.fI.getD s 0 = (v : Int)) = false := decide_eq_false (by omega)
  rw [h3, Bool.or_false]
  by_cases hv : v < 8
  ·rw [(h1 ⟨v, hv⟩).1]
   simp only [vZ]
  ·rw [Ls (h1 0).2.2 (by omega)]
   simp; omega
theorem Yx {a : Nat} (h : a < 256) : (BitVec.ofInt 8 (a : Int)).toNat = a := by
 simp; omega
theorem Pk {a b : Int} (ha : 0 ≤ a ∧ a ≤ 255) (hb : 0 ≤ b ∧ b ≤ 255) : Df .u8 a b = 0 ↔ ∀ v, Ee a v = true → Ee b v = true := by
 obtain ⟨a, rfl⟩ := zJ ha.1
 obtain ⟨b, rfl⟩ := zJ hb.1
 have hA := Yx (a := a) (by omega)
 have hB := Yx (a := b) (by omega)
 unfold Df Ee
 simp only [IntKind.bits, zT]
 have hx : ∀ x : BitVec 8, wI .u8 (x.toNat : Int) = (x.toNat : Int) := by
  intro x
  have := x.isLt
  simp [wI, IntKind.signed, IntKind.bits]
  omega
 rw [hx]
 constructor
 ·intro h v hv
  have h0 : (BitVec.ofInt 8 (a : Int) &&& ~~~BitVec.ofInt 8 (b : Int)) = (BitVec.ofNat 8 0) := by
   apply BitVec.eq_of_toNat_eq
   simp only [BitVec.toNat_ofNat, Nat.zero_mod]
   exact vZ.1 h
  by_cases hv8 : v < 8
  ·have h1 : (BitVec.ofInt 8 (a : Int) &&& ~~~BitVec.ofInt 8 (b : Int)).getLsbD v = false := by rw [h0]; simp
   rw [BitVec.getLsbD_and, BitVec.getLsbD_not] at h1
   have e1 : (BitVec.ofInt 8 (a : Int)).getLsbD v = a.testBit v := by unfold BitVec.getLsbD; rw [hA]
   have e2 : (BitVec.ofInt 8 (b : Int)).getLsbD v = b.testBit v := by unfold BitVec.getLsbD; rw [hB]
   rw [e1, e2, hv] at h1
   simpa [hv8] using h1
  ·have := Ls (s := (a : Int)) (v := v) (by omega) (by omega)
   unfold Ee at this
   rw [zT, hv] at this
   cases this
 ·intro h
  have h0 : (BitVec.ofInt 8 (a : Int) &&& ~~~BitVec.ofInt 8 (b : Int)) = (BitVec.ofNat 8 0) := by
   apply BitVec.eq_of_getLsbD_eq
   intro i hi
   rw [BitVec.getLsbD_and, BitVec.getLsbD_not]
   have e1 : (BitVec.ofInt 8 (a : Int)).getLsbD i = a.testBit i := by unfold BitVec.getLsbD; rw [hA]
   have e2 : (BitVec.ofInt 8 (b : Int)).getLsbD i = b.testBit i := by unfold BitVec.getLsbD; rw [hB]
   rw [e1, e2]
   have := h i
   cases h3 : a.testBit i
   ·simp
   ·rw [this h3]; simp
  have h2 : ∀ x : BitVec 8, x = (BitVec.ofNat 8 0) → (x.toNat : Int) = 0 := fun x hx => by rw [hx]; rfl
  exact h2 _ h0
theorem Zy : ∀ n : Fin 9, (∀ v : Fin 8, Ee (wI .u8 (D8 .u8 1 (n.val : Int) - 1)) v.val = decide (v.val < n.val)) ∧ 0 ≤ wI .u8 (D8 .u8 1 (n.val : Int) - 1) ∧ wI .u8 (D8 .u8 1 (n.val : Int) - 1) ≤ 255 := by decide +kernel
theorem ZS {n : Int} (h0 : 0 ≤ n) (h1 : n ≤ 8) : (∀ v, Ee (wI .u8 (D8 .u8 1 n - 1)) v = decide ((v : Int) < n)) ∧ 0 ≤ wI .u8 (D8 .u8 1 n - 1) ∧ wI .u8 (D8 .u8 1 n - 1) ≤ 255 := by
 obtain ⟨n, rfl⟩ := zJ h0
 have h := Zy ⟨n, by omega⟩
 refine ⟨fun v => ?_, h.2⟩
 by_cases hv : v < 8
 ·rw [h.1 ⟨v, hv⟩]; simp
 ·rw [Ls h.2.2 (by omega)]
  symm; apply decide_eq_false; omega
structure BV (p : Aa) (m : Ab) : Prop extends MixServ p m where
 range : ∀ i, i < p.fK.length → 0 ≤ m.fN.getD i 0 ∧ m.fN.getD i 0 ≤ 255
 low : ∀ i t, p.fK[i]? = some t → B8 t = true → ∀ v, JP m t.fO.toNat v = true → Ee (m.fN.getD i 0) v = true
 high : ∀ i t, p.fK[i]? = some t → B8 t = true → ∀ v, Ee (m.fN.getD i 0) v = true → (v : Int) < p.fJ.getD t.fO.toNat 0
 none : ∀ i t, p.fK[i]? = some t → B8 t = false → m.fN.getD i 0 = 0
theorem Jk {p : Aa} (hp : Bg p) {i : Nat} (hi : i < p.fJ.length) : 1 ≤ p.fJ.getD i 0 ∧ p.fJ.getD i 0 ≤ 6 := by
 have := KE (i := (i : Int)) hp.ver (by omega) (by omega)
 simpa using this
theorem I8 {p : Aa} {m : Ab} (hp : Bg p) (hm : MixServ p m) {s : Nat} (hs : s < p.fJ.length) :
  (∀ v, Ee (HQ m s) v = JP m s v) ∧ 0 ≤ HQ m s ∧ HQ m s ≤ 255 := by
 have h1 := hm.b0 s hs
 have h2 := hm.n0 s hs
 have h3 := Jk hp hs
 exact WP h1.1 (by omega) (by omega)
theorem Tk {p : Aa} {m : Ab} (hp : Bg p) (hm : MixServ p m) {i : Nat} {t : An} (ht : p.fK[i]? = some t) (hr : 0 ≤ m.fN.getD i 0 ∧ m.fN.getD i 0 ≤ 255) :
  JA p m i t = none ↔ ((B8 t = true → (∀ v, JP m t.fO.toNat v = true → Ee (m.fN.getD i 0) v = true) ∧ (∀ v, Ee (m.fN.getD i 0) v = true → (v : Int) < p.fJ.getD t.fO.toNat 0)) ∧ (B8 t = false → m.fN.getD i 0 = 0)) := by
 have hin := J0 (hp.tab t (lM ht))
 have hrun := I8 hp hm (s := t.fO.toNat) (by omega)
 have hver := Jk hp (i := t.fO.toNat) (by omega)
 have hall := ZS (n := p.fJ.getD t.fO.toNat 0) (by omega) (by omega)
 unfold JA Zp
 have e1 := Pk hrun.2 hr
 have e2 := Pk hr hall.2
 cases hst : B8 t
 ·simp
 ·simp only [if_true, true_implies, Bool.true_eq_false, false_implies, and_true, ite_eq_right_iff, reduceCtorEq, imp_false, not_or, Decidable.not_not]
  rw [e1, e2]
  simp only [hrun.1, hall.1, decide_eq_true_eq]
theorem I7 {p : Aa} {m : Ab} (hw : LH Ly m.fN) (h : BX p m = 0) : Bg p ∧ BV p m := by
 unfold BX at h
 split at h
 ·rename_i k; exact (k h).elim
 ·rename_i k0
  have hp : Bg p := by
   rcases Ir p with h | h
   ·exact h.2
   ·omega
  split at h
  ·cases h
  ·rename_i k1
   have b1 : m.fL.length = p.fJ.length := Decidable.not_not.1 fun h => k1 (.inl h)
   have b2 : m.fI.length = p.fJ.length := Decidable.not_not.1 fun h => k1 (.inr (.inl h))
   have b3 : m.fN.length = p.fK.length := Decidable.not_not.1 fun h => k1 (.inr (.inr h))
   cases hs : CU (L4 m) 0 p.fJ with
   | some r =>
    obtain ⟨j, x, _, he⟩ := Dw hs
    rw [hs] at h
    unfold L4 at he
    simp only [BG, yF] at h
    split at he
    ·cases he; cases h
    ·split at he
     ·cases he; cases h
     ·cases he
   | none =>
    have hm := Sz b1 b2 b3 hs
    rw [hs] at h
    simp only [BG] at h
    cases ht : CU (JA p m) 0 p.fK with
    | some r =>
     obtain ⟨j, x, _, he⟩ := Dw ht
     rw [ht] at h
     simp only [yF] at h
     subst h
     unfold JA at he
     split at he
     ·split at he <;> cases he
     ·split at he <;> cases he
    | none =>
     have hr : ∀ i, i < p.fK.length → 0 ≤ m.fN.getD i 0 ∧ m.fN.getD i 0 ≤ 255 := fun i hi => J5 (TF hw (by omega))
     have key : ∀ i t, p.fK[i]? = some t → _ := fun i t hi => (Tk hp hm hi (hr i (lI.1 hi).1)).1 (by have := Fg ht i t hi; rwa [zC] at this)
     exact ⟨hp, hm, hr, fun i t hi hst => ((key i t hi).1 hst).1, fun i t hi hst => ((key i t hi).1 hst).2, fun i t hi hst => (key i t hi).2 hst⟩
theorem Gz {α R : Type} {f : Nat → α → Option R} : ∀ {i : Nat} {xs : List α}, (∀ j x, xs[j]? = some x → f (i + j) x = none) → CU f i xs = none
 | _, [], _ => rfl
 | i, y :: ys, h => by
  rw [FR, show f i y = none from h 0 y rfl]
  exact Gz fun j x hx => by
   have := h (j + 1) x (by simpa using hx)
   rwa [show i + (j + 1) = i + 1 + j from by omega] at this
theorem SD {p : Aa} (hp : Bg p) (hr : ∀ i, i < p.fJ.length → 0 ≤ p.fQ.getD i 0 ∧ p.fQ.getD i 0 < p.fJ.getD i 0 ∧ 0 ≤ p.fU.getD i 0 ∧ p.fU.getD i 0 < p.fJ.getD i 0) : BB p = 0 := by
 have := hp.nv
 have := hp.nt
 have := hp.now
 have := hp.tgt
 unfold BB
 rw [if_neg (by omega), if_neg (by omega)]
 have h1 : CU (Gq p) 0 p.fJ = none := Gz fun j x hx => by
  have hj := (lI.1 hx).1
  have h1 := hr j hj
  have h2 := Jk hp hj
  have e : p.fJ.getD j 0 = x := by rw [lD, hx]; rfl
  rw [e] at h1 h2
  unfold Gq
  rw [zC, if_neg (by omega)]
 have h2 : CU (MH p) 0 p.fK = none := Gz fun j x hx => by
  unfold MH
  rw [if_pos (hp.tab x (lM hx))]
 rw [h1, h2]; rfl
theorem CM {p : Aa} (h : BB p = 0) : Bg p ∧ ∀ i, i < p.fJ.length → 0 ≤ p.fQ.getD i 0 ∧ p.fQ.getD i 0 < p.fJ.getD i 0 ∧ 0 ≤ p.fU.getD i 0 ∧ p.fU.getD i 0 < p.fJ.getD i 0 := by
 have hp : Bg p := by
  rcases Ir p with h | h
  ·exact h.2
  ·omega
 refine ⟨hp, fun i hi => ?_⟩
 have h1 := hp.nv
 have h2 := hp.nt
 have h3 := hp.now
 have h4 := hp.tgt
 unfold BB at h
 rw [if_neg (by omega), if_neg (by omega)] at h
 cases hs : CU (Gq p) 0 p.fJ with
 | some r =>
  obtain ⟨j, x, _, he⟩ := Dw hs
  rw [hs] at h
  unfold Gq at he
  split at he
  ·cases he; cases h
  ·cases he
 | none =>
  have hx : p.fJ[i]? = some (p.fJ.getD i 0) := by rw [lD]; simp [hi]
  have := Fg hs i _ hx
  rw [zC] at this
  unfold Gq at this
  split at this
  ·cases this
  ·rename_i hn; omega
theorem Iw {p : Aa} {m : Ab} (hv : BB p = 0) (hm : BV p m) : BX p m = 0 := by
 obtain ⟨hp, _⟩ := CM hv
 unfold BX
 rw [hv, if_neg (by simp), if_neg (by have := hm.base; have := hm.next; have := hm.held; omega)]
 have h1 : CU (L4 m) 0 p.fJ = none := Gz fun j x hx => by
  have hj := (lI.1 hx).1
  have e : p.fJ.getD j 0 = x := by rw [lD, hx]; rfl
  have h1 := hm.b0 j hj
  have h2 := hm.n0 j hj
  have h3 := hm.ne j hj
  rw [e] at h1 h2
  unfold L4
  rw [zC, if_neg (by omega), if_neg h3]
 have h2 : CU (JA p m) 0 p.fK = none := Gz fun j x hx => by
  have hj := (lI.1 hx).1
  rw [zC]
  exact (Tk hp hm.toMixServ hx (hm.range j hj)).2 ⟨fun hst => ⟨hm.low j x hx hst, hm.high j x hx hst⟩, fun hst => hm.none j x hx hst⟩
 rw [h1, h2]; rfl
def Ps {α : Type} (g : Nat → α → Bool) : Nat → List α → Bool
 | _, [] => false
 | i, x :: xs => g i x || Ps g (i + 1) xs
theorem Nk {α β : Type} (g : Nat → α → List β) (h : Nat → α → Bool) : ∀ (i : Nat) (xs : List α) (a : List β) (b : Bool),
  Jr (fun i x (s : List β × Bool) => (s.1 ++ g i x, s.2 || h i x)) i xs (a, b) = (a ++ CY g i xs, b || Ps h i xs)
 | _, [], a, b => by simp [Jr, CY, Ps]
 | i, x :: xs, a, b => by rw [Jr, Nk g h, CY, Ps, yS, Bool.or_assoc]
def gC (i u : Nat) (m : Ab) (t : An) (v : Nat) (ok : Bool) : List Ap :=
 if JP m t.fS.toNat v && (!ok && !t.fY) then [⟨(i : Int), (u : Int), (v : Int)⟩] else []
def hC (m : Ab) (t : An) (v : Nat) (ok : Bool) : Bool := JP m t.fS.toNat v && ok
def K3 (i : Nat) (m : Ab) (t : An) (u : Nat) (row : List Bool) : List Ap :=
 CY (gC i u m t) 0 row ++ if t.fY && !Ps (hC m t) 0 row then [⟨(i : Int), (u : Int), -1⟩] else []
def Wy (m : Ab) (i : Nat) (t : An) (u : Nat) : Bool := if B8 t then Ee (m.fN.getD i 0) u else JP m t.fO.toNat u
def Lk (m : Ab) (i : Nat) (t : An) : List Ap := CY (fun u row => if Wy m i t u then K3 i m t u row else []) 0 t.fX
def H7 (p : Aa) (m : Ab) : List Ap := CY (Lk m) 0 p.fK
structure OI (p : Aa) (t : An) : Prop where
 kind : 1 ≤ t.fP ∧ t.fP ≤ 4
 aware : t.fY = true → B8 t = false
 from0 : 0 ≤ t.fO ∧ t.fO < (p.fJ.length : Int)
 to0 : 0 ≤ t.fS ∧ t.fS < (p.fJ.length : Int)
 okL : (t.fX.length : Int) = p.fJ.getD t.fO.toNat 0
 okR : ∀ row, row ∈ t.fX → (row.length : Int) = p.fJ.getD t.fS.toNat 0
 reL : t.fP = 4 → (t.fT.length : Int) = p.fJ.getD t.fO.toNat 0
 reR : ∀ row, row ∈ t.fT → (row.length : Int) = p.fJ.getD t.fO.toNat 0
 reD : t.fP = 4 → Kb t.fT = none
 reN : t.fP ≠ 4 → t.fT = []
theorem L0 {p : Aa} {t : An} (h : D9 p t = 0) : OI p t := by
 unfold D9 at h
 split at h
 ·cases h
 rename_i h1
 split at h
 ·cases h
 rename_i h2
 simp only at h
 split at h
 ·cases h
 rename_i h3
 have h3 : sq t.fX (p.fJ.getD t.fO.toNat 0) (p.fJ.getD t.fS.toNat 0) = true := by simpa using h3
 have h3 := Pe h3
 have ha : t.fY = true → B8 t = false := by
  intro ha
  unfold B8
  rw [uU, beq_eq_false_iff_ne, beq_eq_false_iff_ne]
  exact ⟨fun hk => h1 (.inr (.inr ⟨ha, .inl hk⟩)), fun hk => h1 (.inr (.inr ⟨ha, .inr hk⟩))⟩
 split at h
 ·rename_i h4
  split at h
  ·cases h
  rename_i h5
  have h5 : sq t.fT (p.fJ.getD t.fO.toNat 0) (p.fJ.getD t.fO.toNat 0) = true := by simpa using h5
  have h5 := Pe h5
  refine ⟨by omega, ha, by omega, by omega, h3.1, h3.2, fun _ => h5.1, h5.2, fun _ => ?_, fun h => (h h4).elim⟩
  cases hd : Kb t.fT with
  | none => rfl
  | some r =>
   obtain ⟨j, x, _, hx⟩ := Dw hd
   rw [hd] at h
   split at hx
   ·cases hx
   ·cases hx; cases h
 ·rename_i h4
  split at h
  ·rename_i h5
   have h5 := yN h5
   refine ⟨by omega, ha, by omega, by omega, h3.1, h3.2, fun h => (h4 h).elim, fun row hr => ?_, fun h => (h4 h).elim, fun _ => h5⟩
   rw [h5] at hr; cases hr
  ·cases h
theorem Ml {R : Type} (b : Bool) (acc : List Ap) (x : Ap) (j : List Ap → Option R) (h : acc.length + 1 ≤ Dh) :
  AN b ((D3 (acc.length + ([x] : List Ap).length ≤ Dh)).bind fun _ => j (acc ++ [x])) (j acc) = j (acc ++ if b then [x] else []) := by
 cases b
 ·simp
 ·rw [AO, Au (by simpa using h)]; rfl
theorem T9 (N : Nat) (m : Ab) (t : An) (i u : Nat) (row : List Bool) (R : Int) (b1 b2 acc : List Ap) (j : List Ap × Bool → Option (List Ap))
  (hN : N ≤ 1000000) (h8 : 8 ≤ N) (hrow : row.length ≤ 6) (hacc : acc.length + 6 ≤ Dh) (hR0 : 0 ≤ R) (hR1 : R ≤ 255) (hRb : ∀ v, Ee R v = JP m t.fS.toNat v) :
  Cd N (b1, (i : Int)) t R (b2, (u : Int)) row j N (acc, false, 0) = j (acc ++ CY (gC i u m t) 0 row, Ps (hC m t) 0 row) := by
 have := Ih (A := List Ap × Bool) (Cd N (b1, (i : Int)) t R (b2, (u : Int)) row j) (fun a k => (a.1, a.2, k)) row (fun a => j a) (fun v ok s => (s.1 ++ gC i u m t v ok, s.2 || hC m t v ok))
  (fun v a => v ≤ row.length ∧ a.1.length ≤ acc.length + v)
  (fun n v ok a hx ha => by
   have hv := (lI.1 hx).1
   obtain ⟨c, f⟩ := a
   simp only at ha
   refine ⟨?_, by omega, ?_⟩
   ·rw [Cd]
    simp only [A8]
    rw [Az (by omega), AT, hx]
    simp only [oS]
    rw [Au (by omega), SW hR0 hR1 (by omega), hRb, AB (by omega), Ml _ _ _ (fun l => Cd N (b1, (i : Int)) t R (b2, (u : Int)) row j n (l, true, ((v + 1 : Nat) : Int))) (by omega)]
    unfold gC hC
    rw [Ml _ _ _ (fun l => Cd N (b1, (i : Int)) t R (b2, (u : Int)) row j n (l, ok, ((v + 1 : Nat) : Int))) (by omega)]
    cases JP m t.fS.toNat v
    ·simp
    ·cases ok <;> cases f <;> cases t.fY <;> simp
   ·simp only [gC, zY]
    split <;> simp <;> omega)
  (fun n a _ => by
   rw [Cd]
   simp only [A8]
   rw [Av (by omega)]) N 0 (acc, false) (by omega) (by omega) ⟨by omega, by simp⟩
 have h2 := this.1
 rw [zX, Nk, vO] at h2
 exact h2
theorem NQ {p : Aa} {t : An} (hp : Bg p) (ht : OI p t) : t.fX.length ≤ 6 ∧ ∀ row, row ∈ t.fX → row.length ≤ 6 := by
 have h1 := KE hp.ver ht.from0.1 ht.from0.2
 have h2 := KE hp.ver ht.to0.1 ht.to0.2
 have h3 := ht.okL
 exact ⟨by omega, fun row hr => by have := ht.okR row hr; omega⟩
theorem U5 (i u : Nat) (m : Ab) (t : An) (v : Nat) (ok : Bool) : (gC i u m t v ok).length ≤ 1 := by
 unfold gC; split <;> simp
theorem UJ (i : Nat) (m : Ab) (t : An) (u : Nat) (row : List Bool) (h : row.length ≤ 6) : (K3 i m t u row).length ≤ 7 := by
 unfold K3
 rw [zY]
 have := Gr (g := gC i u m t) (c := 1) (i := 0) (xs := row) (fun j x _ => U5 _ _ _ _ _ _)
 split <;> simp <;> omega
theorem Vh (i : Nat) (m : Ab) (t : An) (u : Nat) (row : List Bool) (h : row.length ≤ 6) : (if Wy m i t u = true then K3 i m t u row else []).length ≤ 7 := by
 have := UJ i m t u row h
 split <;> simp <;> omega
theorem OQ {p : Aa} {t : An} (hp : Bg p) (ht : OI p t) (i : Nat) (m : Ab) : (Lk m i t).length ≤ 42 := by
 have h1 := NQ hp ht
 have := Gr (g := fun u row => if Wy m i t u = true then K3 i m t u row else []) (c := 7) (i := 0) (xs := t.fX) (fun j x hx => Vh i m t _ x (h1.2 x (lM hx)))
 unfold Lk
 omega
theorem NU (N : Nat) (p : Aa) (m : Ab) (t : An) (i : Nat) (W R : Int) (b1 acc : List Ap) (j : List Ap → Option (List Ap))
  (hN : N ≤ 1000000) (h8 : 8 ≤ N) (hp : Bg p) (ht : OI p t) (hacc : acc.length + 42 ≤ 10000) (hR0 : 0 ≤ R) (hR1 : R ≤ 255) (hRb : ∀ v, Ee R v = JP m t.fS.toNat v) (hW0 : 0 ≤ W) (hW1 : W ≤ 255) (hWb : ∀ v, Ee W v = Wy m i t v) :
  CF N (b1, (i : Int)) t R W j N (acc, 0) = j (acc ++ Lk m i t) := by
 have hl := NQ hp ht
 exact FQ (CF N (b1, (i : Int)) t R W j) (fun a k => (a, k)) t.fX j (fun u row => if Wy m i t u then K3 i m t u row else []) 7 10000
  (fun u row hx => Vh i m t u row (hl.2 row (lM hx)))
  (fun n u row a hx ha => by
   have hu := (lI.1 hx).1
   have hrow := hl.2 row (lM hx)
   rw [CF]
   simp only [A8]
   rw [Az (by omega), Au (by omega), SW hW0 hW1 (by omega), hWb, AT, hx]
   simp only [oS]
   rw [T9 N m t i u row R b1 a a _ hN h8 hrow (by unfold Dh; omega) hR0 hR1 hRb, AB (by omega)]
   cases hw : Wy m i t u
   ·simp
   ·simp only [yA, Ao, if_true, K3]
    have h1 := Gr (g := gC i u m t) (c := 1) (i := 0) (xs := row) (fun j x _ => U5 _ _ _ _ _ _)
    have := Ml (R := List Ap) (t.fY && !Ps (hC m t) 0 row) (a ++ CY (gC i u m t) 0 row) ⟨(i : Int), (u : Int), -1⟩ (fun l => CF N (b1, (i : Int)) t R W j n (l, ((u + 1 : Nat) : Int))) (by rw [zY]; unfold Dh; rw [hw, if_pos rfl] at ha; omega)
    rw [← yS, ← this]
    cases t.fY <;> cases Ps (hC m t) 0 row <;> rfl)
  (fun n a => by
   rw [CF]
   simp only [A8]
   rw [Av (by omega)]) N acc (by omega) (by omega)
theorem TT (N : Nat) (p : Aa) (m : Ab) (t : An) (i u : Nat) (row : List Bool) (b1 b2 acc : List Ap) (j : List Ap × Bool → Option (List Ap))
  (hN : N ≤ 1000000) (h8 : 8 ≤ N) (hp : Bg p) (hm : MixServ p m) (ht : OI p t) (hu : t.fX[u]? = some row) (hacc : acc.length + 6 ≤ Dh) :
  Bu N p m (b1, (i : Int)) t (b2, (u : Int)) j N (acc, false, 0) = j (acc ++ CY (gC i u m t) 0 row, Ps (hC m t) 0 row) := by
 have hrow := (NQ hp ht).2 row (lM hu)
 have hR := I8 hp hm (s := t.fS.toNat) (by have := ht.to0; omega)
 have hlen := ht.okR row (lM hu)
 have hto := ht.to0
 have := Ih (A := List Ap × Bool) (Bu N p m (b1, (i : Int)) t (b2, (u : Int)) j) (fun a k => (a.1, a.2, k)) row (fun a => j a) (fun v ok s => (s.1 ++ gC i u m t v ok, s.2 || hC m t v ok))
  (fun v a => v ≤ row.length ∧ a.1.length ≤ acc.length + v)
  (fun n v ok a hx ha => by
   have hv := (lI.1 hx).1
   obtain ⟨c, f⟩ := a
   simp only at ha
   refine ⟨?_, by omega, ?_⟩
   ·rw [Bu]
    simp only [A8]
    rw [Eo (d := 0) hto.1 hto.2, Li N m t.fS hto.1 (by rw [hm.base]; exact hto.2) (by rw [hm.next]; exact hto.2) (hm.b0 _ (by omega)).1, AT, hu]
    simp only [oS]
    unfold CN
    rw [Az (by omega), AT, hx, Au (by omega), Tq hR.2.1 hR.2.2 (by omega), hR.1]
    simp only [oS]
    rw [AB (by omega), Ml _ _ _ (fun l => Bu N p m (b1, (i : Int)) t (b2, (u : Int)) j n (l, true, ((v + 1 : Nat) : Int))) (by omega)]
    unfold gC hC
    rw [Ml _ _ _ (fun l => Bu N p m (b1, (i : Int)) t (b2, (u : Int)) j n (l, ok, ((v + 1 : Nat) : Int))) (by omega)]
    cases JP m t.fS.toNat v
    ·simp
    ·cases ok <;> cases f <;> cases t.fY <;> simp
   ·simp only [gC, zY]
    split <;> simp <;> omega)
  (fun n a _ => by
   rw [Bu]
   simp only [A8]
   rw [Eo (d := 0) hto.1 hto.2]
   simp only [oS]
   rw [Av (by omega)]) N 0 (acc, false) (by omega) (by omega) ⟨by omega, by simp⟩
 have h2 := this.1
 rw [zX, Nk, vO] at h2
 exact h2
theorem ND (N : Nat) (p : Aa) (m : Ab) (t : An) (i : Nat) (W : Int) (b1 acc : List Ap) (j : List Ap → Option (List Ap))
  (hN : N ≤ 1000000) (h8 : 8 ≤ N) (hp : Bg p) (hm : MixServ p m) (ht : OI p t) (hacc : acc.length + 42 ≤ 10000) (hW0 : 0 ≤ W) (hW1 : W ≤ 255) (hWb : ∀ v, Ee W v = Wy m i t v) :
  BU N p m (b1, (i : Int)) t W j N (acc, 0) = j (acc ++ Lk m i t) := by
 have hl := NQ hp ht
 have hfr := ht.from0
 have hok := ht.okL
 exact FQ (BU N p m (b1, (i : Int)) t W j) (fun a k => (a, k)) t.fX j (fun u row => if Wy m i t u then K3 i m t u row else []) 7 10000
  (fun u row hx => Vh i m t u row (hl.2 row (lM hx)))
  (fun n u row a hx ha => by
   have hu := (lI.1 hx).1
   have hrow := hl.2 row (lM hx)
   rw [BU]
   simp only [A8]
   rw [Eo (d := 0) hfr.1 hfr.2]
   simp only [oS]
   unfold CN
   rw [Az (by omega), Au (by omega), Tq hW0 hW1 (by omega), hWb]
   simp only [oS]
   rw [TT N p m t i u row b1 a a _ hN h8 hp hm ht hx (by unfold Dh; omega), AB (by omega)]
   cases hw : Wy m i t u
   ·simp
   ·simp only [yA, Ao, if_true, K3]
    have h1 := Gr (g := gC i u m t) (c := 1) (i := 0) (xs := row) (fun j x _ => U5 _ _ _ _ _ _)
    have := Ml (R := List Ap) (t.fY && !Ps (hC m t) 0 row) (a ++ CY (gC i u m t) 0 row) ⟨(i : Int), (u : Int), -1⟩ (fun l => BU N p m (b1, (i : Int)) t W j n (l, ((u + 1 : Nat) : Int))) (by rw [zY]; unfold Dh; rw [hw, if_pos rfl] at ha; omega)
    rw [← yS, ← this]
    cases t.fY <;> cases Ps (hC m t) 0 row <;> rfl)
  (fun n a => by
   rw [BU]
   simp only [A8]
   rw [Eo (d := 0) hfr.1 hfr.2]
   simp only [oS]
   rw [Av (by omega)]) N acc (by omega) (by omega)
theorem Ou (N : Nat) (p : Aa) (m : Ab) (hN : N ≤ 1000000) (h20 : 20 ≤ N) (hp : Bg p) (hm : BV p m) : Gs N p m = some (H7 p m) := by
 unfold Gs
 have hnt := hp.nt
 rw [FQ (DP N p m _) (fun a k => (a, k)) p.fK some (Lk m) 42 9000
  (fun i t hx => OQ hp (L0 (hp.tab t (lM hx))) i m)
  (fun n i t a hx ha => by
   have hi := (lI.1 hx).1
   have ht := L0 (hp.tab t (lM hx))
   have hto := ht.to0
   have hfr := ht.from0
   have hR := I8 hp hm.toMixServ (s := t.fS.toNat) (by omega)
   have hF := I8 hp hm.toMixServ (s := t.fO.toNat) (by omega)
   have hH := hm.range i hi
   rw [DP]
   simp only [A8]
   rw [Az (by omega), AT, hx]
   simp only [oS, KD]
   rw [M5 N m t.fO hfr.1 (by rw [hm.base]; exact hfr.2) (by rw [hm.next]; exact hfr.2) (hm.b0 _ (by omega)).1, M5 N m t.fS hto.1 (by rw [hm.base]; exact hto.2) (by rw [hm.next]; exact hto.2) (hm.b0 _ (by omega)).1, Dd (d := 0) (by rw [hm.held]; exact hi), AB (by omega)]
   simp only [oS]
   cases hs : B8 t
   ·rw [Ao, NU N p m t i _ _ a a _ hN (by omega) hp ht (by omega) hR.2.1 hR.2.2 hR.1 hF.2.1 hF.2.2 (fun v => by unfold Wy; rw [hs, hF.1]; rfl)]
   ·rw [AO, NU N p m t i _ _ a a _ hN (by omega) hp ht (by omega) hR.2.1 hR.2.2 hR.1 hH.1 hH.2 (fun v => by unfold Wy; rw [hs]; rfl)])
  (fun n a => by
   rw [DP]
   simp only [A8]
   rw [Av (by omega)]) N [] (by omega) (by simp; omega)]
 rfl
theorem Oq (N : Nat) (p : Aa) (m : Ab) (hN : N ≤ 1000000) (h20 : 20 ≤ N) (hp : Bg p) (hm : BV p m) : E8 N p m = some (H7 p m) := by
 unfold E8
 have hnt := hp.nt
 rw [FQ (C1 N p m _) (fun a k => (a, k)) p.fK some (Lk m) 42 9000
  (fun i t hx => OQ hp (L0 (hp.tab t (lM hx))) i m)
  (fun n i t a hx ha => by
   have hi := (lI.1 hx).1
   have ht := L0 (hp.tab t (lM hx))
   have hto := ht.to0
   have hfr := ht.from0
   have hF := I8 hp hm.toMixServ (s := t.fO.toNat) (by omega)
   have hH := hm.range i hi
   rw [C1]
   simp only [A8]
   rw [Az (by omega), AT, hx]
   simp only [oS, HK]
   rw [Li N m t.fO hfr.1 (by rw [hm.base]; exact hfr.2) (by rw [hm.next]; exact hfr.2) (hm.b0 _ (by omega)).1, Dd (d := 0) (by rw [hm.held]; exact hi), AB (by omega)]
   simp only [oS]
   cases hs : B8 t
   ·rw [Ao, ND N p m t i _ a a _ hN (by omega) hp hm.toMixServ ht (by omega) hF.2.1 hF.2.2 (fun v => by unfold Wy; rw [hs, hF.1]; rfl)]
   ·rw [AO, ND N p m t i _ a a _ hN (by omega) hp hm.toMixServ ht (by omega) hH.1 hH.2 (fun v => by unfold Wy; rw [hs]; rfl)])
  (fun n a => by
   rw [C1]
   simp only [A8]
   rw [Av (by omega)]) N [] (by omega) (by simp; omega)]
 rfl
theorem FI {A S R : Type} (L : Nat → S → Option R) (mk : A → Int → S) (len : Nat) (j : A → Option R) (I : Nat → A → Prop)
  (hs : ∀ (n i : Nat) (a : A), i < len → I i a → ∃ a', L (n + 1) (mk a (i : Int)) = L n (mk a' ((i + 1 : Nat) : Int)) ∧ I (i + 1) a')
  (he : ∀ (n : Nat) (a : A), I len a → L (n + 1) (mk a (len : Int)) = j a) :
  ∀ (n i : Nat) (a : A), i ≤ len → len - i < n → I i a → ∃ a', L n (mk a (i : Int)) = j a' ∧ I len a'
 | 0, i, _, _, h, _ => by omega
 | n + 1, i, a, hi, h, ha => by
  by_cases h1 : i < len
  ·obtain ⟨a', e1, e2⟩ := hs n i a h1 ha
   rw [e1]
   exact FI L mk len j I hs he n (i + 1) _ (by omega) (by omega) e2
  ·have : i = len := by omega
   subst this
   exact ⟨a, he n a ha, ha⟩
theorem Kz {α : Type} {xs ys : List α} {i : Nat} {d : α} (h : i < xs.length) : (xs ++ ys).getD i d = xs.getD i d := by
 rw [lD, lD, yH h]
theorem Kr {α : Type} {xs : List α} {y : α} {i : Nat} {d : α} (h : i = xs.length) : (xs ++ [y]).getD i d = y := by
 subst h; rw [lD, yG (zN _)]; simp
theorem Py {α : Type} {P : Nat → α → Prop} {xs : List α} {y : α} {d : α} {n : Nat} (hn : xs.length = n) (h : ∀ k, k < n → P k (xs.getD k d)) (hy : P n y) : ∀ k, k < n + 1 → P k ((xs ++ [y]).getD k d) := by
 intro k hk
 by_cases h1 : k < n
 ·rw [Kz (by omega)]; exact h k h1
 ·have : k = n := by omega
  subst this
  rw [Kr hn.symm]; exact hy
theorem VN {l : List Int} (hw : LH Ly l) (i : Nat) : 0 ≤ l.getD i 0 ∧ l.getD i 0 ≤ 255 := by
 by_cases h : i < l.length
 ·have : l.getD i 0 ∈ l := by rw [lD, yK h]; exact xQ _
  exact J5 (hw _ this)
 ·rw [lD, yV (by omega)]
  exact ⟨by decide, by decide⟩
theorem Ra (N : Nat) {l : List Int} (hw : LH Ly l) (i : Nat) : EA N l (i : Int) = some (l.getD i 0) := by
 unfold EA
 have h2 := VN hw i
 by_cases h : i < l.length
 ·rw [Az (by omega), Dd (d := 0) h]
  simp only [oS]
  rw [Ch (by omega) (by omega)]
 ·rw [Av (by omega), lD, yV (by omega)]; rfl
theorem IP {a n : Int} (ha : 0 ≤ a) (hn : 0 < n) : 0 ≤ zZ a n ∧ zZ a n < n := ⟨Int.tmod_nonneg n ha, Int.tmod_lt_of_pos a hn⟩
theorem ax {l : List (List Bool)} {n m : Int} (h1 : (l.length : Int) = n) (h2 : ∀ row, row ∈ l → (row.length : Int) = m) : sq l n m = true := by
 unfold sq
 simp only [zI, decide_eq_true_eq, zG]
 exact ⟨h1, h2⟩
theorem bd {p : Aa} {t : An} (h : OI p t) : D9 p t = 0 := by
 have hk := h.kind
 have hf := h.from0
 have ht := h.to0
 unfold D9
 rw [if_neg, if_neg (by omega)]
 ·simp only [ax h.okL h.okR]
  rw [if_neg (by simp)]
  by_cases h4 : t.fP = 4
  ·rw [if_pos h4, ax (h.reL h4) h.reR, if_neg (by simp), h.reD h4]; rfl
  ·rw [if_neg h4, h.reN h4]; rfl
 ·rintro (h1 | h1 | ⟨h1, h2⟩)
  ·omega
  ·omega
  ·have := h.aware h1
   unfold B8 at this
   rw [uU, beq_eq_false_iff_ne, beq_eq_false_iff_ne] at this
   omega
theorem XD (N : Nat) (m bad : Int) (diag : Bool) (i : Nat) (acc : List (List Bool)) {_R : Type} (j : List Bool → Option (List (List Bool))) (hN : N ≤ 1000000) (h20 : 20 ≤ N) (hm : 0 ≤ m ∧ m ≤ 6) (hi : i < 6) :
  ∃ row, CI N m bad diag (acc, (i : Int)) j N ([], 0) = j row ∧ (row.length : Int) = m ∧ (diag = true → (i : Int) < m → row.getD i false = true) := by
 obtain ⟨M, rfl⟩ := zJ hm.1
 obtain ⟨row, e, h1, h2⟩ := FI (A := List Bool) (CI N (M : Int) bad diag (acc, (i : Int)) j) (fun a k => (a, k)) M j
  (fun k a => a.length = k ∧ ∀ q, q < k → diag = true → q = i → a.getD q false = true)
  (fun n k a hk ha => by
   refine ⟨a ++ [(diag && decide (i = k)) || (zZ (A0 .u16 bad ((3 * i + k : Nat) : Int)) 2 == 0)], ?_, by simp [ha.1], Py (P := fun q y => diag = true → q = i → y = true) ha.1 ha.2 (fun h1 h2 => by simp [h1, h2])⟩
   rw [CI]
   simp only [A8]
   rw [Az (by omega), AB (by omega), Ch (n := 3 * (i : Int)) (by omega) (by omega), Ch (n := 3 * (i : Int) + (k : Int)) (by omega) (by omega)]
   have l1 : ∀ y : Bool, a.length + ([y] : List Bool).length ≤ Dh := by intro y; rw [ha.1]; unfold Dh; simp; omega
   simp only [Au (l1 _), Au (show (0 : Int) ≤ 3 * (i : Int) + (k : Int) by omega)]
   have e1 : ((3 * i + k : Nat) : Int) = 3 * (i : Int) + (k : Int) := by omega
   rw [e1]
   have e2 : (((i : Nat) : Int) == ((k : Nat) : Int)) = decide (i = k) := by
    by_cases h : i = k
    ·simp [h]
    ·rw [decide_eq_false h]; exact beq_eq_false_iff_ne.2 (by omega)
   rw [e2]
   cases diag <;> cases decide (i = k) <;> rfl)
  (fun n a _ => by
   rw [CI]
   simp only [A8]
   rw [Av (by omega)]) N 0 [] (zK _) (by omega) ⟨rfl, fun q hq => by omega⟩
 exact ⟨row, e, by omega, fun hd hlt => h2 i (by omega) hd rfl⟩
theorem Vw (N : Nat) (n m bad : Int) (diag : Bool) (hN : N ≤ 1000000) (h20 : 20 ≤ N) (hn : 0 ≤ n ∧ n ≤ 6) (hm : 0 ≤ m ∧ m ≤ 6) :
  ∃ l, EC N n m bad diag = some l ∧ (l.length : Int) = n ∧ (∀ row, row ∈ l → (row.length : Int) = m) ∧ (diag = true → n = m → Kb l = none) := by
 obtain ⟨M, rfl⟩ := zJ hn.1
 unfold EC
 obtain ⟨l, e, h1, h2⟩ := FI (A := List (List Bool)) (Cz N (M : Int) m bad diag (fun v => some v)) (fun a k => (a, k)) M some
  (fun k a => a.length = k ∧ ∀ q, q < k → (((a.getD q []).length : Nat) : Int) = m ∧ (diag = true → (q : Int) < m → (a.getD q []).getD q false = true))
  (fun n k a hk ha => by
   obtain ⟨row, e, h1, h2⟩ := XD (_R := Unit) N m bad diag k a (fun (v5 : List Bool) =>
    (D3 (a.length + (([v5] : List (List Bool))).length ≤ Dh)).bind fun _ =>
    Cz N (M : Int) m bad diag (fun v => some v) n (a ++ (([v5] : List (List Bool))), (wI .i64 ((k : Int) + 1)))) hN h20 hm (by omega)
   refine ⟨a ++ [row], ?_, by simp [ha.1], Py (P := fun q y => ((y.length : Nat) : Int) = m ∧ (diag = true → (q : Int) < m → y.getD q false = true)) ha.1 ha.2 ⟨h1, h2⟩⟩
   rw [Cz]
   simp only
   rw [Az (by omega), e, Au (by rw [ha.1]; unfold Dh; simp; omega), AB (by omega)])
  (fun n a _ => by
   rw [Cz]
   simp only
   rw [Av (by omega)]) N 0 [] (zK _) (by omega) ⟨rfl, fun q hq => by omega⟩
 have key : ∀ q row, l[q]? = some row → l.getD q [] = row := fun q row hq => by rw [lD, hq]; rfl
 refine ⟨l, e, by omega, fun row hr => ?_, fun hd hnm => ?_⟩
 ·obtain ⟨q, hq⟩ := zU.1 hr
  have := (h2 q (by have := (lI.1 hq).1; omega)).1
  rwa [key q row hq] at this
 ·unfold Kb
  refine Gz fun q row hq => ?_
  have hlt := (lI.1 hq).1
  have := (h2 q (by omega)).2 hd (by omega)
  rw [key q row hq] at this
  rw [zC, this]; rfl
structure Z2 (p : Aa) : Prop where
 valid : BB p = 0
 nv : p.fJ.length ≤ 3
 nt : p.fK.length ≤ 4
 v3 : ∀ v, v ∈ p.fJ → v ≤ 3
theorem WD {p q : Aa} (h : p.fJ = q.fJ) (t : An) : D9 p t = D9 q t := by
 unfold D9; rw [h]
theorem eI (N : Nat) (d : BP) (hN : N ≤ 1000000) (h20 : 20 ≤ N) (hw : F4 d) : ∃ p ok, F1 N d = some (p, ok) ∧ (ok = true → Z2 p) := by
 obtain ⟨w1, w2, w3, w4, _⟩ := hw
 unfold F1
 simp only [A8]
 by_cases k1 : 3 < d.fJ.length
 ·rw [Az (by omega)]; exact ⟨_, false, rfl, fun h => by cases h⟩
 by_cases k2 : 4 < d.f8.length
 ·rw [Av (by omega), decide_eq_true (by omega : (4 : Int) < (d.f8.length : Int))]; exact ⟨_, false, rfl, fun h => by cases h⟩
 rw [Av (by omega), decide_eq_false (by omega : ¬ (4 : Int) < (d.f8.length : Int)), Ao]
 obtain ⟨⟨vs, ns, ts⟩, e, h1, h2, h3, h4⟩ := FI (A := List Int × List Int × List Int) (C6 N d fun v5 => BL N d v5 (fun v16 => some (Aa.mk v5.1 v5.2.1 v5.2.2 v16, true)) N ([], 0)) (fun a k => (a.1, a.2.1, a.2.2, k)) d.fJ.length
  (fun v5 => BL N d v5 (fun v16 => some (Aa.mk v5.1 v5.2.1 v5.2.2 v16, true)) N ([], 0))
  (fun i a => a.1.length = i ∧ a.2.1.length = i ∧ a.2.2.length = i ∧ (∀ k, k < i → (1 ≤ a.1.getD k 0 ∧ a.1.getD k 0 ≤ 3) ∧ (0 ≤ a.2.1.getD k 0 ∧ a.2.1.getD k 0 < a.1.getD k 0) ∧ (0 ≤ a.2.2.getD k 0 ∧ a.2.2.getD k 0 < a.1.getD k 0)))
  (fun n i a hi ha => by
   obtain ⟨vs, ns, ts⟩ := a
   obtain ⟨h1, h2, h3, h4⟩ := ha
   simp only at h1 h2 h3 h4
   have hv := VN w1 i
   have hb := VN w2 i
   have hk := VN w3 i
   have hm := IP (n := 3) hv.1 (by omega)
   obtain ⟨v, hvd⟩ : ∃ v, v = 1 + zZ (d.fJ.getD i 0) 3 := ⟨_, rfl⟩
   have m1 := IP (n := v) hb.1 (by omega)
   have m2 := IP (n := v) hk.1 (by omega)
   refine ⟨(vs ++ [v], ns ++ [zZ (d.fQ.getD i 0) v], ts ++ [zZ (d.fU.getD i 0) v]), ?_, by simp [h1], by simp [h2], by simp [h3], ?_⟩
   ·rw [C6]
    simp only
    rw [Az (by omega), Dd (d := 0) hi, Ra N w2, Ra N w3]
    simp only [oS]
    rw [Ch (n := zZ _ _) (by omega) (by omega), Ch (n := 1 + _) (by omega) (by omega), ← hvd, AB (by omega)]
    have l1 : ∀ y : Int, vs.length + ([y] : List Int).length ≤ Dh := by intro y; rw [h1]; unfold Dh; simp; omega
    have l2 : ∀ y : Int, ns.length + ([y] : List Int).length ≤ Dh := by intro y; rw [h2]; unfold Dh; simp; omega
    have l3 : ∀ y : Int, ts.length + ([y] : List Int).length ≤ Dh := by intro y; rw [h3]; unfold Dh; simp; omega
    simp only [Au (l1 _), Au (l2 _), Au (l3 _), Au (show v ≠ 0 by omega)]
   ·intro k hk
    simp only
    by_cases hki : k < i
    ·rw [Kz (by omega), Kz (by omega), Kz (by omega)]; exact h4 k hki
    ·have : k = i := by omega
     subst this
     rw [Kr h1.symm, Kr h2.symm, Kr h3.symm]
     omega)
  (fun n a _ => by
   rw [C6]
   simp only
   rw [Av (by omega)]) N 0 ([], [], []) (zK _) (by omega) ⟨rfl, rfl, rfl, fun k hk => by omega⟩
 simp only at h1 h2 h3 h4
 have e' : C6 N d (fun v5 => BL N d v5 (fun v16 => some (Aa.mk v5.1 v5.2.1 v5.2.2 v16, true)) N ([], 0)) N ([], [], [], 0) = _ := e
 rw [e']
 have hvs : ∀ v, v ∈ vs → 1 ≤ v ∧ v ≤ 3 := by
  intro v hv
  obtain ⟨q, hq⟩ := zU.1 hv
  have := (h4 q (by have := (lI.1 hq).1; omega)).1
  rwa [lD, hq] at this
 have fin : ∀ Pa : List An, Pa.length ≤ 4 → (∀ t, t ∈ Pa → D9 ⟨vs, ns, ts, []⟩ t = 0) → Z2 ⟨vs, ns, ts, Pa⟩ := by
  intro Pa ht h
  have hp : Bg ⟨vs, ns, ts, Pa⟩ := ⟨show vs.length ≤ 6 by omega, show Pa.length ≤ 12 by omega, show ns.length = vs.length by omega, show ts.length = vs.length by omega, fun v hv => by have := hvs v hv; omega, fun t ht => by rw [← h t ht]; exact WD rfl t⟩
  exact ⟨SD hp fun i hi => by have := h4 i (by have : i < vs.length := hi; omega); simp only; omega, show vs.length ≤ 3 by omega, ht, fun v hv => (hvs v hv).2⟩
 by_cases k3 : vs.length = 0
 ·refine ⟨_, true, ?_, fun _ => fin [] (by simp) (fun t ht => by cases ht)⟩
  obtain ⟨M, rfl⟩ : ∃ M, N = M + 1 := ⟨N - 1, by omega⟩
  rw [BL]
  simp only [A8]
  rw [k3]
  by_cases k4 : (0 : Int) < (d.f8.length : Int)
  ·rw [Az k4]; rfl
  ·rw [Av k4]; rfl
 obtain ⟨Pa, e2, g1, g2⟩ := FI (A := List An) (BL N d (vs, ns, ts) (fun v16 => some (Aa.mk vs ns ts v16, true))) (fun a k => (a, k)) d.f8.length (fun v16 => some (Aa.mk vs ns ts v16, true))
  (fun i a => a.length = i ∧ ∀ t, t ∈ a → D9 ⟨vs, ns, ts, []⟩ t = 0)
  (fun n i a hi ha => by
   have hx : d.f8[i]? = some d.f8[i] := by simp [hi]
   generalize d.f8[i] = l at hx
   obtain ⟨u1, u2, u3, _, u5, u6, _⟩ := w4 l (lM hx)
   have u1 := J5 u1
   have u2 := J5 u2
   have u3 := J5 u3
   have mk := IP (n := 4) u1.1 (by omega)
   have hL : (0 : Int) < (vs.length : Int) := by omega
   have mf := IP (n := (vs.length : Int)) u2.1 hL
   have mt := IP (n := (vs.length : Int)) u3.1 hL
   rw [BL]
   simp only [A8]
   rw [Az (by omega), decide_eq_true hL, AO, AT, hx]
   simp only [oS]
   rw [Au (by omega), Au (by omega), Ch (n := l.fO) (by omega) (by omega), Ch (n := l.fS) (by omega) (by omega), Ch (n := zZ l.fP 4) (by omega) (by omega), Ch (n := 1 + _) (by omega) (by omega), AB (by omega)]
   simp only [OF, oS]
   rw [Eo (d := 0) mf.1 mf.2, Eo (d := 0) mt.1 mt.2]
   simp only [oS]
   have hA : ∀ q : Int, 0 ≤ q → q < (vs.length : Int) → 1 ≤ vs.getD q.toNat 0 ∧ vs.getD q.toNat 0 ≤ 3 := fun q h0 h1 => (h4 q.toNat (by omega)).1
   have hf := hA _ mf.1 mf.2
   have ht := hA _ mt.1 mt.2
   obtain ⟨A, eA, a1, a2, _⟩ := Vw N (vs.getD (zZ l.fO (vs.length : Int)).toNat 0) (vs.getD (zZ l.fS (vs.length : Int)).toNat 0) l.f9 false hN h20 (by omega) (by omega)
   obtain ⟨B, eB, b1, b2, b3⟩ := Vw N (vs.getD (zZ l.fO (vs.length : Int)).toNat 0) (vs.getD (zZ l.fO (vs.length : Int)).toNat 0) l.ga true hN h20 (by omega) (by omega)
   rw [eA, eB]
   simp only [oS]
   have l1 : ∀ y : An, a.length + ([y] : List An).length ≤ Dh := by intro y; rw [ha.1]; unfold Dh; simp; omega
   simp only [Au (l1 _)]
   obtain ⟨kd, hkd⟩ : ∃ kd, kd = 1 + zZ l.fP 4 := ⟨_, rfl⟩
   rw [← hkd]
   have fin2 : ∀ (aw : Bool) (re : List (List Bool)), (aw = true → (kd == 3 || kd == 4) = false) → ((kd = 4 → re = B) ∧ (kd ≠ 4 → re = [])) →
     D9 ⟨vs, ns, ts, []⟩ (An.mk kd (zZ l.fO (vs.length : Int)) (zZ l.fS (vs.length : Int)) aw A re) = 0 := by
    intro aw re haw hre
    refine bd ⟨show 1 ≤ kd ∧ kd ≤ 4 by omega, haw, mf, mt, a1, a2, fun h => by rw [hre.1 h]; exact b1, fun row hr => ?_, fun h => by rw [hre.1 h]; exact b3 rfl rfl, fun h => hre.2 h⟩
    by_cases h4 : kd = 4
    ·simp only at hr; rw [hre.1 h4] at hr; exact b2 row hr
    ·simp only at hr; rw [hre.2 h4] at hr; cases hr
   have app : ∀ t, D9 ⟨vs, ns, ts, []⟩ t = 0 → (a ++ [t]).length = i + 1 ∧ ∀ t', t' ∈ a ++ [t] → D9 ⟨vs, ns, ts, []⟩ t' = 0 := by
    intro t ht
    refine ⟨by simp [ha.1], fun t' ht' => ?_⟩
    rcases yE.1 ht' with h | h
    ·exact ha.2 t' h
    ·rw [yR.1 h]; exact ht
   by_cases h4 : kd = 4
   ·have e4 : (kd == 4) = true := beq_iff_eq.2 h4
    have hre : (kd = 4 → B = B) ∧ (kd ≠ 4 → B = []) := ⟨fun _ => rfl, fun h => (h h4).elim⟩
    rw [e4]
    simp only [AO, zA2, yA]
    cases l.fY
    ·exact ⟨_, rfl, app _ (fin2 false B (fun h => by cases h) hre)⟩
    ·exact ⟨_, rfl, app _ (fin2 false B (fun h => by cases h) hre)⟩
   ·have e4 : (kd == 4) = false := beq_eq_false_iff_ne.2 h4
    have hre : (kd = 4 → ([] : List (List Bool)) = B) ∧ (kd ≠ 4 → ([] : List (List Bool)) = []) := ⟨fun h => (h4 h).elim, fun _ => rfl⟩
    rw [e4]
    simp only [Ao, Bool.or_false]
    cases l.fY
    ·exact ⟨_, rfl, app _ (fin2 false [] (fun h => by cases h) hre)⟩
    ·cases e3 : kd == 3
     ·exact ⟨_, rfl, app _ (fin2 true [] (fun _ => by rw [e3, e4]; rfl) hre)⟩
     ·exact ⟨_, rfl, app _ (fin2 false [] (fun h => by cases h) hre)⟩)
  (fun n a _ => by
   rw [BL]
   simp only [A8]
   rw [Av (by omega), Ao]) N 0 [] (zK _) (by omega) ⟨rfl, fun t ht => by cases ht⟩
 exact ⟨_, true, e2, fun _ => fin Pa (by omega) g2⟩
def JG : List Int → Nat → Nat
 | [], _ => 0
 | _, 0 => 0
 | n :: ns, q + 1 => (if 0 ≤ n then 1 else 0) + JG ns q
theorem Kl (l : List Int) : JG l 0 = 0 := by cases l <;> rfl
theorem IF : ∀ (l : List Int) (q : Nat), q < l.length → JG l (q + 1) = JG l q + if 0 ≤ l.getD q 0 then 1 else 0
 | [], q, h => by simp at h
 | n :: ns, 0, _ => by simp [JG, Kl]
 | n :: ns, q + 1, h => by
  rw [JG, IF ns q (by simpa using h), JG, uY, xI]
theorem Qo (l : List Int) {a b : Nat} (h : a ≤ b) (hb : b ≤ l.length) : JG l a ≤ JG l b := by
 induction b with
 | zero => rw [Nat.le_zero.1 h]; exact zN _
 | succ b ih =>
  by_cases h1 : a = b + 1
  ·rw [h1]; exact zN _
  ·have := ih (by omega) (by omega)
   rw [IF l b (by omega)]; omega
theorem LV (l : List Int) : ∀ q, q ≤ l.length → JG l q ≤ q
 | 0, _ => by rw [Kl]; exact zN _
 | q + 1, h => by
  have := LV l q (by omega)
  rw [IF l q h]
  split <;> omega
def Oy (l : List Int) (k q : Nat) : Int := if 0 ≤ l.getD q 0 ∧ k.testBit (JG l q) = true then -1 else l.getD q 0
def YG (l : List Int) (k : Nat) : List Int := (zS l.length).map (Oy l k)
def bA (m : Ab) (k : Nat) : Ab := ⟨m.fL, YG m.fI k, m.fN⟩
def G5 (m : Ab) : List Ab := (zS (2 ^ JG m.fI m.fI.length)).map (bA m)
theorem N8 (l : List Int) (k : Nat) : (YG l k).length = l.length := by simp [YG]
theorem Sv (l : List Int) (k q : Nat) (h : q < l.length) : (YG l k).getD q 0 = Oy l k q := by
 unfold YG; rw [lD, zD, List.getElem?_range h]; rfl
theorem Ge {l1 l2 : List Int} (h1 : l1.length = l2.length) (h : ∀ q, q < l1.length → l1.getD q 0 = l2.getD q 0) : l1 = l2 := by
 apply List.ext_getElem h1
 intro q h2 h3
 have := h q h2
 rw [lD, lD, yK h2, yK h3] at this
 exact this
theorem Vz : ∀ (k : Fin 64) (b : Fin 7), AL .i64 (A0 .i64 (k.val : Int) (b.val : Int)) 1 = (if k.val.testBit b.val then 1 else 0) ∧ zZ (A0 .i64 (k.val : Int) (b.val : Int)) 2 = (if k.val.testBit b.val then 1 else 0) := by decide +kernel
theorem Zh : ∀ n : Fin 7, D8 .i64 1 (n.val : Int) = ((2 ^ n.val : Nat) : Int) := by decide +kernel
structure QX (m x : Ab) : Prop where
 base : x.fL = m.fL
 held : x.fN = m.fN
 len : x.fI.length = m.fI.length
 next : ∀ q, q < m.fI.length → x.fI.getD q 0 = m.fI.getD q 0 ∨ (0 ≤ m.fI.getD q 0 ∧ x.fI.getD q 0 = -1)
theorem QX.refl (m : Ab) : QX m m := ⟨rfl, rfl, rfl, fun _ _ => .inl rfl⟩
theorem QX.trans {a b c : Ab} (h1 : QX a b) (h2 : QX b c) : QX a c :=
 ⟨h2.base.trans h1.base, h2.held.trans h1.held, h2.len.trans h1.len, fun q hq => by
  have e1 := h1.next q hq
  have e2 := h2.next q (by rw [h1.len]; exact hq)
  omega⟩
theorem Xc (m : Ab) (k : Nat) : QX m (bA m k) :=
 ⟨rfl, rfl, N8 _ _, fun q hq => by
  show (YG m.fI k).getD q 0 = _ ∨ _ ∧ (YG m.fI k).getD q 0 = _
  rw [Sv _ _ _ hq]; unfold Oy
  split
  ·rename_i h; exact .inr ⟨h.1, rfl⟩
  ·exact .inl rfl⟩
theorem VP : ∀ (l x : List Int), x.length = l.length → (∀ q, q < l.length → x.getD q 0 = l.getD q 0 ∨ (0 ≤ l.getD q 0 ∧ x.getD q 0 = -1)) → ∃ k, k < 2 ^ JG l l.length ∧ ∀ q, q < l.length → x.getD q 0 = Oy l k q
 | [], x, h, _ => ⟨0, by simp [JG], fun q hq => by simp at hq⟩
 | n :: ns, [], h, _ => by simp at h
 | n :: ns, y :: ys, h, hq => by
  obtain ⟨k, hk, hk2⟩ := VP ns ys (by simpa using h) (fun q hq' => by have := hq (q + 1) (by simpa using hq'); simpa using this)
  have h0 := hq 0 (by simp)
  simp only [vN] at h0
  by_cases hn : 0 ≤ n
  ·refine ⟨2 * k + if y = n then 0 else 1, ?_, ?_⟩
   ·rw [yC, JG, if_pos hn, Nat.pow_add]
    split <;> omega
   ·intro q hq'
    cases q with
    | zero =>
     simp only [vN, Oy, Kl]
     by_cases hy : y = n
     ·simp [hy]
     ·rw [if_neg hy, if_pos ⟨hn, by simp⟩]; omega
    | succ q =>
     have := hk2 q (by simpa using hq')
     simp only [uY, Oy, JG, if_pos hn] at this ⊢
     rw [this, vS 1, Nat.testBit_succ]
     have : (2 * k + if y = n then 0 else 1) / 2 = k := by split <;> omega
     rw [this]
  ·refine ⟨k, ?_, ?_⟩
   ·rw [yC, JG, if_neg hn, zC]; exact hk
   ·intro q hq'
    cases q with
    | zero =>
     simp only [vN, Oy, Kl]
     rw [if_neg (fun h => hn h.1)]
     omega
    | succ q =>
     have := hk2 q (by simpa using hq')
     simp only [uY, Oy, JG, if_neg hn, zC] at this ⊢
     exact this
theorem Pn {m x : Ab} : x ∈ G5 m ↔ QX m x := by
 unfold G5
 rw [zW]
 constructor
 ·rintro ⟨k, _, rfl⟩; exact Xc m k
 ·intro h
  obtain ⟨k, hk, hq⟩ := VP m.fI x.fI h.len h.next
  refine ⟨k, yX.2 hk, ?_⟩
  have : YG m.fI k = x.fI := Ge (by rw [N8, h.len]) fun q hq' => by
   rw [N8] at hq'
   rw [Sv _ _ _ hq', hq q hq']
  unfold bA
  rw [this, ← h.base, ← h.held]
theorem aB {m x : Ab} (h : QX m x) {s : Nat} (hs : s < m.fI.length) {v : Nat} (hv : JP x s v = true) : JP m s v = true := by
 unfold JP at hv ⊢
 rw [h.base] at hv
 have := h.next s hs
 simp only [xO, decide_eq_true_eq] at hv ⊢
 omega
theorem ZY {p : Aa} {m x : Ab} (hp : Bg p) (hm : BV p m) (h : QX m x) : BV p x := by
 refine ⟨⟨by rw [h.base]; exact hm.base, by rw [h.len]; exact hm.next, by rw [h.held]; exact hm.held, fun i hi => by rw [h.base]; exact hm.b0 i hi, fun i hi => ?_, fun i hi => ?_⟩, fun i hi => by rw [h.held]; exact hm.range i hi, fun i t ht hs v hv => ?_, fun i t ht hs v hv => ?_, fun i t ht hs => by rw [h.held]; exact hm.none i t ht hs⟩
 ·have h1 := hm.n0 i hi
  have h2 := h.next i (by rw [hm.next]; exact hi)
  have h3 := Jk hp hi
  omega
 ·have h1 := hm.ne i hi
  have h2 := h.next i (by rw [hm.next]; exact hi)
  have h3 := hm.b0 i hi
  rw [h.base]
  omega
 ·have hin := (L0 (hp.tab t (lM ht))).from0
  rw [h.held]
  exact hm.low i t ht hs v (aB h (by rw [hm.next]; omega) hv)
 ·rw [h.held] at hv
  exact hm.high i t ht hs v hv
theorem KM (N : Nat) (l : List Int) (h : l.length ≤ Dh) : Bb N l = some l := by
 unfold Bb
 rw [Au (by simpa using h)]; rfl
theorem RG (N : Nat) (l : List Int) (h : l.length ≤ Dh) : B6 N l = some l := by
 unfold B6
 rw [Au (by simpa using h)]; rfl
theorem Ke {l : List Int} {i q : Nat} {y : Int} (hi : i < l.length) : (l.set i y).getD q 0 = if q = i then y else l.getD q 0 := by
 rw [lD, lD, xB]
 by_cases h : i = q
 ·subst h; simp [hi]
 ·rw [if_neg h, if_neg (fun e => h e.symm)]
theorem Zn {l : List Int} {a b : Nat} (ha : a < l.length) (hb : b < l.length) (h1 : 0 ≤ l.getD a 0) (h2 : 0 ≤ l.getD b 0) (h : JG l a = JG l b) : a = b := by
 rcases Nat.lt_trichotomy a b with h3 | h3 | h3
 ·have := Qo l (a := a + 1) (b := b) h3 (by omega)
  rw [IF l a ha, if_pos h1] at this; omega
 ·exact h3
 ·have := Qo l (a := b + 1) (b := a) h3 (by omega)
  rw [IF l b hb, if_pos h2] at this; omega
structure Xp (l : List Int) (o : List Int) : Prop where
 len : o.length = JG l l.length
 at_ : ∀ b, b < o.length → ∃ i : Nat, o.getD b 0 = (i : Int) ∧ i < l.length ∧ 0 ≤ l.getD i 0 ∧ JG l i = b
theorem TH (N : Nat) (l o : List Int) (k : Nat) (acc : List Ab) (hN : N ≤ 1000000) (h20 : 20 ≤ N) (hl : l.length ≤ 6) (ho : Xp l o) (hk : k < 64) (j : List Int → Option (List Ab × Int)) :
  Do N o (acc, (k : Int)) j N (l, 0) = j (YG l k) := by
 have hol := LV l l.length (zN _)
 have hoL := ho.len
 obtain ⟨x, e, h1, h2⟩ := FI (A := List Int) (Do N o (acc, (k : Int)) j) (fun a k => (a, k)) o.length j
  (fun b a => a.length = l.length ∧ ∀ q, q < l.length → a.getD q 0 = if 0 ≤ l.getD q 0 ∧ JG l q < b ∧ k.testBit (JG l q) = true then -1 else l.getD q 0)
  (fun n b a hb ha => by
   obtain ⟨i, hi1, hi2, hi3, hi4⟩ := ho.at_ b hb
   have hbit := Vz ⟨k, hk⟩ ⟨b, by omega⟩
   rw [Do]
   simp only [A8]
   rw [Az (by omega), Dd (d := 0) hb]
   simp only [oS]
   rw [Au (by omega), hi1, hbit.1, Dd (d := 0) (show i < a.length by rw [ha.1]; exact hi2), AB (by omega)]
   simp only [oS, zT]
   cases hkb : k.testBit b
   ·refine ⟨a, rfl, ha.1, fun q hq => ?_⟩
    rw [ha.2 q hq]
    by_cases hqb : JG l q = b
    ·rw [hqb, hkb]; simp
    ·by_cases h3 : JG l q < b
     ·have : JG l q < b + 1 := by omega
      simp [h3, this]
     ·have : ¬ JG l q < b + 1 := by omega
      simp [h3, this]
   ·refine ⟨a.set i (-1), rfl, by simp [ha.1], fun q hq => ?_⟩
    rw [Ke (by rw [ha.1]; exact hi2), ha.2 q hq]
    by_cases hqi : q = i
    ·subst hqi
     rw [if_pos rfl, if_pos ⟨hi3, by omega, by rw [hi4]; exact hkb⟩]
    ·rw [if_neg hqi]
     by_cases h0 : 0 ≤ l.getD q 0
     ·have hne : JG l q ≠ b := fun h => hqi (Zn hq hi2 h0 hi3 (by omega))
      by_cases h3 : JG l q < b
      ·have : JG l q < b + 1 := by omega
       simp [h3, this]
      ·have : ¬ JG l q < b + 1 := by omega
       simp [h3, this]
     ·rw [if_neg (fun h => h0 h.1), if_neg (fun h => h0 h.1)])
  (fun n a _ => by
   rw [Do]
   simp only [A8]
   rw [Av (by omega)]) N 0 l (zK _) (by omega) ⟨rfl, fun q hq => by simp⟩
 have e' : Do N o (acc, (k : Int)) j N (l, 0) = j x := e
 rw [e']
 congr 1
 refine Ge (by rw [N8, h1]) fun q hq => ?_
 rw [h1] at hq
 rw [h2 q hq, Sv _ _ _ hq, Oy]
 by_cases h0 : 0 ≤ l.getD q 0
 ·have h3 := Qo l (a := q + 1) (b := l.length) hq (zN _)
  rw [IF l q hq, if_pos h0] at h3
  have : JG l q < o.length := by omega
  simp [this]
 ·rw [if_neg (fun h => h0 h.1), if_neg (fun h => h0 h.1)]
theorem Tl (N : Nat) (m : Ab) (k : Nat) (acc : List Ab) (hN : N ≤ 1000000) (h20 : 20 ≤ N) (hl : m.fI.length ≤ 6) (hk : k < 64) (j : List Int → Option (List Ab)) :
  Ca N m (acc, (k : Int)) j N (m.fI, 0, 0) = j (YG m.fI k) := by
 obtain ⟨⟨x, pl⟩, e, h1, h2, h3⟩ := FI (A := List Int × Nat) (Ca N m (acc, (k : Int)) j) (fun a k => (a.1, (a.2 : Int), k)) m.fI.length (fun a => j a.1)
  (fun i a => a.2 = JG m.fI i ∧ a.1.length = m.fI.length ∧ ∀ q, q < m.fI.length → a.1.getD q 0 = if q < i then Oy m.fI k q else m.fI.getD q 0)
  (fun n i a hi ha => by
   obtain ⟨a, pl⟩ := a
   obtain ⟨a1, a2, a3⟩ := ha
   simp only at a1 a2 a3
   have hple := LV m.fI i (by omega)
   have hbit := Vz ⟨k, hk⟩ ⟨pl, by omega⟩
   have hs := IF m.fI i hi
   rw [Ca]
   simp only [A8]
   rw [Az (by omega), Dd (d := 0) hi]
   simp only [oS]
   rw [AB (by omega)]
   by_cases h0 : m.fI.getD i 0 < 0
   ·rw [Az h0]
    refine ⟨(a, pl), rfl, by simp only; rw [hs, if_neg (by omega), a1]; rfl, a2, fun q hq => ?_⟩
    simp only
    rw [a3 q hq]
    by_cases hqi : q = i
    ·subst hqi
     rw [if_neg (by omega), if_pos (by omega), Oy, if_neg (by omega)]
    ·by_cases h4 : q < i
     ·rw [if_pos h4, if_pos (by omega)]
     ·rw [if_neg h4, if_neg (by omega)]
   ·rw [Av h0, Au (by omega), Dd (d := 0) (show i < a.length by omega), hbit.2, AB (by omega)]
    simp only [oS, zT]
    cases hkb : k.testBit pl
    ·refine ⟨(a, pl + 1), rfl, by simp only; rw [hs, if_pos (by omega), a1], a2, fun q hq => ?_⟩
     simp only
     rw [a3 q hq]
     by_cases hqi : q = i
     ·subst hqi
      rw [if_neg (by omega), if_pos (by omega), Oy, ← a1, hkb]; simp
     ·by_cases h4 : q < i
      ·rw [if_pos h4, if_pos (by omega)]
      ·rw [if_neg h4, if_neg (by omega)]
    ·refine ⟨(a.set i (-1), pl + 1), rfl, by simp only; rw [hs, if_pos (by omega), a1], by simp [a2], fun q hq => ?_⟩
     simp only
     rw [Ke (by omega), a3 q hq]
     by_cases hqi : q = i
     ·subst hqi
      rw [if_pos rfl, if_pos (by omega), Oy, ← a1, if_pos ⟨by omega, hkb⟩]
     ·rw [if_neg hqi]
      by_cases h4 : q < i
      ·rw [if_pos h4, if_pos (by omega)]
      ·rw [if_neg h4, if_neg (by omega)])
  (fun n a _ => by
   rw [Ca]
   simp only [A8]
   rw [Av (by omega)]) N 0 (m.fI, 0) (zK _) (by omega) ⟨(Kl _).symm, rfl, fun q hq => by simp⟩
 have e' : Ca N m (acc, (k : Int)) j N (m.fI, 0, 0) = j x := e
 rw [e']
 congr 1
 simp only at h2 h3
 refine Ge (by rw [N8, h2]) fun q hq => ?_
 rw [h2] at hq
 rw [h3 q hq, if_pos hq, Sv _ _ _ hq]
theorem Yg (N : Nat) (m : Ab) (hN : N ≤ 1000000) (h20 : 20 ≤ N) (hl : m.fI.length ≤ 6) (j : List Int → Option (List Ab × Int)) :
  ∃ o, Ec N m j N ([], 0) = j o ∧ Xp m.fI o := by
 obtain ⟨o, e, h1, h2⟩ := FI (A := List Int) (Ec N m j) (fun a k => (a, k)) m.fI.length j
  (fun i o => o.length = JG m.fI i ∧ ∀ b, b < o.length → ∃ q : Nat, o.getD b 0 = (q : Int) ∧ q < m.fI.length ∧ 0 ≤ m.fI.getD q 0 ∧ JG m.fI q = b)
  (fun n i o hi ho => by
   have hple := LV m.fI i (by omega)
   have hs := IF m.fI i hi
   rw [Ec]
   simp only [A8]
   rw [Az (by omega), Dd (d := 0) hi]
   simp only [oS]
   rw [AB (by omega)]
   by_cases h0 : 0 ≤ m.fI.getD i 0
   ·rw [Az h0, Au (by rw [ho.1]; unfold Dh; simp; omega)]
    refine ⟨o ++ [(i : Int)], rfl, by rw [hs, if_pos h0, ← ho.1]; simp, ?_⟩
    rw [zY]
    exact Py (P := fun b y => ∃ q : Nat, y = (q : Int) ∧ q < m.fI.length ∧ 0 ≤ m.fI.getD q 0 ∧ JG m.fI q = b) rfl ho.2 ⟨i, rfl, hi, h0, ho.1.symm⟩
   ·rw [Av h0]
    exact ⟨o, rfl, by rw [hs, if_neg h0, ho.1]; rfl, ho.2⟩)
  (fun n a _ => by
   rw [Ec]
   simp only [A8]
   rw [Av (by omega)]) N 0 [] (zK _) (by omega) ⟨(Kl _).symm, fun b hb => by simp at hb⟩
 exact ⟨o, e, h1, h2⟩
theorem M3 {n : Nat} (h : n ≤ 6) : 2 ^ n ≤ 64 := Nat.pow_le_pow_right (n := 2) (by omega) h
theorem Pc {n : Nat} (h : n ≤ 6) : D8 .i64 1 (n : Int) = ((2 ^ n : Nat) : Int) := Zh ⟨n, by omega⟩
theorem L6 {β : Type} (f : Nat → β) (n : Nat) : (zS (n + 1)).map f = (zS n).map f ++ [f n] := by
 rw [xX, xE]; rfl
theorem QO (N : Nat) (p : Aa) (m : Ab) (hN : N ≤ 1000000) (h20 : 100 ≤ N) (hw : LH Ly m.fN) (hv : BX p m = 0) : Gd N p m = some (G5 m, 0) := by
 obtain ⟨hp, hm⟩ := I7 hw hv
 have hnv := hp.nv
 have hnt := hp.nt
 have hl : m.fI.length ≤ 6 := by rw [hm.next]; omega
 unfold Gd
 rw [IC N p m hN (by omega) hw, hv]
 simp only [oS, bne_self_eq_false, Ao]
 obtain ⟨o, e, ho⟩ := Yg N m hN (by omega) hl (fun (v4 : (List Int)) =>
   (D3 (0 ≤ (v4.length : Int))).bind fun _ =>
   Dp N m v4 (fun (v12 : (List Ab)) =>
    some (v12, 0)) N (([] : List Ab), 0))
 rw [e, Au (by omega)]
 have hoL := ho.len
 have hol := LV m.fI m.fI.length (zN _)
 have hpow := M3 (show JG m.fI m.fI.length ≤ 6 by omega)
 obtain ⟨a, e2, h1⟩ := FI (A := List Ab) (Dp N m o fun v12 => some (v12, 0)) (fun a k => (a, k)) (2 ^ JG m.fI m.fI.length) (fun v12 => some (v12, 0))
  (fun i a => a = (zS i).map (bA m))
  (fun n i a hi ha => by
   refine ⟨a ++ [bA m i], ?_, by rw [L6, ha]⟩
   have hal : a.length = i := by rw [ha]; simp
   rw [Dp]
   rw [hoL, Pc (n := JG m.fI m.fI.length) (by omega), Az (by omega), KM N m.fL (by have := hm.base; unfold Dh; omega), KM N m.fI (by unfold Dh; omega), RG N m.fN (by have := hm.held; unfold Dh; omega)]
   simp only [oS]
   rw [TH N m.fI o i a hN (by omega) hl ho (by omega), Au (by rw [hal]; unfold Dh; simp; omega), AB (by omega)]
   rfl)
  (fun n a _ => by
   rw [Dp]
   rw [hoL, Pc (n := JG m.fI m.fI.length) (by omega), Av (by simp)]) N 0 [] (zK _) (by omega) rfl
 have e2' : Dp N m o (fun v12 => some (v12, 0)) N ([], 0) = some (a, 0) := e2
 rw [e2', h1]; rfl
theorem UY (N : Nat) (m : Ab) (h1 : m.fL.length ≤ Dh) (h2 : m.fI.length ≤ Dh) (h3 : m.fN.length ≤ Dh) : EN N m = some m := by
 unfold EN
 rw [Au (by simpa using h1), Au (by simpa using h2), Au (by simpa using h3)]; rfl
theorem UU (N : Nat) (m : Ab) (hN : N ≤ 1000000) (h20 : 100 ≤ N) (h1 : m.fL.length ≤ 100) (hl : m.fI.length ≤ 6) (h3 : m.fN.length ≤ 100) : ER N m = some (G5 m) := by
 unfold ER
 obtain ⟨c, e, hc⟩ := FI (A := Nat) (CW N m (fun (v2 : Int) =>
  BK N m v2 (fun (v8 : (List Ab)) => some v8) N (([] : List Ab), 0))) (fun a k => ((a : Int), k)) m.fI.length (fun a => BK N m (a : Int) (fun (v8 : (List Ab)) => some v8) N (([] : List Ab), 0))
  (fun i a => a = JG m.fI i)
  (fun n i a hi ha => by
   have hple := LV m.fI i (by omega)
   have hs := IF m.fI i hi
   rw [CW]
   simp only [A8]
   rw [Az (by omega), Dd (d := 0) hi]
   simp only [oS]
   rw [AB (by omega), AB (by omega)]
   by_cases h0 : 0 ≤ m.fI.getD i 0
   ·rw [Az h0]
    exact ⟨a + 1, rfl, by rw [hs, if_pos h0, ha]⟩
   ·rw [Av h0]
    exact ⟨a, rfl, by rw [hs, if_neg h0, ha]; rfl⟩)
  (fun n a _ => by
   rw [CW]
   simp only [A8]
   rw [Av (by omega)]) N 0 0 (zK _) (by omega) (Kl _).symm
 have e' : CW N m (fun (v2 : Int) => BK N m v2 (fun (v8 : (List Ab)) => some v8) N (([] : List Ab), 0)) N (0, 0) = _ := e
 rw [e', hc]
 have hol := LV m.fI m.fI.length (zN _)
 have hpow := M3 (show JG m.fI m.fI.length ≤ 6 by omega)
 obtain ⟨a, e2, h1⟩ := FI (A := List Ab) (BK N m (JG m.fI m.fI.length : Int) fun v8 => some v8) (fun a k => (a, k)) (2 ^ JG m.fI m.fI.length) some
  (fun i a => a = (zS i).map (bA m))
  (fun n i a hi ha => by
   refine ⟨a ++ [bA m i], ?_, by rw [L6, ha]⟩
   have hal : a.length = i := by rw [ha]; simp
   rw [BK]
   rw [Au (by omega), Pc (n := JG m.fI m.fI.length) (by omega), Az (by omega), UY N m (by unfold Dh; omega) (by unfold Dh; omega) (by unfold Dh; omega)]
   simp only [oS]
   rw [Tl N m i a hN (by omega) hl (by omega), Au (by rw [hal]; unfold Dh; simp; omega), AB (by omega)]
   rfl)
  (fun n a _ => by
   rw [BK]
   rw [Au (by omega), Pc (n := JG m.fI m.fI.length) (by omega), Av (by simp)]) N 0 [] (zK _) (by omega) rfl
 have e2' : BK N m (JG m.fI m.fI.length : Int) (fun v8 => some v8) N ([], 0) = some a := e2
 rw [e2', h1]; rfl
theorem Us (N : Nat) (p : Aa) (m : Ab) (hN : N ≤ 1000000) (h20 : 100 ≤ N) (hp : Bg p) (hm : BV p m) : ER N m = some (G5 m) := by
 have := hp.nv
 have := hp.nt
 exact UU N m hN h20 (by rw [hm.base]; omega) (by rw [hm.next]; omega) (by rw [hm.held]; omega)
theorem K2 {p : Aa} {m : Ab} (hm : BV p m) : LH Ly m.fN := by
 intro x hx
 obtain ⟨q, hq⟩ := zU.1 hx
 have h1 := (lI.1 hq).1
 have := hm.range q (by rw [← hm.held]; exact h1)
 rw [lD, hq] at this
 unfold Ly
 simp only [yF] at this
 simp [Lit.wf, IntKind.min, IntKind.max, IntKind.signed, IntKind.bits]
 omega
def Nh (p : Aa) (x : Ab) : Option (Ab × Ap) := match H7 p x with
 | [] => none
 | c :: _ => some (x, c)
def PY (p : Aa) (m : Ab) : Option (Ab × Ap) := CU (fun _ x => Nh p x) 0 (G5 m)
def HR : Ab := ⟨[], [], []⟩
def Vq : Ap := ⟨0, 0, 0⟩
def Va (p : Aa) (m : Ab) : Ab × Ap × Int := match PY p m with
 | some (x, c) => (x, c, 0)
 | none => (HR, Vq, 15)
def A6 (p : Aa) (m : Ab) : Bool := (PY p m).isNone
theorem Pl {m : Ab} (hl : m.fI.length ≤ 6) : (G5 m).length ≤ 64 := by
 unfold G5
 have hol := LV m.fI m.fI.length (zN _)
 have hpow := M3 (show JG m.fI m.fI.length ≤ 6 by omega)
 simpa using hpow
theorem N4 {α R R' : Type} (f : Nat → α → Option R) (g : R → R') : ∀ (i : Nat) (xs : List α), CU (fun i x => (f i x).map g) i xs = (CU f i xs).map g
 | _, [] => rfl
 | i, x :: xs => by
  rw [FR, FR]
  cases f i x
  ·exact N4 f g (i + 1) xs
  ·rfl
theorem R3 (N : Nat) (p : Aa) (m : Ab) (hN : N ≤ 1000000) (h20 : 100 ≤ N) (hw : LH Ly m.fN) (hv : BX p m = 0) : GE N p m = some (Va p m) := by
 obtain ⟨hp, hm⟩ := I7 hw hv
 have hnv := hp.nv
 unfold GE
 rw [QO N p m hN h20 hw hv]
 simp only [oS, bne_self_eq_false, Ao]
 have hal := Pl (m := m) (by rw [hm.next]; omega)
 have := Cm (Fj N p (G5 m, 0) fun _ => some (HR, Vq, 15)) (G5 m) (some (HR, Vq, 15)) (fun _ x => (Nh p x).map fun y => (y.1, y.2, 0))
  (fun n i x hx => by
   have hi := (lI.1 hx).1
   have hx2 := ZY hp hm (Pn.1 (lM hx))
   rw [Fj, Az (by simp only; omega)]
   simp only [AT, hx, oS]
   rw [Ou N p x hN (by omega) hp hx2, AB (by omega)]
   simp only [oS, Nh]
   cases H7 p x with
   | nil => rfl
   | cons c cs => rw [Az (by simp only [yC]; omega)]; rfl)
  (fun n => by rw [Fj, Av (by simp)]) N 0 (zK _) (by omega)
 rw [zX, N4] at this
 exact this.trans (by
  unfold Va PY
  cases CU (fun _ x => Nh p x) 0 (G5 m) <;> rfl)
theorem GY (N : Nat) (p : Aa) (m : Ab) (hN : N ≤ 1000000) (h20 : 100 ≤ N) (hw : LH Ly m.fN) (hv : BX p m = 0) : DZ N p m = some (A6 p m, 0) := by
 unfold DZ
 rw [R3 N p m hN h20 hw hv]
 unfold A6 Va
 cases PY p m <;> rfl
theorem T7 (N : Nat) (p : Aa) (m : Ab) (hN : N ≤ 1000000) (h20 : 100 ≤ N) (hp : Bg p) (hm : BV p m) : EJ N p m = some (H7 p m).isEmpty := by
 unfold EJ
 rw [Oq N p m hN (by omega) hp hm]
 simp only [oS]
 cases H7 p m with
 | nil => rfl
 | cons c cs =>
  rw [beq_eq_false_iff_ne.2 (by simp only [yC]; omega)]; rfl
theorem HY (N : Nat) (p : Aa) (m : Ab) (hN : N ≤ 1000000) (h20 : 100 ≤ N) (hp : Bg p) (hm : BV p m) : BJ N p m = some (A6 p m) := by
 have hnv := hp.nv
 unfold BJ
 rw [Us N p m hN h20 hp hm]
 simp only [oS]
 have hal := Pl (m := m) (by rw [hm.next]; omega)
 have := Cm (Cj N p (G5 m) fun _ => some true) (G5 m) (some true) (fun _ x => (Nh p x).map fun _ => false)
  (fun n i x hx => by
   have hi := (lI.1 hx).1
   have hx2 := ZY hp hm (Pn.1 (lM hx))
   rw [Cj, Az (by omega)]
   simp only [AT, hx, oS]
   rw [T7 N p x hN h20 hp hx2, AB (by omega)]
   simp only [oS, Nh]
   cases H7 p x with
   | nil => rfl
   | cons c cs => rfl)
  (fun n => by rw [Cj, Av (by simp)]) N 0 (zK _) (by omega)
 rw [zX, N4] at this
 refine Eq.trans this ?_
 unfold A6 PY
 cases CU (fun _ x => Nh p x) 0 (G5 m) <;> rfl
theorem OR {N : Nat} {a b : Ab} (hN : N ≤ 1000000) (h1 : a.fL.length < N) (h2 : a.fI.length < N) (h3 : a.fN.length < N) (h4 : b.fN.length < N) (wa : LH Ly a.fN) (wb : LH Ly b.fN) : BS N a b = some (G4 a b) := by
 unfold BS
 rw [Qx h1 hN, Qx h2 hN, OM h3 hN wa, OM h4 hN wb]
 simp only [oS]
 rw [Qx h3 hN]
 unfold G4 Ut
 by_cases h1 : E7 a.fL b.fL = 0
 ·simp only [h1, Ut]
  by_cases h2 : E7 a.fI b.fI = 0
  ·simp only [h2]
   by_cases h3 : E7 a.fN b.fN = 0 <;> simp [h3]
  ·have : (E7 a.fI b.fI != 0) = true := by simpa using h2
   simp [h2, this]
 ·have : (E7 a.fL b.fL != 0) = true := by simpa using h1
  simp [h1, this]
theorem Sq (N : Nat) (a b : List Int) (hN : N ≤ 1000000) (h : a.length < N) : El N a b = some (a == b) := by
 unfold El
 by_cases hl : a.length = b.length
 ·rw [hl, bne_self_eq_false, Ao]
  have := Cm (Ci N a b fun _ => some true) a (some true) (fun i x => if x = b.getD i 0 then none else some false)
   (fun n i x hx => by
    have hi := (lI.1 hx).1
    rw [Ci, Az (by omega), AT, hx, Dd (d := 0) (by omega)]
    simp only [oS]
    rw [AB (by omega)]
    by_cases h : x = b.getD i 0
    ·rw [if_pos h, h, bne_self_eq_false]; rfl
    ·rw [if_neg h, bne_iff_ne.2 h]; rfl)
   (fun n => by rw [Ci, Av (by simp)]) N 0 (zK _) (by omega)
  refine this.trans ?_
  rw [zX]
  cases hs : CU (fun i x => if x = b.getD i 0 then none else some false) 0 a with
  | none =>
   have : a = b := Ge hl fun q hq => by
    have hx : a[q]? = some (a.getD q 0) := by rw [lD]; simp [hq]
    have := Fg hs q _ hx
    rw [zC] at this
    split at this
    ·assumption
    ·cases this
   rw [this, beq_self_eq_true]; rfl
  | some r =>
   obtain ⟨j, x, hx, hf⟩ := Dw hs
   rw [zC] at hf
   split at hf
   ·cases hf
   ·rename_i hne
    cases hf
    have : (a == b) = false := beq_eq_false_iff_ne.2 fun e => hne (by rw [← e, lD, hx]; rfl)
    rw [this]; rfl
 ·have h1 : ((a.length : Int) != (b.length : Int)) = true := bne_iff_ne.2 (by omega)
  have h2 : (a == b) = false := beq_eq_false_iff_ne.2 fun e => hl (by rw [e])
  rw [h1, h2]; rfl
theorem RU (N : Nat) (a : List Int) (f : Int → Option Bool) (g : Int → Bool) (hN : N ≤ 1000000) (h : a.length < N) (hf : ∀ x, x ∈ a → f x = some (g x)) : C3 N a f = some (a.any g) := by
 unfold C3 Em
 have := Cm (Bq N a f fun _ => some (-1)) a (some (-1)) (fun i x => if g x then some (i : Int) else none)
  (fun n i x hx => by
   have hi := (lI.1 hx).1
   rw [Bq, Az (by omega), AT, hx]
   simp only [oS]
   rw [hf x (lM hx), AB (by omega)]
   simp only [oS]
   cases g x <;> rfl)
  (fun n => by rw [Bq, Av (by simp)]) N 0 (zK _) (by omega)
 have e : Bq N a f (fun _ => some (-1)) N 0 = _ := this
 rw [e, zX]
 cases hs : CU (fun i x => if g x then some (i : Int) else none) 0 a with
 | none =>
  have : a.any g = false := by
   rw [vJ]
   intro x hx
   obtain ⟨j, hj⟩ := zU.1 hx
   have := Fg hs j x hj
   intro hg
   rw [hg] at this; cases this
  rw [this]; rfl
 | some r =>
  obtain ⟨j, x, hx, hf⟩ := Dw hs
  split at hf
  ·rename_i hg
   cases hf
   have : a.any g = true := xF.2 ⟨x, lM hx, hg⟩
   rw [this]
   simp only [BG, oS]
   rw [decide_eq_true (by omega)]
  ·cases hf
def GQ (p : Aa) (m : Ab) : Bool := BX p m == 0 && (m.fL == p.fU && m.fI.all (fun n => decide (n < 0)))
theorem OX (N : Nat) (p : Aa) (m : Ab) (hN : N ≤ 1000000) (h20 : 100 ≤ N) (hw : LH Ly m.fN) : Ij N p m = some (GQ p m) := by
 unfold Ij GQ
 rw [IC N p m hN (by omega) hw]
 simp only [A8, oS]
 by_cases hv : BX p m = 0
 ·obtain ⟨hp, hm⟩ := I7 hw hv
  have := hp.nv
  rw [hv, Sq N _ _ hN (by rw [hm.base]; omega), RU N m.fI (fun x => HP N x) (fun n => decide (0 ≤ n)) hN (by rw [hm.next]; omega) (fun x _ => rfl)]
  simp only [oS, beq_self_eq_true, AO, yP]
  have : m.fI.all (fun n => decide (n < 0)) = !m.fI.any (fun n => decide (0 ≤ n)) := by
   rw [List.not_any_eq_all_not]
   congr 1; funext n
   by_cases h : 0 ≤ n
   ·rw [decide_eq_true h, decide_eq_false (by omega)]; rfl
   ·rw [decide_eq_false h, decide_eq_true (by omega)]; rfl
  rw [this]
  cases m.fL == p.fU <;> simp
 ·rw [beq_eq_false_iff_ne.2 hv]; rfl
theorem SU (N : Nat) (p : Aa) (m : Ab) (hN : N ≤ 1000000) (h20 : 100 ≤ N) (hw : LH Ly m.fN) : Ez N p m = some (GQ p m) := by
 unfold Ez GQ
 rw [Ld N p m hN (by omega)]
 simp only [oS]
 by_cases hv : BX p m = 0
 ·obtain ⟨hp, hm⟩ := I7 hw hv
  have h1 := hp.nv
  have h2 := hp.tgt
  have h3 := hm.base
  have h4 := hm.next
  rw [hv]
  simp only [bne_self_eq_false, Ao, beq_self_eq_true, yP]
  have := Cm (Dc N p m fun _ => some true) m.fL (some true) (fun i x => if 0 ≤ m.fI.getD i 0 ∨ x ≠ p.fU.getD i 0 then some false else none)
   (fun n i x hx => by
    have hi := (lI.1 hx).1
    rw [Dc, Az (by omega)]
    simp only [A8]
    rw [show Bl m.fL (i : Int) = some x from by rw [AT, hx], Dd (d := 0) (by omega), Dd (d := 0) (by omega)]
    simp only [oS]
    rw [AB (by omega)]
    by_cases k1 : 0 ≤ m.fI.getD i 0
    ·rw [Az k1, if_pos (.inl k1)]; rfl
    ·rw [Av k1]
     by_cases k2 : x = p.fU.getD i 0
     ·rw [if_neg (fun h => h.elim k1 (fun h => h k2)), k2, bne_self_eq_false]; rfl
     ·rw [if_pos (.inr k2), bne_iff_ne.2 k2]; rfl)
   (fun n => by rw [Dc, Av (by simp)]) N 0 (zK _) (by omega)
  refine this.trans ?_
  rw [zX]
  cases hs : CU (fun i x => if 0 ≤ m.fI.getD i 0 ∨ x ≠ p.fU.getD i 0 then some false else none) 0 m.fL with
  | none =>
   have key : ∀ q, q < m.fL.length → m.fL.getD q 0 = p.fU.getD q 0 ∧ ¬ 0 ≤ m.fI.getD q 0 := by
    intro q hq
    have hx : m.fL[q]? = some (m.fL.getD q 0) := by rw [lD]; simp [hq]
    have := Fg hs q _ hx
    rw [zC] at this
    split at this
    ·cases this
    ·rename_i h; exact ⟨Decidable.not_not.1 fun h' => h (.inr h'), fun h' => h (.inl h')⟩
   have e1 : m.fL = p.fU := Ge (by omega) fun q hq => (key q hq).1
   have e2 : m.fI.all (fun n => decide (n < 0)) = true := by
    rw [zG]
    intro n hn
    obtain ⟨q, hq⟩ := zU.1 hn
    have hl := (lI.1 hq).1
    have := (key q (by omega)).2
    rw [lD, hq] at this
    simp only [yF] at this
    simp only [decide_eq_true_eq]
    omega
   rw [e2, e1]; simp [BG]
  | some r =>
   obtain ⟨j, x, hx, hf⟩ := Dw hs
   rw [zC] at hf
   have hj := (lI.1 hx).1
   split at hf
   ·rename_i h
    cases hf
    have : (m.fL == p.fU && m.fI.all (fun n => decide (n < 0))) = false := by
     rw [Bool.and_eq_false_iff]
     rcases h with h | h
     ·right
      rw [List.all_eq_false]
      refine ⟨m.fI.getD j 0, ?_, ?_⟩
      ·rw [lD, yK (by omega)]; exact xQ _
      ·simp only [decide_eq_true_eq]; omega
     ·left
      exact beq_eq_false_iff_ne.2 fun e => h (by rw [← e, lD, hx]; rfl)
    rw [this]; rfl
   ·cases hf
 ·rw [bne_iff_ne.2 hv, beq_eq_false_iff_ne.2 hv]; rfl
open Go
structure bV (x y : An) : Prop where
 k : y.fP = x.fP
 f : y.fO = x.fO
 t : y.fS = x.fS
 a : y.fY = x.fY
 r : y.fT = x.fT
 l : y.fX.length = x.fX.length
 o : ∀ (u : Nat) (row : List Bool), x.fX[u]? = some row → ∃ row', y.fX[u]? = some row' ∧ row'.length = row.length ∧ ∀ v : Nat, row[v]? = some true → row'[v]? = some true
theorem bV.st {x y : An} (h : bV x y) : B8 y = B8 x := by unfold B8; rw [h.k]
structure bW (p : Aa) (m x : Ab) : Prop where
 base : m.fL = x.fL
 next : m.fI = x.fI
 held : ∀ i, i < p.fK.length → ∀ v, Ee (m.fN.getD i 0) v = true → Ee (x.fN.getD i 0) v = true
theorem bW.refl (p : Aa) (m : Ab) : bW p m m := ⟨rfl, rfl, fun _ _ _ h => h⟩
theorem bW.trans {p : Aa} {a b c : Ab} (h : bW p a b) (g : bW p b c) : bW p a c := ⟨h.base.trans g.base, h.next.trans g.next, fun i hi v hv => g.held i hi v (h.held i hi v hv)⟩
structure UP (xs ys : List An) : Prop where
 l : ys.length = xs.length
 o : ∀ (i : Nat) (x : An), xs[i]? = some x → ∃ y, ys[i]? = some y ∧ bV x y
theorem bV.refl (x : An) : bV x x := ⟨rfl, rfl, rfl, rfl, rfl, rfl, fun _ row h => ⟨row, h, rfl, fun _ h => h⟩⟩
theorem UP.refl (xs : List An) : UP xs xs := ⟨rfl, fun _ x h => ⟨x, h, bV.refl x⟩⟩
theorem UP.set {xs ys : List An} (h : UP xs ys) {i u v : Nat} {y : An} {row : List Bool} {b b0 : Bool} (hy : ys[i]? = some y) (hu : y.fX[u]? = some row) (hv : row[v]? = some b0) (hb : b0 = true → b = true) :
  UP xs (ys.set i ⟨y.fP, y.fO, y.fS, y.fY, y.fX.set u (row.set v b), y.fT⟩) := by
 refine ⟨by rw [xY]; exact h.l, fun k x hx => ?_⟩
 obtain ⟨z, hz, ht⟩ := h.o k x hx
 by_cases e : i = k
 ·subst e
  rw [hy] at hz; cases hz
  have hi := (lI.1 hy).1
  refine ⟨⟨y.fP, y.fO, y.fS, y.fY, y.fX.set u (row.set v b), y.fT⟩, by rw [xB, if_pos rfl, if_pos hi], ⟨ht.k, ht.f, ht.t, ht.a, ht.r, by show (y.fX.set u (row.set v b)).length = _; rw [xY]; exact ht.l, fun w r hw => ?_⟩⟩
  obtain ⟨r', e1, e2, e3⟩ := ht.o w r hw
  by_cases eu : u = w
  ·subst eu
   rw [hu] at e1; cases e1
   have hul := (lI.1 hu).1
   refine ⟨row.set v b, by show (y.fX.set u (row.set v b))[u]? = _; rw [xB, if_pos rfl, if_pos hul], by rw [xY]; exact e2, fun q hq => ?_⟩
   have h1 := e3 q hq
   rw [xB]
   by_cases ev : v = q
   ·subst ev
    rw [hv] at h1; cases h1
    rw [if_pos rfl, if_pos (lI.1 hv).1, hb rfl]
   ·rw [if_neg ev]; exact h1
  ·exact ⟨r', by show (y.fX.set u (row.set v b))[w]? = _; rw [xB, if_neg eu]; exact e1, e2, e3⟩
 ·exact ⟨z, by rw [xB, if_neg e]; exact hz, ht⟩
theorem UP.row {xs ys : List An} (h : UP xs ys) {i u : Nat} {x : An} {row : List Bool} (hx : xs[i]? = some x) (hu : x.fX[u]? = some row) : ∃ y r, ys[i]? = some y ∧ y.fX[u]? = some r ∧ r.length = row.length := by
 obtain ⟨y, hy, ht⟩ := h.o i x hx
 obtain ⟨r, e1, e2, _⟩ := ht.o u row hu
 exact ⟨y, r, hy, e1, e2⟩
theorem TY {α : Type} : ∀ (i : Nat) (xs : List α), CY (fun _ x => [x]) i xs = xs
 | _, [] => rfl
 | i, x :: xs => by rw [CY, TY (i + 1) xs]; rfl
def Gy (p : Aa) (t : An) : Int := if B8 t = true then D8 .u8 1 (p.fQ.getD t.fO.toNat 0) else 0
def EU (p : Aa) : Ab := ⟨p.fQ, zH p.fQ.length (-1), p.fK.map (Gy p)⟩
theorem Ww (N : Nat) (h : 100 ≤ N) (n : Nat) (hn : n ≤ 6) : EV N [(-1)] (n : Int) = some (zH n (-1)) := by
 obtain ⟨k, rfl⟩ : ∃ k, N = k + 100 := ⟨N - 100, by omega⟩
 have : n = 0 ∨ n = 1 ∨ n = 2 ∨ n = 3 ∨ n = 4 ∨ n = 5 ∨ n = 6 := by omega
 rcases this with rfl | rfl | rfl | rfl | rfl | rfl | rfl
 all_goals (show _ = _; kernel_rfl)
theorem TA (T : List Int) (i : Nat) (hi : i < T.length) : (T.take i ++ zH (T.length - i) 0).set i (T.getD i 0) = T.take (i + 1) ++ zH (T.length - (i + 1)) 0 := by
 have hl : (T.take i).length = i := by simp; omega
 rw [List.set_append_right _ _ (by omega), hl, vC, show T.length - i = (T.length - (i + 1)) + 1 from by omega, List.replicate_succ, List.set_cons_zero, yU, yS]
 have : T[i]? = some (T.getD i 0) := by rw [lD]; simp [hi]
 rw [this]; rfl
theorem Wp (T : List Int) (i : Nat) (hi : i < T.length) (h0 : T.getD i 0 = 0) : T.take i ++ zH (T.length - i) 0 = T.take (i + 1) ++ zH (T.length - (i + 1)) 0 := by
 rw [← TA T i hi, h0, List.set_append_right _ _ (by rw [List.length_take]; omega)]
 congr 1
 have hl : (T.take i).length = i := by simp; omega
 rw [hl, vC, show T.length - i = (T.length - (i + 1)) + 1 from by omega, List.replicate_succ, List.set_cons_zero]
theorem U2 {p : Aa} (hv : BB p = 0) {t : An} (ht : t ∈ p.fK) : 0 ≤ t.fO ∧ t.fO.toNat < p.fQ.length ∧ 0 ≤ p.fQ.getD t.fO.toNat 0 ∧ p.fQ.getD t.fO.toNat 0 < 6 ∧ p.fQ.getD t.fO.toNat 0 < p.fJ.getD t.fO.toNat 0 ∧ t.fO.toNat < p.fJ.length := by
 obtain ⟨hp, hr⟩ := CM hv
 have h1 := J0 (hp.tab t ht)
 have h2 := hr t.fO.toNat (by omega)
 have h3 := Jk hp (i := t.fO.toNat) (by omega)
 have := hp.now
 refine ⟨h1.1, by omega, h2.1, by omega, h2.2.1, by omega⟩
theorem KO {p : Aa} {i : Nat} {t : An} (ht : p.fK[i]? = some t) : (p.fK.map (Gy p)).getD i 0 = Gy p t := by
 rw [lD, zD, ht]; rfl
theorem NL (N : Nat) (p : Aa) (hN : N ≤ 1000000) (h20 : 100 ≤ N) : Hw N p = some (if BB p = 0 then EU p else ⟨[], [], []⟩, BB p) := by
 unfold Hw
 rw [JN N p hN (by omega)]
 simp only [oS]
 by_cases hv : BB p = 0
 ·rw [if_pos hv, hv]
  obtain ⟨hp, _⟩ := CM hv
  have hnv := hp.nv
  have hnt := hp.nt
  have hnow := hp.now
  rw [bne_self_eq_false, Ao, KM N _ (by simp only [Dh]; omega)]
  simp only [oS]
  rw [Ww N h20 _ (by omega)]
  simp only [oS]
  rw [Au (by simp only [Dh]; omega)]
  obtain ⟨a', e, ha⟩ := FI (EE N p fun v7 => some (Ab.mk p.fQ (zH p.fQ.length (-1)) v7, 0)) (fun a i => (a, i)) p.fK.length (fun v7 => some (Ab.mk p.fQ (zH p.fQ.length (-1)) v7, 0))
   (fun i a => a = (p.fK.map (Gy p)).take i ++ zH ((p.fK.map (Gy p)).length - i) 0)
   (fun n i a hi ha => by
    have hx : p.fK[i]? = some p.fK[i] := by simp [hi]
    have hm : p.fK[i] ∈ p.fK := xQ hi
    obtain ⟨n1, n2, n3, n4, _⟩ := U2 hv hm
    rw [EE, Az (by simp only; omega)]
    simp only [A8, AT, hx, oS, KD, AB (show i < 1000000 by omega)]
    have hal : i < (p.fK.map (Gy p)).length := by simpa using hi
    cases hs : B8 p.fK[i]
    ·rw [Ao]
     refine ⟨a, rfl, ?_⟩
     rw [ha]
     exact Wp _ _ hal (by rw [KO hx]; unfold Gy; rw [hs]; rfl)
    ·rw [AO]
     have e1 : Bl p.fQ p.fK[i].fO = some (p.fQ.getD p.fK[i].fO.toNat 0) := by
      obtain ⟨q, hq⟩ := zJ n1
      rw [hq]; exact Dd (by rw [hq] at n2; simpa using n2)
     rw [e1]
     simp only [oS]
     rw [Au n3]
     have hl : i < a.length := by rw [ha]; simp; omega
     have e2 : a[i]? = some a[i] := by simp [hl]
     rw [e2]
     simp only [oS]
     refine ⟨_, rfl, ?_⟩
     rw [← TA _ _ hal, KO hx, ha]
     unfold Gy; rw [hs]; rfl)
   (fun n a ha => by rw [EE, Av (by simp)]) N 0 (zH p.fK.length 0) (zK _) (by omega) (by simp)
  have e' : EE N p (fun v7 => some (Ab.mk p.fQ (zH p.fQ.length (-1)) v7, 0)) N (zH ((p.fK.length : Int)).toNat (0 : Int), 0) = _ := e
  rw [e', ha]
  have e5 : (p.fK.map (Gy p)).take p.fK.length = p.fK.map (Gy p) := zA1 (by simp)
  simp [EU, e5]
 ·rw [if_neg hv, bne_iff_ne.2 hv, AO]
theorem Nu (N : Nat) (p : Aa) (hN : N ≤ 1000000) (h20 : 100 ≤ N) : Ei N p = some (if BB p = 0 then EU p else ⟨[], [], []⟩, BB p) := by
 unfold Ei
 rw [Lo N p hN (by omega)]
 simp only [oS]
 by_cases hv : BB p = 0
 ·rw [if_pos hv, hv]
  obtain ⟨hp, _⟩ := CM hv
  have hnv := hp.nv
  have hnt := hp.nt
  have hnow := hp.now
  rw [bne_self_eq_false, Ao]
  obtain ⟨a', e, ha⟩ := FI (Cq N p fun v4 => Bn N p (fun v10 => some (Ab.mk v4.1 v4.2 v10, 0)) N (([] : List Int), 0)) (fun a i => (a.1, a.2, i)) p.fJ.length (fun v4 => Bn N p (fun v10 => some (Ab.mk v4.1 v4.2 v10, 0)) N (([] : List Int), 0))
   (fun i a => a = (p.fQ.take i, zH i (-1)))
   (fun n i a hi ha => by
    subst ha
    rw [Cq, Az (by simp only; omega)]
    have hx : p.fQ[i]? = some p.fQ[i] := by simp [show i < p.fQ.length from by omega]
    simp only [AT, hx, oS, AB (show i < 1000000 by omega)]
    rw [Au (by simp [Dh]; omega), Au (by simp [Dh]; omega)]
    refine ⟨(p.fQ.take i ++ [p.fQ[i]], zH i (-1) ++ [-1]), rfl, ?_⟩
    rw [yU, hx, List.replicate_succ']; rfl)
   (fun n a ha => by rw [Cq, Av (by simp)]) N 0 ([], []) (zK _) (by omega) rfl
  have e' : Cq N p (fun v4 => Bn N p (fun v10 => some (Ab.mk v4.1 v4.2 v10, 0)) N (([] : List Int), 0)) N (([] : List Int), ([] : List Int), 0) = _ := e
  rw [e', ha]
  simp only
  obtain ⟨b', e2, hb⟩ := FI (Bn N p fun v10 => some (Ab.mk (p.fQ.take p.fJ.length) (zH p.fJ.length (-1)) v10, 0)) (fun a i => (a, i)) p.fK.length (fun v10 => some (Ab.mk (p.fQ.take p.fJ.length) (zH p.fJ.length (-1)) v10, 0))
   (fun i a => a = (p.fK.map (Gy p)).take i)
   (fun n i a hi ha => by
    subst ha
    have hx : p.fK[i]? = some p.fK[i] := by simp [hi]
    have hm : p.fK[i] ∈ p.fK := xQ hi
    obtain ⟨n1, n2, n3, n4, _⟩ := U2 hv hm
    rw [Bn, Az (by simp only; omega)]
    simp only [A8, AT, hx, oS, HK, AB (show i < 1000000 by omega)]
    have hT : (p.fK.map (Gy p))[i]? = some (Gy p p.fK[i]) := by rw [zD, hx]; rfl
    have hlen : ((p.fK.map (Gy p)).take i).length + 1 ≤ Dh := by simp [Dh]; omega
    cases hs : B8 p.fK[i]
    ·rw [Ao, Au (by simpa using hlen)]
     refine ⟨_, rfl, ?_⟩
     rw [yU, hT]
     unfold Gy; rw [hs]; rfl
    ·rw [AO]
     have e1 : Bl p.fQ p.fK[i].fO = some (p.fQ.getD p.fK[i].fO.toNat 0) := by
      obtain ⟨q, hq⟩ := zJ n1
      rw [hq]; exact Dd (by rw [hq] at n2; simpa using n2)
     rw [e1]
     simp only [oS]
     rw [Au n3, Au (by simpa using hlen)]
     refine ⟨_, rfl, ?_⟩
     rw [yU, hT]
     unfold Gy; rw [hs]; rfl)
   (fun n a ha => by rw [Bn, Av (by simp)]) N 0 [] (zK _) (by omega) rfl
  have e3 : Bn N p (fun v10 => some (Ab.mk (p.fQ.take p.fJ.length) (zH p.fJ.length (-1)) v10, 0)) N (([] : List Int), 0) = _ := e2
  rw [e3, hb]
  simp only [EU, ← hnow, uG]
  rw [show p.fK.length = (p.fK.map (Gy p)).length from by simp, uG]
 ·rw [if_neg hv, bne_iff_ne.2 hv, AO]
theorem NB {p : Aa} (hv : BB p = 0) : BV p (EU p) := by
 obtain ⟨hp, hr⟩ := CM hv
 have hnow := hp.now
 have hnx : ∀ i, i < p.fJ.length → (zH p.fQ.length (-1 : Int)).getD i 0 = -1 := fun i hi => by
  rw [lD, List.getElem?_replicate, if_pos (by omega)]; rfl
 have hone : ∀ (i : Nat) (t : An), p.fK[i]? = some t → ∃ b : Nat, b < 6 ∧ p.fQ.getD t.fO.toNat 0 = (b : Int) ∧ (b : Int) < p.fJ.getD t.fO.toNat 0 ∧ t.fO.toNat < p.fJ.length := fun i t ht => by
  obtain ⟨n1, n2, n3, n4, n5, n6⟩ := U2 hv (lM ht)
  obtain ⟨b, hb⟩ := zJ n3
  exact ⟨b, by omega, hb, by omega, n6⟩
 have hbit : ∀ b : Nat, b < 8 → ∀ v, Ee (D8 .u8 1 (b : Int)) v = decide (b = v) := fun b hb v => by
  by_cases h : v < 8
  ·exact (K7 ⟨b, hb⟩ ⟨v, h⟩).1
  ·rw [Ls (K7 ⟨b, hb⟩ ⟨0, by omega⟩).2.2 (by omega)]
   symm; apply decide_eq_false; omega
 refine { base := hnow, next := by simp [EU, hnow], held := by simp [EU], b0 := fun i hi => ⟨(hr i hi).1, (hr i hi).2.1⟩, n0 := fun i hi => ?_, ne := fun i hi => ?_, range := fun i hi => ?_, low := fun i t ht hs v hv' => ?_, high := fun i t ht hs v hb => ?_, none := fun i t ht hs => ?_ }
 ·show -1 ≤ (zH p.fQ.length (-1 : Int)).getD i 0 ∧ (zH p.fQ.length (-1 : Int)).getD i 0 < _
  rw [hnx i hi]
  have := Jk hp hi
  omega
 ·show p.fQ.getD i 0 ≠ (zH p.fQ.length (-1 : Int)).getD i 0
  rw [hnx i hi]
  have := hr i hi
  omega
 ·have hx : p.fK[i]? = some p.fK[i] := by simp [hi]
  show 0 ≤ (p.fK.map (Gy p)).getD i 0 ∧ (p.fK.map (Gy p)).getD i 0 ≤ 255
  rw [KO hx]
  unfold Gy
  split
  ·obtain ⟨b, h1, h2, _⟩ := hone i _ hx
   rw [h2]
   exact (K7 ⟨b, by omega⟩ ⟨0, by omega⟩).2
  ·omega
 ·show Ee ((p.fK.map (Gy p)).getD i 0) v = true
  obtain ⟨b, h1, h2, h3, h4⟩ := hone i t ht
  rw [KO ht]
  unfold Gy
  rw [if_pos hs, h2, hbit b (by omega)]
  unfold JP at hv'
  have h5 : (EU p).fL.getD t.fO.toNat 0 = (b : Int) := h2
  have h6 : (EU p).fI.getD t.fO.toNat 0 = -1 := hnx _ h4
  rw [h5, h6, xO, decide_eq_true_iff, decide_eq_true_iff] at hv'
  apply decide_eq_true; omega
 ·have hb : Ee ((p.fK.map (Gy p)).getD i 0) v = true := hb
  obtain ⟨b, h1, h2, h3, h4⟩ := hone i t ht
  rw [KO ht] at hb
  unfold Gy at hb
  rw [if_pos hs, h2, hbit b (by omega), decide_eq_true_iff] at hb
  omega
 ·show (p.fK.map (Gy p)).getD i 0 = 0
  rw [KO ht]; unfold Gy; rw [hs]; rfl
theorem O0 (x : BitVec 8) : wI .u8 (x.toNat : Int) = (x.toNat : Int) := by
 have := x.isLt
 simp [wI, IntKind.signed, IntKind.bits]
 omega
theorem Ti (x : BitVec 8) : 0 ≤ (x.toNat : Int) ∧ (x.toNat : Int) ≤ 255 := by
 have := x.isLt
 omega
theorem X9 (x : BitVec 8) (v : Nat) : Ee (x.toNat : Int) v = x.getLsbD v := by
 unfold Ee; rw [zT]; rfl
theorem Sf {a : Int} (ha : 0 ≤ a ∧ a ≤ 255) (v : Nat) : (BitVec.ofInt 8 a).getLsbD v = Ee a v := by
 obtain ⟨a, rfl⟩ := zJ ha.1
 unfold BitVec.getLsbD Ee
 rw [Yx (by omega), zT]
theorem UE {a b : Int} (ha : 0 ≤ a ∧ a ≤ 255) (hb : 0 ≤ b ∧ b ≤ 255) : (∀ v, Ee (Df .u8 a b) v = (Ee a v && !Ee b v)) ∧ 0 ≤ Df .u8 a b ∧ Df .u8 a b ≤ 255 := by
 have e : Df .u8 a b = ((BitVec.ofInt 8 a &&& ~~~BitVec.ofInt 8 b).toNat : Int) := O0 (BitVec.ofInt 8 a &&& ~~~BitVec.ofInt 8 b)
 rw [e]
 refine ⟨fun v => ?_, Ti _⟩
 rw [X9, BitVec.getLsbD_and, BitVec.getLsbD_not, Sf ha, Sf hb]
 by_cases h : v < 8
 ·simp [h]
 ·rw [Ls ha.2 (by omega)]; simp
theorem UD {a b : Int} (ha : 0 ≤ a ∧ a ≤ 255) (hb : 0 ≤ b ∧ b ≤ 255) : (∀ v, Ee (Qz .u8 a b) v = (Ee a v || Ee b v)) ∧ 0 ≤ Qz .u8 a b ∧ Qz .u8 a b ≤ 255 := by
 have e : Qz .u8 a b = ((BitVec.ofInt 8 a ||| BitVec.ofInt 8 b).toNat : Int) := O0 (BitVec.ofInt 8 a ||| BitVec.ofInt 8 b)
 rw [e]
 refine ⟨fun v => ?_, Ti _⟩
 rw [X9, BitVec.getLsbD_or, Sf ha, Sf hb]
theorem Zr {b : Nat} (hb : b < 8) : (∀ v, Ee (D8 .u8 1 (b : Int)) v = decide (b = v)) ∧ 0 ≤ D8 .u8 1 (b : Int) ∧ D8 .u8 1 (b : Int) ≤ 255 := by
 refine ⟨fun v => ?_, (K7 ⟨b, hb⟩ ⟨0, by omega⟩).2⟩
 by_cases h : v < 8
 ·exact (K7 ⟨b, hb⟩ ⟨v, h⟩).1
 ·rw [Ls (K7 ⟨b, hb⟩ ⟨0, by omega⟩).2.2 (by omega)]
  symm; apply decide_eq_false; omega
theorem Xt (N : Nat) {s : Int} {v : Nat} (hs : 0 ≤ s ∧ s ≤ 255) (hv : v < 8) : CN N s (v : Int) = some (Ee s v) := by
 unfold CN
 rw [Au (by omega), RX hs.1 hs.2 hv]
 cases Ee s v <;> rfl
def Z5 (v : Nat) : Nat := ((zS 8).find? fun u => v.testBit u).getD 8
def dn (v : Nat) : Nat := ((zS 8).filter fun u => v.testBit u).length
theorem bJ : ∀ v : Fin 256, Dl 0 (v.val : Int) = some (Z5 v.val : Int) := by decide +kernel
theorem dq (N : Nat) {v : Nat} (h : v < 256) : Dl N (v : Int) = some (Z5 v : Int) := bJ ⟨v, h⟩
theorem YP : ∀ v : Fin 256, v.val ≠ 0 → Z5 v.val < 8 ∧ Ee (v.val : Int) (Z5 v.val) = true ∧ 0 ≤ AL .u8 (v.val : Int) (wI .u8 ((v.val : Int) - 1)) ∧ AL .u8 (v.val : Int) (wI .u8 ((v.val : Int) - 1)) ≤ 255 ∧
  dn (AL .u8 (v.val : Int) (wI .u8 ((v.val : Int) - 1))).toNat + 1 = dn v.val ∧
  ∀ u : Fin 8, Ee (AL .u8 (v.val : Int) (wI .u8 ((v.val : Int) - 1))) u.val = (Ee (v.val : Int) u.val && decide (u.val ≠ Z5 v.val)) := by decide +kernel
theorem cX (v : Nat) : dn v ≤ 8 := by
 have := List.length_filter_le (fun u => v.testBit u) (zS 8)
 simpa [dn] using this
theorem TB (N : Nat) (t : An) (b : Int) (rw_ : Nat → Bool) : ∀ (k n v : Nat), dn v ≤ k → k < n → v < 256 →
  (∀ u, u < 8 → Ee (v : Int) u = true → ∃ row, Bl t.fT (u : Int) = some row ∧ Bl row b = some (rw_ u)) →
  DU N t b (fun _ => some true) n (v : Int) = some ((zS 8).all fun u => !Ee (v : Int) u || rw_ u)
 | k, 0, v, _, h, _, _ => by omega
 | k, n + 1, v, hk, hn, hv, hr => by
  rw [DU]
  by_cases h0 : v = 0
  ·subst h0
   have : (((0 : Nat) : Int) != 0) = false := rfl
   rw [this, Ao]
   congr 1
  ·have h1 : ((v : Int) != 0) = true := bne_iff_ne.2 (by omega)
   obtain ⟨l1, l2, l3, l4, l5, l6⟩ := YP ⟨v, hv⟩ h0
   simp only at l1 l2 l3 l4 l5 l6
   obtain ⟨row, e1, e2⟩ := hr _ l1 l2
   rw [h1, AO, dq N hv]
   simp only [oS, e1, e2]
   obtain ⟨w, hw⟩ := zJ l3
   rw [hw] at l4 l5 l6 ⊢
   rw [zT] at l5
   cases hq : rw_ (Z5 v)
   ·rw [yT, AO]
    congr 1
    symm
    rw [List.all_eq_false]
    exact ⟨Z5 v, by simpa using l1, by rw [l2, hq]; simp⟩
   ·rw [yA, Ao]
    match k, hk with
    | 0, hk => exfalso; omega
    | k + 1, hk =>
    rw [TB N t b rw_ k n w (by omega) (by omega) (by omega) (fun u hu hb => hr u hu (by have := l6 ⟨u, hu⟩; simp only at this; rw [hb] at this; simpa using (uC.1 this.symm).1))]
    congr 1
    rw [Bool.eq_iff_iff, zG, zG]
    refine ⟨fun h u hu => ?_, fun h u hu => ?_⟩
    ·have hu8 : u < 8 := by simpa using hu
     have h3 := h u hu
     have h4 := l6 ⟨u, hu8⟩
     simp only at h4
     rw [h4] at h3
     by_cases e : u = Z5 v
     ·rw [e, hq]; simp
     ·simpa [e] using h3
    ·have hu8 : u < 8 := by simpa using hu
     have h3 := h u hu
     have h4 := l6 ⟨u, hu8⟩
     simp only at h4
     rw [h4]
     cases hb : Ee (v : Int) u
     ·simp
     ·rw [hb] at h3; simp at h3; simp [h3]
theorem Um (N : Nat) (m : Ab) (s : Int) (h0 : 0 ≤ s) (h1 : s < (m.fL.length : Int)) (h2 : s < (m.fI.length : Int)) (hb : 0 ≤ m.fL.getD s.toNat 0) : GN N m s = some (HQ m s.toNat) := by
 unfold GN HQ
 rw [Eo (d := 0) h0 h1, Eo (d := 0) h0 h2]
 simp only [oS, Bc]
 rw [show D3 (0 ≤ m.fL.getD s.toNat 0) = some () from by unfold D3; rw [if_pos hb]]
 simp only [oS]
 by_cases h : 0 ≤ m.fI.getD s.toNat 0
 ·rw [Az h, if_pos h, show D3 (0 ≤ m.fI.getD s.toNat 0) = some () from by unfold D3; rw [if_pos h]]; rfl
 ·rw [Av h, if_neg h]
theorem Mb (N : Nat) (t : An) : Gn N t = some (B8 t) := by
 unfold Gn B8
 simp only [Bc]
 cases h : t.fP == 3 <;> simp
def Hc (s : Ae) : Bool := decide (1 ≤ s.fP ∧ s.fP ≤ 4 ∧ 0 ≤ s.fR ∧ 0 ≤ s.fW) && (s.fP == 1 || s.fW == 0)
def Gu (p : Aa) (s : Ae) : Bool :=
 if s.fP = 3 then decide (s.fR < (p.fK.length : Int)) else decide (s.fR < (p.fJ.length : Int)) && (s.fP != 1 || decide (s.fW < p.fJ.getD s.fR.toNat 0))
theorem QA (N : Nat) (s : Ae) : HJ N s = some (Hc s) := by
 unfold HJ Hc XX
 simp only [Bc]
 by_cases h1 : (if s.fW < s.fR then s.fW else s.fR) < 0
 ·rw [Az h1, AO, decide_eq_false (by split at h1 <;> omega)]; rfl
 ·rw [Av h1]
  by_cases h2 : s.fP < 1
  ·rw [Az h2, AO, decide_eq_false (by omega)]; rfl
  ·rw [Av h2]
   by_cases h3 : 4 < s.fP
   ·rw [decide_eq_true h3, AO, decide_eq_false (by omega)]; rfl
   ·rw [decide_eq_false h3, Ao, decide_eq_true (by split at h1 <;> omega), yP]
    cases h4 : s.fP == 1 <;> simp
theorem Sj (N : Nat) (s : Ae) : E1 N s = some (Hc s) := by
 unfold E1 Hc
 simp only [Bc]
 by_cases h1 : 1 ≤ s.fP
 ·rw [Az h1]
  by_cases h2 : s.fP ≤ 4
  ·rw [Az h2]
   by_cases h3 : 0 ≤ s.fR
   ·rw [Az h3]
    by_cases h4 : 0 ≤ s.fW
    ·rw [Az h4, decide_eq_true (by omega), yP]
     cases h5 : s.fP == 1 <;> simp
    ·rw [Av h4, decide_eq_false (by omega)]; rfl
   ·rw [Av h3, decide_eq_false (by omega)]; rfl
  ·rw [Av h2, decide_eq_false (by omega)]; rfl
 ·rw [Av h1, decide_eq_false (by omega)]; rfl
theorem PC (N : Nat) (p : Aa) (s : Ae) (hv : Hc s = true) : Hb N p s = some (Gu p s) := by
 have h0 : 0 ≤ s.fR := by
  unfold Hc at hv
  rw [zI, decide_eq_true_iff] at hv
  exact hv.1.2.2.1
 unfold Hb Gu
 simp only [Bc]
 by_cases h1 : s.fP = 3
 ·rw [if_pos h1, beq_iff_eq.2 h1, AO]
 ·rw [if_neg h1, beq_eq_false_iff_ne.2 h1, Ao]
  by_cases h2 : s.fR < (p.fJ.length : Int)
  ·rw [Az h2, decide_eq_true h2, yP]
   cases h3 : s.fP != 1
   ·rw [Ao, Eo (d := 0) h0 h2, vO]; rfl
   ·rw [AO]; rfl
  ·rw [Av h2, decide_eq_false h2]; rfl
def VY (s : Ae) (t : An) : Bool := t.fO == s.fR && B8 t
def WH (s : Ae) (i : Nat) (t : An) (a : List Int) : List Int := if VY s t = true then a.set i (Qz .u8 (a.getD i 0) (D8 .u8 1 s.fW)) else a
def JY (p : Aa) (s : Ae) (held : List Int) : List Int := Jr (WH s) 0 p.fK held
theorem O5 {_R : Type} (N : Nat) (p : Aa) (s : Ae) (held : List Int) (hv : 0 ≤ s.fW) (hl : held.length = p.fK.length) (h12 : p.fK.length < N) (hN : N ≤ 1000000) (j : List Int → Option (Bool × List Int × List Int)) :
  Ed N p s j N (held, 0) = j (JY p s held) ∧ (JY p s held).length = p.fK.length := by
 have := Ih (Ed N p s j) (fun a i => (a, i)) p.fK j (WH s) (fun i a => a.length = p.fK.length)
  (fun n i x a hx ha => by
   have hi := (lI.1 hx).1
   rw [Ed, Az (by simp only; omega)]
   simp only [A8, AT, hx, oS, Mb, AB (show i < 1000000 by omega)]
   have e2 : a[i]? = some (a.getD i 0) := by rw [lD]; simp [show i < a.length from by omega]
   unfold WH VY
   cases h1 : x.fO == s.fR
   ·rw [Ao, Ao, vM, if_neg (by simp)]; exact ⟨rfl, ha⟩
   ·rw [AO, yP]
    cases h2 : B8 x
    ·rw [Ao, if_neg (by simp)]; exact ⟨rfl, ha⟩
    ·rw [AO, e2, if_pos rfl]
     simp only [oS]
     rw [Au hv]
     exact ⟨rfl, by simpa using ha⟩)
  (fun n a ha => by rw [Ed, Av (by simp)]) N 0 held (zK _) (by omega) hl
 rw [zX] at this
 exact this
theorem Qd (N : Nat) (p : Aa) (s : Ae) (held : List Int) (hv : 0 ≤ s.fW) (hl : held.length = p.fK.length) (h12 : p.fK.length < N) (hN : N ≤ 1000000) (j : List Int → Option (Ab × Bool)) :
  Ce N p s j N (held, 0) = j (JY p s held) := by
 have := Ih (Ce N p s j) (fun a i => (a, i)) p.fK j (WH s) (fun i a => a.length = p.fK.length)
  (fun n i x a hx ha => by
   have hi := (lI.1 hx).1
   rw [Ce, Az (by simp only; omega)]
   simp only [A8, AT, hx, oS, HK, AB (show i < 1000000 by omega)]
   have e2 : a[i]? = some (a.getD i 0) := by rw [lD]; simp [show i < a.length from by omega]
   unfold WH VY
   cases h1 : x.fO == s.fR
   ·rw [Ao, Ao, vM, if_neg (by simp)]; exact ⟨rfl, ha⟩
   ·rw [AO, yP]
    cases h2 : B8 x
    ·rw [Ao, if_neg (by simp)]; exact ⟨rfl, ha⟩
    ·rw [AO, e2, if_pos rfl]
     simp only [oS]
     rw [Au hv]
     exact ⟨rfl, by simpa using ha⟩)
  (fun n a ha => by rw [Ce, Av (by simp)]) N 0 held (zK _) (by omega) hl
 rw [zX] at this
 exact this.1
def MV (m : Ab) (t : An) (u : Nat) : Bool := (t.fT.getD u []).getD (m.fL.getD t.fO.toNat 0).toNat false
def PR (m : Ab) (i : Nat) (t : An) (u : Nat) : Bool := Ee (m.fN.getD i 0) u && !JP m t.fO.toNat u
def Ji (_p : Aa) (m : Ab) (i : Nat) (t : An) : Bool := t.fP == 4 && (zS 8).any fun u => PR m i t u && !MV m t u
def Gt (p : Aa) (m : Ab) (s : Ae) : Option Ab :=
 let i := s.fR.toNat
 if s.fP = 1 then (if 0 ≤ m.fI.getD i 0 ∨ m.fL.getD i 0 = s.fW then none else some ⟨m.fL, m.fI.set i s.fW, JY p s m.fN⟩)
 else if s.fP = 3 then match p.fK[i]? with
  | none => none
  | some t => if B8 t = false ∨ m.fN.getD i 0 = HQ m t.fO.toNat ∨ Ji p m i t = true then none else some ⟨m.fL, m.fI, m.fN.set i (HQ m t.fO.toNat)⟩
 else if m.fI.getD i 0 < 0 then none
 else some ⟨if s.fP = 2 then m.fL.set i (m.fI.getD i 0) else m.fL, m.fI.set i (-1), m.fN⟩
def A2 (p : Aa) (m : Ab) (s : Ae) : Ab × Int :=
 if Hc s = false then (HR, 1) else if Gu p s = false then (HR, 4) else match Gt p m s with
  | none => (HR, 11)
  | some x => (x, 0)
end Go.Lift
namespace Go.Lift
open Option renaming bind_some → oS
open List renaming mem_of_getElem? → lM
open List renaming getElem?_eq_some_iff → lI
open List renaming getD_eq_getElem?_getD → lD
open Go
section clear
variable {p : Aa} {m : Ab} {i : Nat} {t : An}
theorem W4 (hp : Bg p) (hm : BV p m) (ht : p.fK[i]? = some t) (hs : B8 t = true) {u : Nat} (h : Ee (m.fN.getD i 0) u = true) : (u : Int) < p.fJ.getD t.fO.toNat 0 ∧ u < 6 ∧ t.fO.toNat < p.fJ.length := by
 have h1 := hm.high i t ht hs u h
 have hin := J0 (hp.tab t (lM ht))
 have h2 := Jk hp (i := t.fO.toNat) (by omega)
 exact ⟨h1, by omega, by omega⟩
theorem X7 (hp : Bg p) (hm : BV p m) (ht : p.fK[i]? = some t) (hs : B8 t = true) (h4 : t.fP = 4) {u : Nat} (h : Ee (m.fN.getD i 0) u = true) :
  Bl t.fT (u : Int) = some (t.fT.getD u []) ∧ Bl (t.fT.getD u []) (m.fL.getD t.fO.toNat 0) = some (MV m t u) := by
 have hT := L0 (hp.tab t (lM ht))
 obtain ⟨h1, h2, h3⟩ := W4 hp hm ht hs h
 have hl := hT.reL h4
 have e : t.fT[u]? = some (t.fT.getD u []) := by rw [lD]; simp [show u < t.fT.length from by omega]
 have hr := hT.reR _ (lM e)
 have hb := hm.b0 t.fO.toNat h3
 refine ⟨by rw [AT, e], ?_⟩
 unfold MV
 obtain ⟨b, hb'⟩ := zJ hb.1
 rw [hb'] at hb ⊢
 rw [zT]
 exact Dd (by omega)
theorem QC (N : Nat) (hN : N ≤ 1000000) (h20 : 100 ≤ N) (hp : Bg p) (hm : BV p m) (ht : p.fK[i]? = some t) :
  HX N p m (i : Int) = some (if B8 t = false ∨ m.fN.getD i 0 = HQ m t.fO.toNat ∨ Ji p m i t = true then (false, m.fN) else (true, m.fN.set i (HQ m t.fO.toNat))) := by
 have hi := (lI.1 ht).1
 have hin := J0 (hp.tab t (lM ht))
 have hb := hm.base
 have hnx := hm.next
 have hh := hm.held
 have hr := I8 hp hm.toMixServ (s := t.fO.toNat) (by omega)
 have hrg := hm.range i hi
 have eh : Bl m.fN (i : Int) = some (m.fN.getD i 0) := Dd (by omega)
 unfold HX
 simp only [A8, AT, ht, oS, Mb]
 have eh' : m.fN[i]? = some (m.fN.getD i 0) := by rw [← AT, eh]
 cases hs : B8 t
 ·rw [yT, AO, if_pos (.inl rfl)]
 ·rw [yA, Ao, Um N m _ hin.1 (by omega) (by omega) (hm.b0 _ (by omega)).1]
  simp only [oS, eh']
  by_cases h1 : m.fN.getD i 0 = HQ m t.fO.toNat
  ·rw [beq_iff_eq.2 h1, AO, AO, if_pos (.inr (.inl h1))]
  ·rw [beq_eq_false_iff_ne.2 h1, Ao]
   by_cases h4 : t.fP = 4
   ·rw [beq_iff_eq.2 h4, AO, Eo (d := 0) hin.1 (by omega)]
    simp only [oS]
    obtain ⟨a1, a2, a3⟩ := UE hrg hr.2
    obtain ⟨w, hw⟩ := zJ a2
    unfold GI
    rw [hw] at a1 a3 ⊢
    rw [TB N t _ (MV m t) 8 N w (cX _) (by omega) (by omega) (fun u hu hbu => by
     have := a1 u; rw [hbu] at this
     exact ⟨_, X7 hp hm ht hs h4 (uC.1 this.symm).1⟩)]
    simp only [oS]
    have e : (!(zS 8).all fun u => !Ee (w : Int) u || MV m t u) = Ji p m i t := by
     unfold Ji
     rw [beq_iff_eq.2 h4, yP, List.not_all_eq_any_not]
     congr 1
     funext u
     rw [a1 u, hr.1 u]
     unfold PR
     cases Ee (m.fN.getD i 0) u <;> cases JP m t.fO.toNat u <;> cases MV m t u <;> rfl
    rw [e]
    cases hst : Ji p m i t
    ·rw [Ao, if_neg (by rintro (h | h | h); cases h; exact h1 h; cases h)]; rfl
    ·rw [AO, if_pos (.inr (.inr rfl))]
   ·have e : Ji p m i t = false := by unfold Ji; rw [beq_eq_false_iff_ne.2 h4]; rfl
    rw [beq_eq_false_iff_ne.2 h4, Ao, Ao, e, if_neg (by rintro (h | h | h); cases h; exact h1 h; cases h)]; rfl
theorem Qg (N : Nat) (hN : N ≤ 1000000) (h20 : 100 ≤ N) (hp : Bg p) (hm : BV p m) (ht : p.fK[i]? = some t) (hs : B8 t = true) (s : Ae) (hsi : s.fR = (i : Int)) (j : Option (Ab × Bool)) :
  BT N p m s t (HQ m t.fO.toNat) (fun _ => j) N 0 = if Ji p m i t = true then some (HR, false) else j := by
 have hi := (lI.1 ht).1
 have hin := J0 (hp.tab t (lM ht))
 have hb := hm.base
 have hh := hm.held
 have hr := I8 hp hm.toMixServ (s := t.fO.toNat) (by omega)
 have hrg := hm.range i hi
 have hver := Jk hp (i := t.fO.toNat) (by omega)
 obtain ⟨nv, hnv⟩ := zJ (show 0 ≤ p.fJ.getD t.fO.toNat 0 by omega)
 have eh' : m.fN[i]? = some (m.fN.getD i 0) := by rw [lD]; simp [show i < m.fN.length from by omega]
 have := Cm (BT N p m s t (HQ m t.fO.toNat) fun _ => j) (zS nv) j (fun u _ => if (PR m i t u && (t.fP == 4 && !MV m t u)) = true then some (HR, false) else none)
  (fun n u x hx => by
   have hu : u < nv := by
    have := (lI.1 hx).1
    simpa using this
   rw [BT, Eo (d := 0) hin.1 (by omega), hnv]
   simp only [oS]
   rw [Az (by omega)]
   simp only [A8, hsi, AT, eh', oS]
   rw [Xt N hrg (by omega), AB (by omega)]
   simp only [oS]
   cases h1 : Ee (m.fN.getD i 0) u
   ·have e : PR m i t u = false := by unfold PR; rw [h1]; rfl
    rw [Ao, Ao, Ao, e]; rfl
   ·rw [AO, Xt N hr.2 (by omega), hr.1 u]
    simp only [oS]
    have e : PR m i t u = !JP m t.fO.toNat u := by unfold PR; rw [h1]; rfl
    rw [← e]
    cases h2 : PR m i t u
    ·rw [Ao, Ao]; rfl
    ·rw [AO]
     by_cases h4 : t.fP = 4
     ·obtain ⟨e1, e2⟩ := X7 hp hm ht hs h4 h1
      rw [AT] at e1
      rw [beq_iff_eq.2 h4, AO, e1, Eo (d := 0) hin.1 (by omega)]
      simp only [oS]
      rw [e2]
      simp only [oS]
      cases MV m t u <;> rfl
     ·rw [beq_eq_false_iff_ne.2 h4, Ao, Ao]; rfl)
  (fun n => by
   rw [BT, Eo (d := 0) hin.1 (by omega), hnv]
   simp only [oS, uB]
   rw [Av (by omega)]) N 0 (zK _) (by simp; omega)
 have e0 : BT N p m s t (HQ m t.fO.toNat) (fun _ => j) N 0 = _ := this
 rw [e0, zX]
 by_cases hst : Ji p m i t = true
 ·rw [if_pos hst]
  unfold Ji at hst
  rw [zI, xF] at hst
  obtain ⟨h4, u, hu, h5⟩ := hst
  rw [zI] at h5
  have h6 : Ee (m.fN.getD i 0) u = true := by have := h5.1; unfold PR at this; exact (uC.1 this).1
  have h7 := W4 hp hm ht hs h6
  cases hsc : CU (fun u (_ : Nat) => if (PR m i t u && (t.fP == 4 && !MV m t u)) = true then some (HR, false) else none) 0 (zS nv) with
  | some r =>
   obtain ⟨q, x, hx, hf⟩ := Dw hsc
   split at hf
   ·cases hf; rfl
   ·cases hf
  | none =>
   exfalso
   have hx : (zS nv)[u]? = some u := List.getElem?_range (by omega)
   have := Fg hsc u u hx
   rw [zC, h5.1, h4, h5.2] at this
   cases this
 ·rw [if_neg hst]
  have : CU (fun u (_ : Nat) => if (PR m i t u && (t.fP == 4 && !MV m t u)) = true then some (HR, false) else none) 0 (zS nv) = none := Gz fun q x hx => by
   rw [zC]
   split
   ·rename_i h5
    exfalso; apply hst
    rw [zI, zI] at h5
    unfold Ji
    rw [h5.2.1, yP, xF]
    have hq : q < nv := by
     have := (lI.1 hx).1
     simpa using this
    exact ⟨q, yX.2 (by omega), by rw [h5.1, h5.2.2]; rfl⟩
   ·rfl
  rw [this]; rfl
end clear
end Go.Lift
namespace Go.Lift
open Option renaming bind_some → oS
open List renaming mem_of_getElem? → lM
open Go
theorem IS {s : Ae} (h : Hc s = true) : 1 ≤ s.fP ∧ s.fP ≤ 4 ∧ 0 ≤ s.fR ∧ 0 ≤ s.fW ∧ (s.fP ≠ 1 → s.fW = 0) := by
 unfold Hc at h
 rw [zI, decide_eq_true_iff, xO, beq_iff_eq, beq_iff_eq] at h
 exact ⟨h.1.1, h.1.2.1, h.1.2.2.1, h.1.2.2.2, fun hk => h.2.elim (fun e => (hk e).elim) id⟩
theorem JW {p : Aa} {s : Ae} (h : Gu p s = true) : (s.fP = 3 → s.fR < (p.fK.length : Int)) ∧ (s.fP ≠ 3 → s.fR < (p.fJ.length : Int)) ∧ (s.fP = 1 → s.fW < p.fJ.getD s.fR.toNat 0) := by
 unfold Gu at h
 split at h
 ·rename_i hk
  rw [decide_eq_true_iff] at h
  exact ⟨fun _ => h, fun hn => (hn hk).elim, fun h1 => by omega⟩
 ·rename_i hk
  rw [zI, decide_eq_true_iff, xO, decide_eq_true_iff, bne_iff_ne] at h
  exact ⟨fun h3 => (hk h3).elim, fun _ => h.1, fun h1 => h.2.elim (fun hn => (hn h1).elim) id⟩
theorem Wd (N : Nat) {p : Aa} {m : Ab} (hp : Bg p) (hm : BV p m) : Hl N m = some m := by
 have hnv := hp.nv
 have hnt := hp.nt
 have h1 := hm.base
 have h2 := hm.next
 have h3 := hm.held
 unfold Hl
 rw [KM N _ (by simp only [Dh]; omega), KM N _ (by simp only [Dh]; omega), RG N _ (by simp only [Dh]; omega)]
 rfl
theorem MT (N : Nat) (hN : N ≤ 1000000) (h20 : 100 ≤ N) {p : Aa} {m : Ab} (hp : Bg p) (hm : BV p m) {s : Ae} (hv : Hc s = true) (hx : Gu p s = true) :
  ∃ o, F6 N p m s = some (o, (Gt p m s).isSome) ∧ ∀ x, Gt p m s = some x → o = x := by
 obtain ⟨k1, k4, i0, v0, vk⟩ := IS hv
 obtain ⟨x3, xn, x1⟩ := JW hx
 have hnv := hp.nv
 have hnt := hp.nt
 have hb := hm.base
 have hn := hm.next
 have hh := hm.held
 obtain ⟨i, hi⟩ := zJ i0
 unfold F6 Gt
 rw [Wd N hp hm]
 simp only [oS, A8]
 by_cases hk1 : s.fP = 1
 ·have hi1 : (i : Int) < p.fJ.length := by have := xn (by omega); omega
  rw [beq_iff_eq.2 hk1, AO, if_pos hk1]
  unfold I3
  simp only [A8, hi, zT]
  rw [Dd (d := 0) (show i < m.fI.length by omega)]
  simp only [oS]
  by_cases c1 : 0 ≤ m.fI.getD i 0
  ·rw [Az c1, AO, if_pos (.inl c1)]
   exact ⟨_, rfl, fun x hx => by cases hx⟩
  ·rw [Av c1, Dd (d := 0) (show i < m.fL.length by omega)]
   simp only [oS]
   by_cases c2 : m.fL.getD i 0 = s.fW
   ·rw [beq_iff_eq.2 c2, AO, if_pos (.inr c2)]
    exact ⟨_, rfl, fun x hx => by cases hx⟩
   ·rw [beq_eq_false_iff_ne.2 c2, Ao, (O5 (_R := Unit) N p s m.fN v0 hh (by omega) hN _).1, if_neg (by rintro (h | h); exact c1 h; exact c2 h)]
    exact ⟨_, rfl, fun x hx => by cases hx; rfl⟩
 ·rw [beq_eq_false_iff_ne.2 hk1, Ao, if_neg hk1]
  by_cases hk3 : s.fP = 3
  ·have hi3 : i < p.fK.length := by have := x3 hk3; omega
   have ht : p.fK[i]? = some p.fK[i] := by simp [hi3]
   rw [beq_iff_eq.2 hk3, AO, if_pos hk3, hi, QC N hN h20 hp hm ht]
   simp only [oS, zT, ht]
   split
   ·exact ⟨_, rfl, fun x hx => by cases hx⟩
   ·exact ⟨_, rfl, fun x hx => by cases hx; rfl⟩
  ·have hi1 : (i : Int) < p.fJ.length := by have := xn hk3; omega
   rw [beq_eq_false_iff_ne.2 hk3, Ao, if_neg hk3, hi, Dd (d := 0) (show i < m.fI.length by omega)]
   simp only [oS, zT]
   by_cases c1 : m.fI.getD i 0 < 0
   ·rw [Az c1, if_pos c1]
    exact ⟨_, rfl, fun x hx => by cases hx⟩
   ·rw [Av c1, if_neg c1]
    by_cases hk2 : s.fP = 2
    ·rw [beq_iff_eq.2 hk2, AO, Dd (d := 0) (show i < m.fL.length by omega), if_pos hk2]
     exact ⟨_, rfl, fun x hx => by cases hx; rfl⟩
    ·rw [beq_eq_false_iff_ne.2 hk2, Ao, if_neg hk2]
     exact ⟨_, rfl, fun x hx => by cases hx; rfl⟩
theorem QQ (N : Nat) (hN : N ≤ 1000000) (h20 : 100 ≤ N) {p : Aa} {m : Ab} (hp : Bg p) (hm : BV p m) (s : Ae) : HL N p m s = some (A2 p m s) := by
 unfold HL A2
 rw [QA]
 simp only [oS]
 cases hv : Hc s
 ·rw [yT, AO, if_pos rfl]; rfl
 ·rw [yA, Ao, if_neg (by simp), PC N p s hv]
  simp only [oS]
  cases hx : Gu p s
  ·rw [yT, AO, if_pos rfl]; rfl
  ·rw [yA, Ao, if_neg (by simp)]
   obtain ⟨o, e, ho⟩ := MT N hN h20 hp hm hv hx
   rw [e]
   simp only [oS]
   cases ha : Gt p m s with
   | none => rfl
   | some x => rw [ho x ha]; rfl
theorem NS (N : Nat) (hN : N ≤ 1000000) (h20 : 100 ≤ N) {p : Aa} {m : Ab} (hp : Bg p) (hm : BV p m) {s : Ae} (hv : Hc s = true) (hx : Gu p s = true) :
  CB N p m s = some (match Gt p m s with | none => (HR, false) | some x => (x, true)) := by
 obtain ⟨k1, k4, i0, v0, vk⟩ := IS hv
 obtain ⟨x3, xn, x1⟩ := JW hx
 have hnv := hp.nv
 have hnt := hp.nt
 have hb := hm.base
 have hn := hm.next
 have hh := hm.held
 obtain ⟨i, hi⟩ := zJ i0
 unfold CB Gt
 rw [Au (by simp [Dh]; omega), Au (by simp [Dh]; omega), Au (by simp [Dh]; omega)]
 simp only [A8, uF]
 by_cases hk1 : s.fP = 1
 ·have hi1 : (i : Int) < p.fJ.length := by have := xn (by omega); omega
  rw [beq_iff_eq.2 hk1, AO, if_pos hk1]
  simp only [hi, zT]
  rw [Dd (d := 0) (show i < m.fI.length by omega)]
  simp only [oS]
  by_cases c1 : 0 ≤ m.fI.getD i 0
  ·rw [Az c1, AO, if_pos (.inl c1)]; rfl
  ·rw [Av c1, Dd (d := 0) (show i < m.fL.length by omega)]
   simp only [oS]
   by_cases c2 : m.fL.getD i 0 = s.fW
   ·rw [beq_iff_eq.2 c2.symm, AO, if_pos (.inr c2)]; rfl
   ·rw [beq_eq_false_iff_ne.2 (fun h => c2 h.symm), Ao, Qd N p s m.fN v0 hh (by omega) hN _, if_neg (by rintro (h | h); exact c1 h; exact c2 h)]
 ·rw [beq_eq_false_iff_ne.2 hk1, Ao, if_neg hk1]
  by_cases hk3 : s.fP = 3
  ·have hi3 : i < p.fK.length := by have := x3 hk3; omega
   have ht : p.fK[i]? = some p.fK[i] := by simp [hi3]
   have hin := J0 (hp.tab _ (lM ht))
   have eh' : Bl m.fN (i : Int) = some (m.fN.getD i 0) := Dd (by omega)
   rw [beq_eq_false_iff_ne.2 (show s.fP ≠ 2 by omega), Ao, beq_iff_eq.2 hk3, AO, if_pos hk3, hi, AT, ht]
   simp only [oS, HK, zT, ht]
   cases hs : B8 p.fK[i]
   ·rw [yT, AO, if_pos (.inl rfl)]; rfl
   ·rw [yA, Ao, Li N m _ hin.1 (by omega) (by omega) (hm.b0 _ (by omega)).1, eh']
    simp only [oS]
    by_cases h1 : m.fN.getD i 0 = HQ m (p.fK[i]).fO.toNat
    ·rw [beq_iff_eq.2 h1, AO, if_pos (.inr (.inl h1))]; rfl
    ·rw [beq_eq_false_iff_ne.2 h1, Ao]
     rw [Qg N hN h20 hp hm ht hs s hi]
     cases hst : Ji p m i p.fK[i]
     ·rw [if_neg (by simp), if_neg (by rintro (h | h | h); cases h; exact h1 h; cases h)]
     ·rw [if_pos rfl, if_pos (.inr (.inr rfl))]
  ·have hi1 : (i : Int) < p.fJ.length := by have := xn hk3; omega
   rw [if_neg hk3, hi, Dd (d := 0) (show i < m.fI.length by omega)]
   simp only [oS, zT]
   by_cases hk2 : s.fP = 2
   ·rw [beq_iff_eq.2 hk2, AO, if_pos hk2]
    by_cases c1 : m.fI.getD i 0 < 0
    ·rw [Az c1, if_pos c1]; rfl
    ·rw [Av c1, if_neg c1, Dd (d := 0) (show i < m.fL.length by omega)]; rfl
   ·rw [beq_eq_false_iff_ne.2 hk2, Ao, beq_eq_false_iff_ne.2 hk3, Ao, if_neg hk2]
    by_cases c1 : m.fI.getD i 0 < 0
    ·rw [Az c1, if_pos c1]; rfl
    ·rw [Av c1, if_neg c1]
end Go.Lift
namespace Go.Lift
open Option renaming bind_some → oS
open List renaming mem_of_getElem? → lM
open List renaming getElem?_eq_some_iff → lI
open Go
theorem Tm (s : Ae) : ∀ (xs : List An) (i : Nat) (a : List Int), i + xs.length ≤ a.length → (Jr (WH s) i xs a).length = a.length ∧ ∀ q, (Jr (WH s) i xs a).getD q 0 = match (if i ≤ q then xs[q - i]? else none) with
  | some t => if VY s t = true then Qz .u8 (a.getD q 0) (D8 .u8 1 s.fW) else a.getD q 0
  | none => a.getD q 0
 | [], i, a, _ => by
  refine ⟨rfl, fun q => ?_⟩
  split
  ·rename_i h; split at h
   ·simp at h
   ·cases h
  ·rfl
 | x :: xs, i, a, hl => by
  have hl' : i + (xs.length + 1) ≤ a.length := by simpa using hl
  have ha : (WH s i x a).length = a.length := by unfold WH; split <;> simp
  obtain ⟨ih1, ih2⟩ := Tm s xs (i + 1) (WH s i x a) (by omega)
  refine ⟨by rw [Jr, ih1, ha], fun q => ?_⟩
  rw [Jr, ih2 q]
  have hu : (WH s i x a).getD q 0 = if q = i ∧ VY s x = true then Qz .u8 (a.getD q 0) (D8 .u8 1 s.fW) else a.getD q 0 := by
   unfold WH
   by_cases hc : VY s x = true
   ·rw [if_pos hc, Ke (by omega)]
    by_cases hq : q = i
    ·subst hq; rw [if_pos rfl, if_pos ⟨rfl, hc⟩]
    ·rw [if_neg hq, if_neg (fun h => hq h.1)]
   ·rw [if_neg hc, if_neg (fun h => hc h.2)]
  by_cases h1 : i + 1 ≤ q
  ·rw [if_pos h1, if_pos (show i ≤ q by omega), hu, if_neg (by omega)]
   rw [show (x :: xs)[q - i]? = xs[q - (i + 1)]? from by rw [show q - i = (q - (i + 1)) + 1 from by omega, List.getElem?_cons_succ]]
  ·rw [if_neg h1]
   by_cases h2 : q = i
   ·subst h2
    rw [if_pos (zN _), vC, hu]
    simp
   ·rw [if_neg (show ¬ i ≤ q by omega), hu, if_neg (by omega)]
theorem V9 {p : Aa} {s : Ae} {held : List Int} (hl : held.length = p.fK.length) : (JY p s held).length = p.fK.length ∧ ∀ q t, p.fK[q]? = some t → (JY p s held).getD q 0 = if VY s t = true then Qz .u8 (held.getD q 0) (D8 .u8 1 s.fW) else held.getD q 0 := by
 obtain ⟨h1, h2⟩ := Tm s p.fK 0 held (by omega)
 refine ⟨h1.trans hl, fun q t ht => ?_⟩
 have := h2 q
 rw [if_pos (zK _), Nat.sub_zero, ht] at this
 exact this
theorem PX {m : Ab} {s v : Nat} : JP m s v = true ↔ m.fL.getD s 0 = (v : Int) ∨ m.fI.getD s 0 = (v : Int) := by
 unfold JP; rw [xO, decide_eq_true_iff, decide_eq_true_iff]
theorem WK {p : Aa} {m x : Ab} (hp : Bg p) (hm : BV p m) {s : Ae} (hv : Hc s = true) (hx : Gu p s = true) (h : Gt p m s = some x) : BV p x := by
 obtain ⟨k1, k4, i0, v0, vk⟩ := IS hv
 obtain ⟨x3, xn, x1⟩ := JW hx
 obtain ⟨i, hi⟩ := zJ i0
 have hb := hm.base
 have hn := hm.next
 have hh := hm.held
 unfold Gt at h
 simp only [hi, zT] at h
 rw [hi, zT] at x1
 split at h
 ·rename_i hk1
  have hi1 : i < p.fJ.length := by have := xn (by omega); omega
  have hx1 := x1 hk1
  have hvi := Jk hp hi1
  split at h
  ·cases h
  rename_i hc
  cases h
  obtain ⟨u1, u2⟩ := V9 (s := s) hh
  obtain ⟨b, hbv⟩ := zJ v0
  have hob := Zr (b := b) (by omega)
  have hN : ∀ q, (m.fI.set i s.fW).getD q 0 = if q = i then s.fW else m.fI.getD q 0 := fun q => Ke (by omega)
  refine { base := hb, next := by simpa using hn, held := u1, b0 := hm.b0, n0 := fun q hq => ?_, ne := fun q hq => ?_, range := fun q hq => ?_, low := fun q t ht hs v hr => ?_, high := fun q t ht hs v hbit => ?_, none := fun q t ht hs => ?_ }
  ·show -1 ≤ (m.fI.set i s.fW).getD q 0 ∧ (m.fI.set i s.fW).getD q 0 < _
   rw [hN q]
   split
   ·rename_i e; subst e; omega
   ·exact hm.n0 q hq
  ·show m.fL.getD q 0 ≠ (m.fI.set i s.fW).getD q 0
   rw [hN q]
   split
   ·rename_i e; subst e; exact fun h => hc (.inr h)
   ·exact hm.ne q hq
  ·have ht : p.fK[q]? = some p.fK[q] := by simp [hq]
   show 0 ≤ (JY p s m.fN).getD q 0 ∧ (JY p s m.fN).getD q 0 ≤ 255
   rw [u2 q _ ht, hbv]
   split
   ·exact (UD (hm.range q hq) hob.2).2
   ·exact hm.range q hq
  ·have hq := (lI.1 ht).1
   show Ee ((JY p s m.fN).getD q 0) v = true
   have hin := J0 (hp.tab t (lM ht))
   rw [PX] at hr
   have hr : m.fL.getD t.fO.toNat 0 = (v : Int) ∨ (m.fI.set i s.fW).getD t.fO.toNat 0 = (v : Int) := hr
   rw [hN] at hr
   rw [u2 q t ht, hbv]
   have hlow := hm.low q t ht hs v
   rw [PX] at hlow
   by_cases hf : t.fO.toNat = i
   ·have hup : VY s t = true := by unfold VY; rw [hs, vV, beq_iff_eq, hi]; omega
    rw [if_pos hup, (UD (hm.range q hq) hob.2).1, hob.1 v, xO, decide_eq_true_iff]
    rw [if_pos hf] at hr
    rcases hr with h | h
    ·exact .inl (hlow (.inl h))
    ·right; omega
   ·rw [if_neg hf] at hr
    have hup : VY s t = false := by unfold VY; rw [hs, vV, beq_eq_false_iff_ne, hi]; omega
    rw [hup, if_neg (by simp)]
    exact hlow hr
  ·have hq := (lI.1 ht).1
   have hbit : Ee ((JY p s m.fN).getD q 0) v = true := hbit
   have hin := J0 (hp.tab t (lM ht))
   rw [u2 q t ht, hbv] at hbit
   split at hbit
   ·rename_i hup
    rw [(UD (hm.range q hq) hob.2).1, hob.1 v, xO, decide_eq_true_iff] at hbit
    rcases hbit with h | h
    ·exact hm.high q t ht hs v h
    ·unfold VY at hup
     rw [hs, vV, beq_iff_eq, hi] at hup
     rw [hup, zT]; omega
   ·exact hm.high q t ht hs v hbit
  ·show (JY p s m.fN).getD q 0 = 0
   have hup : VY s t = false := by unfold VY; rw [hs, Bool.and_false]
   rw [u2 q t ht, hup, if_neg (by simp)]
   exact hm.none q t ht hs
 ·rename_i hk1
  split at h
  ·rename_i hk3
   have hi3 : i < p.fK.length := by have := x3 hk3; omega
   have ht0 : p.fK[i]? = some p.fK[i] := by simp [hi3]
   rw [ht0] at h
   simp only at h
   split at h
   ·cases h
   rename_i hc
   cases h
   have hin0 := J0 (hp.tab _ (lM ht0))
   have hr0 := I8 hp hm.toMixServ (s := (p.fK[i]).fO.toNat) (by omega)
   have hs0 : B8 p.fK[i] = true := by
    cases hs : B8 p.fK[i]
    ·exact (hc (.inl hs)).elim
    ·rfl
   have hH : ∀ q, (m.fN.set i (HQ m (p.fK[i]).fO.toNat)).getD q 0 = if q = i then HQ m (p.fK[i]).fO.toNat else m.fN.getD q 0 := fun q => Ke (by omega)
   refine { base := hb, next := hn, held := by simpa using hh, b0 := hm.b0, n0 := hm.n0, ne := hm.ne, range := fun q hq => ?_, low := fun q t ht hs v hr => ?_, high := fun q t ht hs v hbit => ?_, none := fun q t ht hs => ?_ }
   ·show 0 ≤ (m.fN.set i (HQ m (p.fK[i]).fO.toNat)).getD q 0 ∧ (m.fN.set i (HQ m (p.fK[i]).fO.toNat)).getD q 0 ≤ 255
    rw [hH q]
    split
    ·exact hr0.2
    ·exact hm.range q hq
   ·show Ee ((m.fN.set i (HQ m (p.fK[i]).fO.toNat)).getD q 0) v = true
    have hr : JP m t.fO.toNat v = true := hr
    rw [hH q]
    split
    ·rename_i e; subst e
     rw [ht0] at ht; cases ht
     rw [hr0.1]; exact hr
    ·exact hm.low q t ht hs v hr
   ·have hbit : Ee ((m.fN.set i (HQ m (p.fK[i]).fO.toNat)).getD q 0) v = true := hbit
    rw [hH q] at hbit
    split at hbit
    ·rename_i e; subst e
     rw [ht0] at ht; cases ht
     rw [hr0.1] at hbit
     exact hm.high q _ ht0 hs0 v (hm.low q _ ht0 hs0 v hbit)
    ·exact hm.high q t ht hs v hbit
   ·show (m.fN.set i (HQ m (p.fK[i]).fO.toNat)).getD q 0 = 0
    rw [hH q, if_neg (fun e => by subst e; rw [ht0] at ht; cases ht; rw [hs0] at hs; cases hs)]
    exact hm.none q t ht hs
  ·rename_i hk3
   have hi1 : i < p.fJ.length := by have := xn hk3; omega
   have hvi := Jk hp hi1
   split at h
   ·cases h
   rename_i hc
   cases h
   have hN : ∀ q, (m.fI.set i (-1)).getD q 0 = if q = i then -1 else m.fI.getD q 0 := fun q => Ke (by omega)
   have hB : ∀ q, (if s.fP = 2 then m.fL.set i (m.fI.getD i 0) else m.fL).getD q 0 = if s.fP = 2 ∧ q = i then m.fI.getD i 0 else m.fL.getD q 0 := fun q => by
    by_cases hk2 : s.fP = 2
    ·rw [if_pos hk2, Ke (by omega)]
     by_cases e : q = i
     ·rw [if_pos e, if_pos ⟨hk2, e⟩]
     ·rw [if_neg e, if_neg (fun h => e h.2)]
    ·rw [if_neg hk2, if_neg (fun h => hk2 h.1)]
   have hrun : ∀ q v, JP ⟨if s.fP = 2 then m.fL.set i (m.fI.getD i 0) else m.fL, m.fI.set i (-1), m.fN⟩ q v = true → JP m q v = true := fun q v hr => by
    rw [PX] at hr ⊢
    simp only [hN q, hB q] at hr
    by_cases e : q = i
    ·subst e
     rw [if_pos rfl] at hr
     by_cases hk2 : s.fP = 2
     ·rw [if_pos ⟨hk2, rfl⟩] at hr; omega
     ·rw [if_neg (fun h => hk2 h.1)] at hr; omega
    ·rw [if_neg e, if_neg (fun h => e h.2)] at hr; exact hr
   refine { base := by simp only; split <;> simp [hb], next := by simpa using hn, held := hh, b0 := fun q hq => ?_, n0 := fun q hq => ?_, ne := fun q hq => ?_, range := hm.range, low := fun q t ht hs v hr => hm.low q t ht hs v (hrun _ _ hr), high := hm.high, none := hm.none }
   ·simp only [hB q]
    split
    ·rename_i e; obtain ⟨_, e⟩ := e; subst e
     have := hm.n0 q hq
     omega
    ·exact hm.b0 q hq
   ·simp only [hN q]
    split
    ·rename_i e; subst e; omega
    ·exact hm.n0 q hq
   ·simp only [hB q, hN q]
    have h1 := hm.b0 q hq
    by_cases e : q = i
    ·rw [if_pos e]
     split
     ·rename_i e2; obtain ⟨_, e2⟩ := e2; subst e2; omega
     ·omega
    ·rw [if_neg e, if_neg (fun h => e h.2)]; exact hm.ne q hq
theorem Sk (N : Nat) (hN : N ≤ 1000000) (h20 : 100 ≤ N) {p : Aa} {m : Ab} (hw : LH Ly m.fN) (s : Ae) : EZ N p m s = some (if BX p m = 0 then A2 p m s else (HR, BX p m)) := by
 unfold EZ A2
 rw [Ld N p m hN (by omega)]
 simp only [oS, A8]
 by_cases hval : BX p m = 0
 ·obtain ⟨hp, hm⟩ := I7 hw hval
  rw [if_pos hval, hval, bne_self_eq_false, Ao, Sj]
  simp only [oS]
  cases hv : Hc s
  ·rw [yT, AO, if_pos rfl]; rfl
  ·rw [yA, Ao, if_neg (by simp)]
   obtain ⟨k1, k4, i0, v0, vk⟩ := IS hv
   have key : ∀ b : Bool, Gu p s = b → (if b = false then (HR, (4 : Int)) else match Gt p m s with | none => (HR, 11) | some x => (x, 0)) = (if b = false then (HR, (4 : Int)) else match Gt p m s with | none => (HR, 11) | some x => (x, 0)) := fun _ _ => rfl
   have tail : Gu p s = true → ((CB N p m s).bind fun v15 => AN (!v15.2) (some (Ab.mk [] [] [], (11 : Int))) (some (v15.1, 0))) = some (match Gt p m s with | none => (HR, 11) | some x => (x, 0)) := fun hx => by
    rw [NS N hN h20 hp hm hv hx]
    cases Gt p m s <;> rfl
   have zz : (Ab.mk [] [] [], (4 : Int)) = (HR, 4) := rfl
   by_cases hk3 : s.fP = 3
   ·rw [beq_iff_eq.2 hk3, AO, show (s.fP != 3) = false from by rw [hk3]; rfl]
    have hX : Gu p s = decide (s.fR < (p.fK.length : Int)) := by unfold Gu; rw [if_pos hk3]
    by_cases c : (p.fK.length : Int) ≤ s.fR
    ·rw [Az c, AO, hX, decide_eq_false (by omega), if_pos rfl]; rfl
    ·have hx : Gu p s = true := by rw [hX, decide_eq_true (by omega)]
     rw [Av c, Ao, Ao, beq_eq_false_iff_ne.2 (show s.fP ≠ 1 by omega), Ao, Ao, hx, if_neg (by simp)]
     exact tail hx
   ·rw [beq_eq_false_iff_ne.2 hk3, Ao, bne_iff_ne.2 hk3, AO]
    have hX : Gu p s = (decide (s.fR < (p.fJ.length : Int)) && (s.fP != 1 || decide (s.fW < p.fJ.getD s.fR.toNat 0))) := by unfold Gu; rw [if_neg hk3]
    by_cases c : (p.fJ.length : Int) ≤ s.fR
    ·rw [decide_eq_true c, AO, hX, decide_eq_false (show ¬ s.fR < (p.fJ.length : Int) by omega), vM, if_pos rfl]; rfl
    ·rw [decide_eq_false c, Ao]
     by_cases hk1 : s.fP = 1
     ·rw [beq_iff_eq.2 hk1, AO, Eo (d := 0) i0 (by omega)]
      simp only [oS]
      by_cases c2 : p.fJ.getD s.fR.toNat 0 ≤ s.fW
      ·rw [decide_eq_true c2, AO, hX, decide_eq_false (show ¬ s.fW < p.fJ.getD s.fR.toNat 0 by omega), show (s.fP != 1) = false from by rw [hk1]; rfl, vO, Bool.and_false, if_pos rfl]; rfl
      ·have hx : Gu p s = true := by rw [hX, decide_eq_true (by omega), decide_eq_true (by omega), zA2]; rfl
       rw [decide_eq_false c2, Ao, hx, if_neg (by simp)]
       exact tail hx
     ·have hx : Gu p s = true := by rw [hX, decide_eq_true (by omega), bne_iff_ne.2 hk1]; rfl
      rw [beq_eq_false_iff_ne.2 hk1, Ao, Ao, hx, if_neg (by simp)]
      exact tail hx
 ·rw [if_neg hval, bne_iff_ne.2 hval, AO]; rfl
theorem MP (N : Nat) (hN : N ≤ 1000000) (h20 : 100 ≤ N) {p : Aa} {m : Ab} (hw : LH Ly m.fN) (s : Ae) : GX N p m s = some (if BX p m = 0 then A2 p m s else (HR, BX p m)) := by
 unfold GX
 rw [IC N p m hN (by omega) hw]
 simp only [oS]
 by_cases hval : BX p m = 0
 ·obtain ⟨hp, hm⟩ := I7 hw hval
  rw [if_pos hval, hval, bne_self_eq_false, Ao, QQ N hN h20 hp hm s]; rfl
 ·rw [if_neg hval, bne_iff_ne.2 hval, AO]; rfl
theorem JV {p : Aa} {m : Ab} (hp : Bg p) (hm : BV p m) {s : Ae} (h : (A2 p m s).2 = 0) : BV p (A2 p m s).1 := by
 unfold A2 at h ⊢
 split at h
 ·cases h
 rename_i h1
 rw [if_neg h1]
 split at h
 ·cases h
 rename_i h2
 rw [if_neg h2]
 cases ha : Gt p m s with
 | none => rw [ha] at h; cases h
 | some x => exact WK hp hm (by simpa using h1) (by simpa using h2) ha
end Go.Lift
namespace Go.Lift
open Go
section
variable {N : Nat} {p : Aa} {l : List Ae}
end
end Go.Lift
namespace Go.Lift
open Go
end Go.Lift
namespace Go.Lift
open IntKind renaming wrap → wI
open Go
theorem Rd {i : Nat} (h : i < 1000000) : wI .i64 (((i + 1 : Nat) : Int) - 1) = (i : Int) := by
 rw [Ch (by omega) (by omega)]; omega
def MR (p : Aa) (m : Ab) (s : Ae) : Option Ab := if (A2 p m s).2 = 0 ∧ s.fP ≠ 4 ∧ A6 p (A2 p m s).1 = true then some (A2 p m s).1 else none
def NM (p : Aa) : Ab → List Ae → Option Ab
 | m, [] => some m
 | m, s :: l => (MR p m s).bind fun x => NM p x l
def MY (p : Aa) (m : Ab) (l : List Ae) : Bool := match NM p m l with
 | some x => GQ p x
 | none => false
theorem V8 {p : Aa} {m x : Ab} {s : Ae} : MR p m s = some x ↔ Hc s = true ∧ Gu p s = true ∧ Gt p m s = some x ∧ s.fP ≠ 4 ∧ A6 p x = true := by
 unfold MR A2
 cases h1 : Hc s
 ·simp
 cases h2 : Gu p s
 ·simp
 cases h3 : Gt p m s with
 | none => simp
 | some y =>
  simp only [Bool.true_eq_false, if_false, true_and, Option.some.injEq]
  constructor
  ·intro h
   split at h
   ·rename_i hc; cases h; exact ⟨rfl, hc.1, hc.2⟩
   ·cases h
  ·rintro ⟨rfl, h4, h5⟩
   rw [if_pos ⟨h4, h5⟩]
theorem RN {p : Aa} {m : Ab} {l : List Ae} (h : MY p m l = true) : ∃ x, NM p m l = some x ∧ GQ p x = true := by
 unfold MY at h
 cases hr : NM p m l with
 | none => rw [hr] at h; cases h
 | some x => rw [hr] at h; exact ⟨x, rfl, h⟩
end Go.Lift
namespace Go.Lift
open IntKind renaming wrap → wI
open Option renaming bind_some → oS
open List renaming getElem?_eq_some_iff → lI
open List renaming getD_eq_getElem?_getD → lD
open Go
def G6 (m : Ab) (i : Nat) (b : Int) : List Int := [wI .u8 b, wI .u8 (wI .i64 (m.fI.getD i 0 + 1))]
def LS (m : Ab) : List Int := CY (G6 m) 0 m.fL ++ m.fN
theorem XK (N : Nat) (hN : N ≤ 1000000) (h20 : 100 ≤ N) {p : Aa} {m : Ab} (hp : Bg p) (hm : BV p m) : Ig N m = some (CZ (LS m)) := by
 have hnv := hp.nv
 have hnt := hp.nt
 have hb := hm.base
 have hn := hm.next
 have hh := hm.held
 unfold Ig
 have e1 : wI .i64 (2 * (m.fL.length : Int)) = 2 * (m.fL.length : Int) := Ch (by omega) (by omega)
 rw [e1, Ch (n := 2 * (m.fL.length : Int) + (m.fN.length : Int)) (by omega) (by omega), Au ⟨Int.le_refl 0, by omega, by simp only [Dh]; omega⟩]
 have l1 := FQ (EY N m fun v3 => DY N m (fun v9 => some (CZ v9)) N (v3, 0)) (fun a i => (a, i)) m.fL (fun v3 => DY N m (fun v9 => some (CZ v9)) N (v3, 0)) (G6 m) 2 100
  (fun i x hx => by simp [G6])
  (fun n i x a hx hl => by
   have hi := (lI.1 hx).1
   rw [EY, Az (by simp only; omega)]
   simp only [AT, hx, oS, AB (show i < 1000000 by omega)]
   have e2 : m.fI[i]? = some (m.fI.getD i 0) := by rw [lD]; simp [show i < m.fI.length by omega]
   rw [e2]
   simp only [oS]
   rw [Au (by simp [Dh]; simp [G6] at hl; omega)]
   rfl)
  (fun n a => by rw [EY, Av (by simp)]) N [] (by omega) (by simp; omega)
 have l1' : EY N m (fun v3 => DY N m (fun v9 => some (CZ v9)) N (v3, 0)) N (zH (0 : Int).toNat (0 : Int), 0) = _ := l1
 rw [l1', uF]
 have hfl : (CY (G6 m) 0 m.fL).length ≤ 2 * m.fL.length := Gr fun j x hx => by simp [G6]
 have l2 := FQ (DY N m fun v9 => some (CZ v9)) (fun a i => (a, i)) m.fN (fun v9 => some (CZ v9)) (fun _ x => [x]) 1 100
  (fun i x hx => by simp)
  (fun n i x a hx hl => by
   have hi := (lI.1 hx).1
   rw [DY, Az (by simp only; omega)]
   simp only [AT, hx, oS, AB (show i < 1000000 by omega)]
   rw [Au (by simp [Dh]; simp at hl; omega)])
  (fun n a => by rw [DY, Av (by simp)]) N (CY (G6 m) 0 m.fL) (by omega) (by omega)
 have e3 : ∀ (i : Nat) (l : List Int), CY (fun _ (x : Int) => [x]) i l = l := by
  intro i l
  induction l generalizing i with
  | nil => rfl
  | cons x l ih => rw [CY, ih]; rfl
 refine l2.trans ?_
 rw [e3]; rfl
theorem U9 (xs : List Int) : ∀ b : ByteArray, (xs.foldl (fun s n => s.push (UInt8.ofNat n.toNat)) b).data.toList = b.data.toList ++ xs.map fun n => UInt8.ofNat n.toNat := by
 induction xs with
 | nil => intro b; simp
 | cons x xs ih => intro b; rw [List.foldl_cons, ih]; simp [ByteArray.push]
theorem NF (xs : List Int) : (CZ xs).data.toList = xs.map fun n => UInt8.ofNat n.toNat := by
 unfold CZ
 rw [U9]; rfl
theorem aD {a b : Int} (ha : 0 ≤ a ∧ a ≤ 255) (hb : 0 ≤ b ∧ b ≤ 255) (h : UInt8.ofNat a.toNat = UInt8.ofNat b.toNat) : a = b := by
 have := congrArg UInt8.toNat h
 simp at this
 omega
theorem Ph : ∀ {xs ys : List Int}, (∀ x, x ∈ xs → 0 ≤ x ∧ x ≤ 255) → (∀ x, x ∈ ys → 0 ≤ x ∧ x ≤ 255) → (xs.map fun n => UInt8.ofNat n.toNat) = (ys.map fun n => UInt8.ofNat n.toNat) → xs = ys
 | [], [], _, _, _ => rfl
 | [], _ :: _, _, _, h => by cases h
 | _ :: _, [], _, _, h => by cases h
 | x :: xs, y :: ys, hx, hy, h => by
  rw [yI, yI, List.cons.injEq] at h
  rw [aD (hx x (by simp)) (hy y (by simp)) h.1, Ph (fun z hz => hx z (xZ _ hz)) (fun z hz => hy z (xZ _ hz)) h.2]
theorem TX {xs ys : List Int} (hx : ∀ x, x ∈ xs → 0 ≤ x ∧ x ≤ 255) (hy : ∀ x, x ∈ ys → 0 ≤ x ∧ x ≤ 255) (h : (CZ xs == CZ ys) = true) : xs = ys := by
 rw [KI, beq_iff_eq] at h
 have h := congrArg Array.toList h
 rw [NF, NF] at h
 exact Ph hx hy h
theorem SQ (xs : List Int) : (CZ xs == CZ xs) = true := by rw [KI]; simp
theorem Rk {α β : Type} {g h : Nat → α → List β} {c : Nat} : ∀ {i : Nat} {xs ys : List α}, xs.length = ys.length → (∀ i x, (g i x).length = c) → (∀ i x, (h i x).length = c) → CY g i xs = CY h i ys → ∀ j x y, xs[j]? = some x → ys[j]? = some y → g (i + j) x = h (i + j) y
 | i, [], ys, _, _, _, _, j, x, y, hx, _ => by simp at hx
 | i, x :: xs, [], hl, _, _, _, _, _, _, _, _ => by simp at hl
 | i, x :: xs, y :: ys, hl, hg, hh, e, j, x', y', hx, hy => by
  rw [CY, CY] at e
  have e1 := List.append_inj e ((hg i x).trans (hh i y).symm)
  cases j with
  | zero => simp at hx hy; subst hx; subst hy; exact e1.1
  | succ j =>
   have := Rk (i := i + 1) (by simpa using hl) hg hh e1.2 j x' y' (by simpa using hx) (by simpa using hy)
   rwa [show i + 1 + j = i + (j + 1) from by omega] at this
theorem Rv {p : Aa} {m : Ab} (_hp : Bg p) (hm : BV p m) : ∀ x, x ∈ LS m → 0 ≤ x ∧ x ≤ 255 := by
 intro x hx
 unfold LS at hx
 rcases yE.1 hx with h | h
 ·obtain ⟨j, b, hb, hk⟩ := Hq.1 h
  have hw : ∀ n : Int, 0 ≤ wI .u8 n ∧ wI .u8 n ≤ 255 := fun n => by
   simp [wI, IntKind.signed, IntKind.bits]; omega
  unfold G6 at hk
  rcases zQ.1 hk with e | e
  ·subst e; exact hw _
  ·rcases zQ.1 e with e | e
   ·subst e; exact hw _
   ·cases e
 ·obtain ⟨j, hj⟩ := zU.1 h
  have hl := (lI.1 hj).1
  have := hm.range j (by rw [← hm.held]; exact hl)
  rw [lD, hj] at this
  exact this
theorem I1 {n : Int} (h : 0 ≤ n ∧ n ≤ 255) : wI .u8 n = n := by
 simp [wI, IntKind.signed, IntKind.bits]; omega
theorem YH {p : Aa} {m x : Ab} (hp : Bg p) (hm : BV p m) (hx : BV p x) (h : (CZ (LS m) == CZ (LS x)) = true) : m = x := by
 have e := TX (Rv hp hm) (Rv hp hx) h
 unfold LS at e
 have hbl : m.fL.length = x.fL.length := hm.base.trans hx.base.symm
 have hfl : ∀ y : Ab, (CY (G6 y) 0 y.fL).length = 2 * y.fL.length := fun y => by
  have : ∀ (i : Nat) (l : List Int), (CY (G6 y) i l).length = 2 * l.length := by
   intro i l
   induction l generalizing i with
   | nil => rfl
   | cons b l ih => rw [CY, zY, ih, yC]; simp [G6]; omega
  exact this 0 _
 obtain ⟨e1, e2⟩ := List.append_inj e (by rw [hfl, hfl, hbl])
 have key : ∀ j, j < p.fJ.length → m.fL.getD j 0 = x.fL.getD j 0 ∧ m.fI.getD j 0 = x.fI.getD j 0 := fun j hj => by
  have h1 : m.fL[j]? = some (m.fL.getD j 0) := by rw [lD]; simp [hm.base, hj]
  have h2 : x.fL[j]? = some (x.fL.getD j 0) := by rw [lD]; simp [hx.base, hj]
  have h3 := Rk (c := 2) hbl (fun _ _ => by simp [G6]) (fun _ _ => by simp [G6]) e1 j _ _ h1 h2
  rw [zC] at h3
  have v := Jk hp hj
  have b1 := hm.b0 j hj
  have b2 := hx.b0 j hj
  have n1 := hm.n0 j hj
  have n2 := hx.n0 j hj
  unfold G6 at h3
  rw [Ch (n := m.fI.getD j 0 + 1) (by omega) (by omega), Ch (n := x.fI.getD j 0 + 1) (by omega) (by omega), I1 (n := m.fL.getD j 0) (by omega), I1 (n := x.fL.getD j 0) (by omega), I1 (n := m.fI.getD j 0 + 1) (by omega), I1 (n := x.fI.getD j 0 + 1) (by omega), List.cons.injEq, List.cons.injEq] at h3
  exact ⟨h3.1, by omega⟩
 have hB : m.fL = x.fL := Ge hbl fun q hq => (key q (by rw [← hm.base]; exact hq)).1
 have hN : m.fI = x.fI := Ge (hm.next.trans hx.next.symm) fun q hq => (key q (by rw [← hm.next]; exact hq)).2
 cases m; cases x
 simp only at hB hN e2
 rw [hB, hN, e2]
end Go.Lift
namespace Go.Lift
open Option renaming bind_some → oS
open List renaming mem_of_getElem? → lM
open List renaming getElem?_eq_some_iff → lI
open Go
def Kp (i : Nat) (n : Int) : List Ae := (zS n.toNat).map fun v => ⟨1, (i : Int), ((v : Nat) : Int), ⟩
def Fe (p : Aa) : List Ae := CY Kp 0 p.fJ ++ ((zS p.fJ.length).map fun i => (⟨2, ((i : Nat) : Int), 0⟩ : Ae)) ++ ((zS p.fK.length).map fun i => (⟨3, ((i : Nat) : Int), 0⟩ : Ae))
def Fk (p : Aa) (m : Ab) : List Ae := (Fe p).filter fun s => (A2 p m s).2 == 0
theorem VR {p : Aa} (hp : Bg p) : (Fe p).length ≤ 54 := by
 have h1 : (CY Kp 0 p.fJ).length ≤ 6 * p.fJ.length := Gr fun j x hx => by
  have := hp.ver x (lM hx)
  simp [Kp]; omega
 have := hp.nv
 have := hp.nt
 unfold Fe
 simp only [zY, zO, uB]
 omega
theorem S9 (N : Nat) (hN : N ≤ 1000000) (h20 : 100 ≤ N) {p : Aa} (hp : Bg p) : I6 N p = some (Fe p) := by
 have hnv := hp.nv
 have hnt := hp.nt
 unfold I6
 have l1 := FQ (DB N p fun v2 => CH N p (fun v10 => BD N p (fun v14 => some v14) N (v10, 0)) N (v2, 0)) (fun a i => (a, i)) p.fJ (fun v2 => CH N p (fun v10 => BD N p (fun v14 => some v14) N (v10, 0)) N (v2, 0)) Kp 6 100
  (fun i x hx => by have := hp.ver x (lM hx); simp [Kp]; omega)
  (fun n i x a hx hl => by
   have hi := (lI.1 hx).1
   have hx6 := hp.ver x (lM hx)
   obtain ⟨k, hk⟩ := zJ (show 0 ≤ x by omega)
   rw [DB, Az (by simp only; omega)]
   simp only [AT, hx, oS, AB (show i < 1000000 by omega)]
   subst hk
   obtain ⟨a', e, ha⟩ := FI (E4 N (a, (i : Int)) (k : Int) fun v6 => DB N p (fun v2 => CH N p (fun v10 => BD N p (fun v14 => some v14) N (v10, 0)) N (v2, 0)) n (v6, ((i + 1 : Nat) : Int))) (fun b v => (b, v)) k (fun v6 => DB N p (fun v2 => CH N p (fun v10 => BD N p (fun v14 => some v14) N (v10, 0)) N (v2, 0)) n (v6, ((i + 1 : Nat) : Int)))
    (fun v b => b = a ++ (zS v).map fun v => (⟨1, (i : Int), ((v : Nat) : Int)⟩ : Ae))
    (fun n v b hv hb => by
     subst hb
     rw [E4, Az (by simp only; omega), Au (by simp [Dh]; simp [Kp] at hl; omega), AB (by omega)]
     exact ⟨_, rfl, by rw [xX, xE, yS]; rfl⟩)
    (fun n b hb => by rw [E4, Av (by simp)]) N 0 a (zK _) (by omega) (by simp)
   have e' : E4 N (a, (i : Int)) (k : Int) (fun v6 => DB N p (fun v2 => CH N p (fun v10 => BD N p (fun v14 => some v14) N (v10, 0)) N (v2, 0)) n (v6, ((i + 1 : Nat) : Int))) N (a, 0) = _ := e
   rw [e', ha]; rfl)
  (fun n a => by rw [DB, Av (by simp)]) N [] (by omega) (by simp; omega)
 have l1' : DB N p (fun v2 => CH N p (fun v10 => BD N p (fun v14 => some v14) N (v10, 0)) N (v2, 0)) N (([] : List Ae), 0) = _ := l1
 rw [l1', uF]
 have hA : (CY Kp 0 p.fJ).length ≤ 6 * p.fJ.length := Gr fun j x hx => by
  have := hp.ver x (lM hx)
  simp [Kp]; omega
 generalize hAe : CY Kp 0 p.fJ = A at hA
 obtain ⟨b', e2, hb⟩ := FI (CH N p fun v10 => BD N p (fun v14 => some v14) N (v10, 0)) (fun b v => (b, v)) p.fJ.length (fun v10 => BD N p (fun v14 => some v14) N (v10, 0))
  (fun v b => b = A ++ (zS v).map fun i => (⟨2, ((i : Nat) : Int), 0⟩ : Ae))
  (fun n v b hv hb => by
   subst hb
   rw [CH, Az (by simp only; omega), Au (by simp [Dh]; omega), AB (by omega)]
   exact ⟨_, rfl, by rw [xX, xE, yS]; rfl⟩)
  (fun n b hb => by rw [CH, Av (by simp)]) N 0 A (zK _) (by omega) (by simp)
 have e2' : CH N p (fun v10 => BD N p (fun v14 => some v14) N (v10, 0)) N (A, 0) = _ := e2
 rw [e2', hb]
 generalize hBe : A ++ (zS p.fJ.length).map (fun i => (⟨2, ((i : Nat) : Int), 0⟩ : Ae)) = B
 have hB : B.length ≤ 50 := by rw [← hBe]; simp; omega
 obtain ⟨c', e3, hc⟩ := FI (BD N p fun v14 => some v14) (fun b v => (b, v)) p.fK.length (fun v14 => some v14)
  (fun v b => b = B ++ (zS v).map fun i => (⟨3, ((i : Nat) : Int), 0⟩ : Ae))
  (fun n v b hv hb => by
   subst hb
   rw [BD, Az (by simp only; omega), Au (by simp [Dh]; omega), AB (by omega)]
   exact ⟨_, rfl, by rw [xX, xE, yS]; rfl⟩)
  (fun n b hb => by rw [BD, Av (by simp)]) N 0 B (zK _) (by omega) (by simp)
 have e3' : BD N p (fun v14 => some v14) N (B, 0) = _ := e3
 rw [e3', hc, ← hBe, ← hAe]; rfl
end Go.Lift
namespace Go.Lift
open Option renaming bind_some → oS
open List renaming mem_of_getElem? → lM
open List renaming getElem?_eq_some_iff → lI
open List renaming getD_eq_getElem?_getD → lD
open Go
theorem Of {p : Aa} (hp : Bg p) {s : Ae} (h : s ∈ Fe p) : Hc s = true ∧ Gu p s = true := by
 have hnv := hp.nv
 unfold Fe at h
 rcases yE.1 h with h | h
 ·rcases yE.1 h with h | h
  ·obtain ⟨j, x, hx, hk⟩ := Hq.1 h
   rw [zC] at hk
   unfold Kp at hk
   obtain ⟨v, hv, rfl⟩ := zW.1 hk
   have hx6 := hp.ver x (lM hx)
   have hv := yX.1 hv
   have hj := (lI.1 hx).1
   refine ⟨by unfold Hc; simp, ?_⟩
   unfold Gu
   have e : p.fJ.getD j 0 = x := by rw [lD, hx]; rfl
   simp only
   rw [if_neg (by omega), decide_eq_true (by omega), zT, e, decide_eq_true (by omega), zA2]; rfl
  ·obtain ⟨v, hv, rfl⟩ := zW.1 h
   have hv := yX.1 hv
   refine ⟨by unfold Hc; simp, ?_⟩
   unfold Gu
   simp only
   rw [if_neg (by omega), decide_eq_true (by omega)]; rfl
 ·obtain ⟨v, hv, rfl⟩ := zW.1 h
  have hv := yX.1 hv
  refine ⟨by unfold Hc; simp, ?_⟩
  unfold Gu
  simp only
  rw [if_pos trivial, decide_eq_true (by omega)]
theorem XL {p : Aa} {m : Ab} {s : Ae} (hv : Hc s = true) (hx : Gu p s = true) : ((A2 p m s).2 == 0) = (Gt p m s).isSome := by
 unfold A2
 rw [hv, hx, if_neg (by simp), if_neg (by simp)]
 cases Gt p m s <;> rfl
theorem T0 (N : Nat) (hN : N ≤ 1000000) (h20 : 100 ≤ N) {p : Aa} {m : Ab} (hp : Bg p) (hm : BV p m) {s : Ae} (h : s ∈ Fe p) :
  DR N s p.fJ p.fQ p.fU p.fK m.fL m.fI m.fN = some (!((A2 p m s).2 == 0)) := by
 obtain ⟨hv, hx⟩ := Of hp h
 unfold DR
 obtain ⟨o, e, _⟩ := MT N hN h20 hp hm hv hx
 have e' : F6 N ⟨p.fJ, p.fQ, p.fU, p.fK⟩ ⟨m.fL, m.fI, m.fN⟩ s = some (o, (Gt p m s).isSome) := e
 rw [e', XL hv hx]; rfl
theorem UN (N : Nat) (hN : N ≤ 1000000) (a : List Ae) (f : Ae → Option Bool) (g : Ae → Bool) (h : a.length < N) (hf : ∀ x, x ∈ a → f x = some (g x)) :
  B0 N a f = some ((CU (fun i x => if g x = true then some (i : Int) else none) 0 a).getD (-1)) := by
 unfold B0
 have := Cm (A7 N a f fun _ => some (-1)) a (some (-1)) (fun i x => if g x = true then some (i : Int) else none)
  (fun n i x hx => by
   have hi := (lI.1 hx).1
   rw [A7, Az (by omega), AT, hx]
   simp only [oS]
   rw [hf x (lM hx), AB (by omega)]
   simp only [oS]
   cases g x <;> rfl)
  (fun n => by rw [A7, Av (by simp)]) N 0 (zK _) (by omega)
 refine this.trans ?_
 rw [zX]
 cases CU (fun i x => if g x = true then some (i : Int) else none) 0 a <;> rfl
theorem QR {α : Type} {l : List α} {i : Nat} {v : α} (h : i < l.length) : (l.set i v).take (i + 1) = l.take i ++ [v] := by
 rw [yU, List.take_set_of_le (zN i)]
 congr 1
 simp [h]
theorem SZ (N : Nat) (hN : N ≤ 1000000) (a : List Ae) (f : Ae → Option Bool) (g : Ae → Bool) (h : a.length < N) (h9 : a.length ≤ 1000) (hf : ∀ x, x ∈ a → f x = some (g x)) :
  ∃ X n, BZ N a f = some (n, X) ∧ n ≤ X.length ∧ X.take n = a.filter fun x => !g x := by
 unfold BZ
 rw [UN N hN a f g h hf]
 simp only [oS]
 cases hs : CU (fun i x => if g x = true then some (i : Int) else none) 0 a with
 | none =>
  refine ⟨a, a.length, rfl, zN _, ?_⟩
  rw [uG]
  symm
  rw [List.filter_eq_self]
  intro x hx
  obtain ⟨j, hj⟩ := zU.1 hx
  have := Fg hs j x hj
  cases hg : g x
  ·rfl
  ·rw [hg] at this; cases this
 | some r =>
  obtain ⟨j, x, hx, hr⟩ := Dw hs
  rw [zC] at hr
  split at hr
  ·rename_i hg
   cases hr
   have hj := (lI.1 hx).1
   have e0 : ((some (j : Int)).getD (-1) == (-1 : Int)) = false := beq_eq_false_iff_ne.2 (by simp only [yF]; omega)
   rw [e0, Ao]
   simp only [yF]
   rw [AB (by omega)]
   -- what lies before the first that goes is kept
   have hpre : (a.take (j + 1)).filter (fun x => !g x) = a.take j := by
    rw [yU, hx, xH]
    have h1 : (a.take j).filter (fun x => !g x) = a.take j := by
     rw [List.filter_eq_self]
     intro y hy
     obtain ⟨q, hq⟩ := zU.1 hy
     have hql := (lI.1 hq).1
     simp at hql
     rw [yJ (by omega)] at hq
     cases hgy : g y
     ·rfl
     ·exfalso
      have : ∀ (xs : List Ae) (i j q : Nat) (y : Ae), CU (fun i x => if g x = true then some (i : Int) else none) i xs = some ((i + j : Nat) : Int) → q < j → xs[q]? = some y → g y = true → False := by
       intro xs
       induction xs with
       | nil => intro i j q y _ _ hq; simp at hq
       | cons z zs ih =>
        intro i j q y hs hqj hq hgy
        rw [FR] at hs
        cases hz : g z
        ·rw [hz] at hs
         cases q with
         | zero => simp at hq; subst hq; rw [hz] at hgy; cases hgy
         | succ q =>
          cases j with
          | zero => omega
          | succ j => exact ih (i + 1) j q y (by rw [show i + 1 + j = i + (j + 1) from by omega]; exact hs) (by omega) (by simpa using hq) hgy
        ·rw [hz] at hs
         have hs : (some (i : Int)) = some ((i + j : Nat) : Int) := hs
         have := Option.some.inj hs
         omega
      exact this a 0 j q y (by rw [zC]; exact hs) (by omega) hq hgy
    rw [h1]
    simp [hg]
   obtain ⟨b, e, hb⟩ := FI (A1 N f fun v4 => (D3 ((0 : Int) ≤ v4.2 ∧ (v4.2).toNat ≤ v4.1.length ∧ v4.1.length ≤ v4.1.length)).bind fun _ =>
     (D3 ((0 : Int) ≤ v4.2 ∧ 0 ≤ (v4.2).toNat ∧ (v4.2).toNat ≤ (JK v4.1 ((v4.2).toNat) (zH ((v4.1.length - (v4.2).toNat)) ((Ae.mk 0 0 0)))).length)).bind fun _ =>
     some ((v4.2).toNat, JK v4.1 ((v4.2).toNat) (zH ((v4.1.length - (v4.2).toNat)) ((Ae.mk 0 0 0)))))
    (fun (b : List Ae × Nat) i => (b.1, ((b.2 : Nat) : Int), i)) a.length (fun b => (D3 ((0 : Int) ≤ ((b.2 : Nat) : Int) ∧ (((b.2 : Nat) : Int)).toNat ≤ b.1.length ∧ b.1.length ≤ b.1.length)).bind fun _ =>
     (D3 ((0 : Int) ≤ ((b.2 : Nat) : Int) ∧ 0 ≤ (((b.2 : Nat) : Int)).toNat ∧ (((b.2 : Nat) : Int)).toNat ≤ (JK b.1 ((((b.2 : Nat) : Int)).toNat) (zH ((b.1.length - (((b.2 : Nat) : Int)).toNat)) ((Ae.mk 0 0 0)))).length)).bind fun _ =>
     some ((((b.2 : Nat) : Int)).toNat, JK b.1 ((((b.2 : Nat) : Int)).toNat) (zH ((b.1.length - (((b.2 : Nat) : Int)).toNat)) ((Ae.mk 0 0 0)))))
    (fun i b => b.1.length = a.length ∧ b.2 ≤ i ∧ b.1.drop i = a.drop i ∧ b.1.take b.2 = (a.take i).filter fun x => !g x)
    (fun n i b hi hb => by
     obtain ⟨b1, b2, b3, b4⟩ := hb
     rw [A1, Az (by simp only; omega)]
     have hai : a[i]? = some a[i] := by simp [hi]
     have hbi : b.1[i]? = some a[i] := by
      have := congrArg (fun l => l[0]?) b3
      simp only [xG, xJ] at this
      rw [this, hai]
     simp only [A8, AT, hbi, oS]
     rw [hf a[i] (xQ hi), AB (i := i) (by omega)]
     simp only [oS]
     have hnext : b.1.drop (i + 1) = a.drop (i + 1) := by
      have := congrArg (List.drop 1) b3
      rwa [List.drop_drop, List.drop_drop] at this
     cases hgi : g a[i]
     ·rw [yT, AO]
      have hbj : b.1[b.2]? = some b.1[b.2] := by simp [show b.2 < b.1.length from by omega]
      rw [hbj, AB (i := b.2) (by omega)]
      refine ⟨(b.1.set b.2 a[i], b.2 + 1), rfl, by simpa using b1, by simp only; omega, ?_, ?_⟩
      ·simp only
       rw [List.drop_set_of_lt (by omega), hnext]
      ·simp only
       rw [QR (by omega), b4, yU, hai, xH]
       simp [hgi]
     ·rw [yA, Ao]
      refine ⟨b, rfl, b1, by omega, hnext, ?_⟩
      rw [b4, yU, hai, xH]
      simp [hgi])
    (fun n b hb => by rw [A1, Av (by simp [hb.1])]) N (j + 1) (a, j) (by omega) (by omega) ⟨rfl, by simp only; omega, rfl, hpre.symm⟩
   obtain ⟨b1, b2, b3, b4⟩ := hb
   have e' : A1 N f (fun v4 => (D3 ((0 : Int) ≤ v4.2 ∧ (v4.2).toNat ≤ v4.1.length ∧ v4.1.length ≤ v4.1.length)).bind fun _ =>
     (D3 ((0 : Int) ≤ v4.2 ∧ 0 ≤ (v4.2).toNat ∧ (v4.2).toNat ≤ (JK v4.1 ((v4.2).toNat) (zH ((v4.1.length - (v4.2).toNat)) ((Ae.mk 0 0 0)))).length)).bind fun _ =>
     some ((v4.2).toNat, JK v4.1 ((v4.2).toNat) (zH ((v4.1.length - (v4.2).toNat)) ((Ae.mk 0 0 0))))) N (a, (j : Int), ((j + 1 : Nat) : Int)) = _ := e
   rw [e']
   have hsl : (JK b.1 b.2 (zH (b.1.length - b.2) (Ae.mk 0 0 0))).length = b.1.length := Kj (by rw [List.length_replicate]; omega)
   simp only [zT]
   rw [Au ⟨by omega, by omega, zN _⟩, Au ⟨by omega, by omega, by rw [hsl]; omega⟩]
   refine ⟨_, _, rfl, by rw [hsl]; omega, ?_⟩
   unfold JK
   rw [yS, List.take_append_of_le_length (by simp; omega), List.take_take, Nat.min_self, b4, uG]
  ·cases hr
theorem Qv (N : Nat) (hN : N ≤ 1000000) (h20 : 100 ≤ N) {p : Aa} {m : Ab} (hv : BB p = 0) (hm : BV p m) : zFS N p m = some (Fk p m, 0) := by
 obtain ⟨hp, _⟩ := CM hv
 unfold zFS
 rw [IC N p m hN (by omega) (K2 hm), Iw hv hm]
 simp only [oS, bne_self_eq_false, Ao]
 rw [S9 N hN h20 hp]
 simp only [oS]
 have hl := VR hp
 obtain ⟨X, n, e, h1, h2⟩ := SZ N hN (Fe p) (fun x => DR N x p.fJ p.fQ p.fU p.fK m.fL m.fI m.fN) (fun s => !((A2 p m s).2 == 0)) (by omega) (by omega) (fun x hx => T0 N hN h20 hp hm hx)
 rw [e]
 simp only [oS]
 rw [Au h1, h2]
 unfold Fk
 simp
theorem Jg {β : Type} (g : Nat → List β) : ∀ n : Nat, CY (fun i (_ : Nat) => g i) 0 (zS n) = (zS n).flatMap g
 | 0 => rfl
 | n + 1 => by rw [xX, NA, Jg g n, uZ]; simp [CY]
def YD (p : Aa) (m : Ab) (s : Ae) : Bool := (A2 p m s).2 == 0
def gS (p : Aa) (m : Ab) (k : Int) (i v : Nat) : List Ae := if YD p m ⟨k, (i : Int), (v : Int)⟩ = true then [⟨k, (i : Int), (v : Int)⟩] else []
def bS (p : Aa) (m : Ab) (k : Int) (i : Nat) : List Ae := (zS 6).flatMap (gS p m k i)
def U1 (p : Aa) : Nat := max p.fJ.length p.fK.length
def kS (p : Aa) (m : Ab) (k : Int) : List Ae := (zS (U1 p)).flatMap (bS p m k)
theorem LZ {β : Type} (f : Nat → β) (q : β → Bool) : ∀ n : Nat, ((zS n).flatMap fun v => if q (f v) = true then [f v] else []) = ((zS n).map f).filter q
 | 0 => rfl
 | n + 1 => by
  rw [xX, uZ, LZ f q n, xE, xH]
  cases h : q (f n) <;> simp [h]
theorem Md {β : Type} (g : Nat → List β) (a : Nat) (h : ∀ v, a ≤ v → g v = []) : ∀ n, a ≤ n → (zS n).flatMap g = (zS a).flatMap g
 | 0, hn => by rw [Nat.le_zero.1 hn]
 | n + 1, hn => by
  by_cases h1 : a = n + 1
  ·rw [h1]
  ·rw [xX, uZ, Md g a h n (by omega)]
   simp [h n (by omega)]
theorem Xb (p : Aa) (m : Ab) (k : Int) (i v : Nat) : (gS p m k i v).length ≤ 1 := by unfold gS; split <;> simp
theorem Xh (p : Aa) (m : Ab) (k : Int) (i : Nat) : (bS p m k i).length ≤ 6 := by
 unfold bS
 rw [← Jg]
 have := Gr (g := fun i' (_ : Nat) => gS p m k i i') (c := 1) (i := 0) (xs := zS 6) fun j x _ => Xb p m k i _
 simpa using this
theorem bn {p : Aa} (hp : Bg p) (m : Ab) (k : Int) : (kS p m k).length ≤ 72 := by
 have h1 := hp.nv
 have h2 := hp.nt
 unfold kS
 rw [← Jg]
 have := Gr (g := fun i' (_ : Nat) => bS p m k i') (c := 6) (i := 0) (xs := zS (U1 p)) fun j x _ => Xh p m k _
 simp only [uB] at this
 have h3 : U1 p ≤ 12 := by unfold U1; omega
 omega
theorem aT {p : Aa} {m : Ab} {s : Ae} (h : YD p m s = true) : Hc s = true ∧ Gu p s = true := by
 unfold YD A2 at h
 split at h
 ·cases h
 ·rename_i h1
  split at h
  ·cases h
  ·rename_i h2
   exact ⟨by simpa using h1, by simpa using h2⟩
theorem NK {p : Aa} {m : Ab} {k : Int} {i v : Nat} (h : YD p m ⟨k, (i : Int), (v : Int)⟩ = true) : (k = 3 → i < p.fK.length) ∧ (k ≠ 3 → i < p.fJ.length) ∧ (k = 1 → (v : Int) < p.fJ.getD i 0) ∧ (k ≠ 1 → v = 0) := by
 obtain ⟨h1, h2⟩ := aT h
 obtain ⟨a1, a2, a3, a4, a5⟩ := IS h1
 obtain ⟨b1, b2, b3⟩ := JW h2
 simp only [zT] at *
 exact ⟨fun e => by have := b1 e; omega, fun e => by have := b2 e; omega, b3, fun e => by have := a5 e; omega⟩
theorem XZ {p : Aa} (hp : Bg p) (m : Ab) : kS p m 1 ++ kS p m 2 ++ kS p m 3 = Fk p m := by
 have hnv := hp.nv
 have hnt := hp.nt
 unfold Fk Fe
 rw [xH, xH]
 have e1 : kS p m 1 = (CY Kp 0 p.fJ).filter fun s => (A2 p m s).2 == 0 := by
  unfold kS
  rw [Md (bS p m 1) p.fJ.length (fun i hi => by
   unfold bS
   rw [zA0]
   intro v _
   unfold gS
   rw [if_neg]
   intro h
   have := (NK h).2.1 (by decide)
   omega) (U1 p) (by unfold U1; omega)]
  have e : ∀ (xs : List Int) (i : Nat), (∀ j x, xs[j]? = some x → 1 ≤ x ∧ x ≤ 6 ∧ p.fJ.getD (i + j) 0 = x) → ((zS xs.length).flatMap fun j => bS p m 1 (i + j)) = (CY Kp i xs).filter fun s => (A2 p m s).2 == 0 := by
   intro xs
   induction xs with
   | nil => intro i _; rfl
   | cons x xs ih =>
    intro i hx
    rw [yC, List.range_succ_eq_map, List.flatMap_cons, List.flatMap_map, CY, xH]
    have ih' := ih (i + 1) (fun j y hy => by
     have := hx (j + 1) y (by simpa using hy)
     rw [show i + 1 + j = i + (j + 1) from by omega]; exact this)
    have hx0 := hx 0 x rfl
    rw [xJ] at hx0
    congr 1
    ·rw [xJ]
     unfold bS Kp
     rw [Md (gS p m 1 i) x.toNat (fun v hv => by
      unfold gS
      rw [if_neg]
      intro h
      have := (NK h).2.2.1 rfl
      rw [hx0.2.2] at this
      omega) 6 (by omega)]
     exact LZ (fun v => (⟨1, (i : Int), ((v : Nat) : Int)⟩ : Ae)) (YD p m) x.toNat
    ·rw [← ih']
     congr 1
     funext j
     rw [show i + (j + 1) = i + 1 + j from by omega]
  have := e p.fJ 0 (fun j x hx => by
   have h1 := hp.ver x (lM hx)
   refine ⟨h1.1, h1.2, ?_⟩
   rw [zC, lD, hx]; rfl)
  simp only [zC] at this
  exact this
 have e23 : ∀ (k : Int) (n : Nat), k ≠ 1 → n ≤ U1 p → (∀ i v, YD p m ⟨k, ((i : Nat) : Int), ((v : Nat) : Int)⟩ = true → i < n) → kS p m k = (((zS n).map fun i => (⟨k, ((i : Nat) : Int), 0⟩ : Ae)).filter fun s => (A2 p m s).2 == 0) := by
  intro k n hk hn hi
  unfold kS
  rw [Md (bS p m k) n (fun i hi' => by
   unfold bS
   rw [zA0]
   intro v _
   unfold gS
   rw [if_neg]
   intro h
   have := hi i v h
   omega) (U1 p) hn]
  show _ = List.filter (YD p m) _
  rw [← LZ (fun i => (⟨k, ((i : Nat) : Int), 0⟩ : Ae)) (YD p m) n]
  congr 1
  funext i
  unfold bS
  rw [Md (gS p m k i) 1 (fun v hv => by
   unfold gS
   rw [if_neg]
   intro h
   have := (NK h).2.2.2 hk
   omega) 6 (by omega)]
  simp [gS]
 rw [e1, e23 2 p.fJ.length (by decide) (by unfold U1; omega) (fun i v h => (NK h).2.1 (by decide)), e23 3 p.fK.length (by decide) (by unfold U1; omega) (fun i v h => (NK h).1 rfl)]
theorem T1 (a b : Nat) : Wi (a : Int) (b : Int) = ((max a b : Nat) : Int) := by
 unfold Wi
 omega
theorem NC (N : Nat) (hN : N ≤ 1000000) (h20 : 100 ≤ N) {p : Aa} {m : Ab} (hv : BB p = 0) (hm : BV p m) : CA N p m = some (Fk p m) := by
 obtain ⟨hp, _⟩ := CM hv
 have hnv := hp.nv
 have hnt := hp.nt
 have hmx : U1 p ≤ 12 := by unfold U1; omega
 unfold CA
 have hmix := Iw hv hm
 -- one number
 have inn : ∀ (k : Int) (c0 a : List Ae) (i : Nat) (d0 : List Ae) (j : List Ae → Option (List Ae)), a.length ≤ 1000 →
   Cr N p m (c0, k) (d0, (i : Int)) j N (a, 0) = j (a ++ bS p m k i) := by
  intro k c0 a i d0 j ha
  have := FQ (Cr N p m (c0, k) (d0, (i : Int)) j) (fun a i => (a, i)) (zS 6) j (fun v _ => gS p m k i v) 1 2000
   (fun v x _ => Xb _ _ _ _ _)
   (fun n v x a hx hl => by
    have hi := (lI.1 hx).1
    simp only [uB] at hi
    rw [Cr, Az (by simp only; omega)]
    simp only [A8]
    rw [Sk N hN h20 (K2 hm), if_pos hmix]
    simp only [oS, AB (show v < 1000000 by omega)]
    unfold gS YD
    cases hq : (A2 p m ⟨k, (i : Int), (v : Int)⟩).2 == 0
    ·rw [Ao, if_neg (by simp), x8]
    ·rw [AO, if_pos rfl, Au (by simp [Dh]; unfold gS YD at hl; rw [hq] at hl; simp at hl; omega)])
   (fun n a => by rw [Cr, Av (by simp)]) N a (by simp; omega) (by simp; omega)
  rw [Jg] at this
  exact this
 have mid : ∀ (k : Int) (c0 a : List Ae) (j : List Ae → Option (List Ae)), a.length ≤ 500 →
   Cn N p m (c0, k) j N (a, 0) = j (a ++ kS p m k) := by
  intro k c0 a j ha
  have := FQ (Cn N p m (c0, k) j) (fun a i => (a, i)) (zS (U1 p)) j (fun i _ => bS p m k i) 6 900
   (fun v x _ => Xh _ _ _ _)
   (fun n i x a hx hl => by
    have hi := (lI.1 hx).1
    simp only [uB] at hi
    rw [Cn, Az (by simp only; rw [T1]; unfold U1 at hi; omega)]
    rw [inn k c0 a i a _ (by omega)]
    simp only [AB (show i < 1000000 by omega)])
   (fun n a => by rw [Cn, Av (by simp [T1, U1])]) N a (by simp; omega) (by simp; omega)
  rw [Jg] at this
  exact this
 have hk := bn hp m
 have go : ∀ (k : Int) (n : Nat) (a : List Ae), k ≤ 3 → 1 ≤ k → a.length ≤ 300 → BI N p m (fun v2 => some v2) (n + 1) (a, k) = BI N p m (fun v2 => some v2) n (a ++ kS p m k, k + 1) := by
  intro k n a h1 h2 ha
  rw [BI, Az h1]
  rw [mid k a a _ (by omega), Ch (by omega) (by omega)]
 obtain ⟨N', hN'⟩ : ∃ q, N = q + 4 := ⟨N - 4, by omega⟩
 have e0 : BI N p m (fun v2 => some v2) N ([], 1) = BI N p m (fun v2 => some v2) (N' + 4) ([], 1) := by rw [hN']
 rw [e0, go 1 (N' + 3) [] (by decide) (by decide) (by simp), uF]
 rw [show (1 : Int) + 1 = 2 from rfl, go 2 (N' + 2) _ (by decide) (by decide) (by have := hk 1; omega)]
 rw [show (2 : Int) + 1 = 3 from rfl, go 3 (N' + 1) _ (by decide) (by decide) (by have h1 := hk 1; have h2 := hk 2; rw [zY]; omega)]
 rw [BI, Av (by simp), XZ hp]
end Go.Lift
namespace Go.Lift
open List renaming mem_of_getElem? → lM
open List renaming getElem?_eq_some_iff → lI
namespace Bfs
section
variable {α σ : Type}
def code (rk : σ → Nat) (K : Nat) (w : List σ) : Nat := w.foldl (fun c s => c * K + rk s) 0
theorem JU (rk : σ → Nat) (K : Nat) (w : List σ) (s : σ) : code rk K (w ++ [s]) = code rk K w * K + rk s := by
 simp [code]
theorem TM (rk : σ → Nat) (K : Nat) : code rk K ([] : List σ) = 0 := rfl
def Dig (rk : σ → Nat) (K : Nat) (w : List σ) : Prop := ∀ s, s ∈ w → 1 ≤ rk s ∧ rk s ≤ K
theorem Dig.snoc {rk : σ → Nat} {K : Nat} {w : List σ} {s : σ} (h : Dig rk K w) (hs : 1 ≤ rk s ∧ rk s ≤ K) : Dig rk K (w ++ [s]) := by
 intro x hx; rcases yE.1 hx with h1 | h1
 ·exact h x h1
 ·rw [yR.1 h1]; exact hs
theorem VH {c d K a b : Nat} (h : c < d) (_ : 1 ≤ b) (ha : a ≤ K) : c * K + a < d * K + b := by
 have : c * K + K ≤ d * K := by rw [← yD]; exact zF K h
 omega
theorem YV {c d K a : Nat} (h : c ≤ d) : c * K + a ≤ d * K + a := Nat.add_le_add_right (zF K h) a
theorem list_snoc {β : Type} (l : List β) : l = [] ∨ ∃ u s, l = u ++ [s] := by
 cases h : l.reverse with
 | nil => exact .inl (List.reverse_eq_nil_iff.1 h)
 | cons s r => exact .inr ⟨r.reverse, s, by rw [← List.reverse_cons, ← h, List.reverse_reverse]⟩
abbrev Nd (α σ : Type) := α × Int × σ
def put [DecidableEq α] (i : Nat) (l : List (Nd α σ)) (q : σ × α) : List (Nd α σ) := if (l.any fun n => decide (n.1 = q.2)) = true then l else l ++ [(q.2, (i : Int), q.1)]
def inner [DecidableEq α] (most i : Nat) : List (σ × α) → List (Nd α σ) → Option (List (Nd α σ))
 | [], l => some l
 | q :: qs, l => if most < (put i l q).length then none else inner most i qs (put i l q)
def go [DecidableEq α] (nxt : α → List (σ × α)) (most : Nat) : Nat → Nat → List (Nd α σ) → Option (List (Nd α σ))
 | 0, _, _ => none
 | n + 1, i, l => match l[i]? with
  | none => some l
  | some nd => (inner most i (nxt nd.1) l).bind fun l' => go nxt most n (i + 1) l'
structure Inv (nxt : α → List (σ × α)) (rk : σ → Nat) (K : Nat) (root : α) (i : Nat) (done : List (σ × α)) (l : List (Nd α σ)) (ws : List (List σ)) : Prop where
 len : ws.length = l.length
 root : ∃ s, l[0]? = some (root, -1, s)
 root' : ws[0]? = some []
 par : ∀ (k : Nat) x f s, 0 < k → l[k]? = some (x, f, s) → ∃ (j : Nat) (y : α) (g : Int) (t : σ) (w : List σ), f = (j : Int) ∧ j < k ∧ l[j]? = some (y, g, t) ∧ (s, x) ∈ nxt y ∧ ws[j]? = some w ∧ ws[k]? = some (w ++ [s]) ∧ (j < i ∨ (j = i ∧ (s, x) ∈ done))
 nodup : ∀ (a b : Nat) x f s g t, l[a]? = some (x, f, s) → l[b]? = some (x, g, t) → a = b
 inc : ∀ (a b : Nat) u w, ws[a]? = some u → ws[b]? = some w → a < b → code rk K u < code rk K w
 dig : ∀ (k : Nat) w, ws[k]? = some w → Dig rk K w
 closed : ∀ (j : Nat) x f s w, l[j]? = some (x, f, s) → ws[j]? = some w → ∀ q, (j < i ∧ q ∈ nxt x) ∨ (j = i ∧ q ∈ done) → ∃ (k : Nat) (f' : Int) (s' : σ) (w' : List σ), l[k]? = some (q.2, f', s') ∧ ws[k]? = some w' ∧ code rk K w' ≤ code rk K (w ++ [q.1])
theorem get_app {β : Type} {l : List β} {y x : β} {k : Nat} (h : (l ++ [y])[k]? = some x) : l[k]? = some x ∨ (k = l.length ∧ x = y) := by
 rcases Nat.lt_trichotomy k l.length with h1 | h1 | h1
 ·rw [yH h1] at h; exact .inl h
 ·subst h1; simp at h; exact .inr ⟨rfl, h.symm⟩
 ·rw [yV (by simp; omega)] at h; cases h
theorem get_app_of {β : Type} {l : List β} {y x : β} {k : Nat} (h : l[k]? = some x) : (l ++ [y])[k]? = some x := by
 rw [yH ((lI.1 h).1)]; exact h
theorem get_app_new {β : Type} {l : List β} {y : β} : (l ++ [y])[l.length]? = some y := by simp
theorem lt_get {β : Type} {l : List β} {k : Nat} {x : β} (h : l[k]? = some x) : k < l.length := (lI.1 h).1
theorem get_ex {β : Type} {l : List β} {k : Nat} (h : k < l.length) : ∃ x, l[k]? = some x := ⟨l[k], yK h⟩
theorem ZH [DecidableEq α] {nxt : α → List (σ × α)} {rk : σ → Nat} {K : Nat} {root : α} {i : Nat} {done : List (σ × α)} {l : List (Nd α σ)} {ws : List (List σ)} {x : α} {f : Int} {s : σ} {q : σ × α}
  (hI : Inv nxt rk K root i done l ws) (hx : l[i]? = some (x, f, s)) (hq : q ∈ nxt x) (hd : ∀ r, r ∈ done → rk r.1 < rk q.1) (hr : 1 ≤ rk q.1 ∧ rk q.1 ≤ K) :
  ∃ ws', Inv nxt rk K root i (done ++ [q]) (put i l q) ws' ∧ (∀ (k : Nat) w, ws[k]? = some w → ws'[k]? = some w) ∧ (∀ (k : Nat) n, l[k]? = some n → (put i l q)[k]? = some n) := by
 obtain ⟨w0, hw0⟩ := get_ex (l := ws) (k := i) (by rw [hI.len]; exact lt_get hx)
 unfold put
 by_cases hin : (l.any fun n => decide (n.1 = q.2)) = true
 ·rw [if_pos hin]
  refine ⟨ws, ⟨hI.len, hI.root, hI.root', ?_, hI.nodup, hI.inc, hI.dig, ?_⟩, fun _ _ h => h, fun _ _ h => h⟩
  ·intro k y g t hk hy
   obtain ⟨j, y', g', t', w, h1, h2, h3, h4, h5, h6, h7⟩ := hI.par k y g t hk hy
   exact ⟨j, y', g', t', w, h1, h2, h3, h4, h5, h6, h7.imp id fun h => ⟨h.1, xA _ h.2⟩⟩
  ·intro j y g t w hy hw r hr'
   by_cases hold : (j < i ∧ r ∈ nxt y) ∨ (j = i ∧ r ∈ done)
   ·exact hI.closed j y g t w hy hw r hold
   ·have hjr : j = i ∧ r = q := by
     rcases hr' with h | ⟨h1, h2⟩
     ·exact absurd (.inl h) hold
     ·rcases yE.1 h2 with h3 | h3
      ·exact absurd (.inr ⟨h1, h3⟩) hold
      ·exact ⟨h1, yR.1 h3⟩
    obtain ⟨rfl, rfl⟩ := hjr
    rw [hw0] at hw; cases hw
    obtain ⟨n, hn1, hn2⟩ := xF.1 hin
    obtain ⟨k, hk⟩ := zU.1 hn1
    obtain ⟨nx, nf, ns⟩ := n
    have hn2 : nx = r.2 := of_decide_eq_true hn2
    subst hn2
    obtain ⟨wk, hwk⟩ := get_ex (l := ws) (k := k) (by rw [hI.len]; exact lt_get hk)
    refine ⟨k, nf, ns, wk, hk, hwk, ?_⟩
    rw [JU]
    rcases uS k with rfl | hk0
    ·rw [hI.root'] at hwk; cases hwk; rw [TM]; omega
    ·obtain ⟨j', y', g', t', w, h1, h2, h3, h4, h5, h6, h7⟩ := hI.par k _ _ _ hk0 hk
     rw [h6] at hwk; cases hwk
     rw [JU]
     have hdg : 1 ≤ rk ns ∧ rk ns ≤ K := hI.dig k _ h6 ns (by simp)
     rcases h7 with h7 | ⟨h7, h8⟩
     ·exact Nat.le_of_lt (VH (hI.inc _ _ _ _ h5 hw0 h7) hr.1 hdg.2)
     ·subst h7; rw [hw0] at h5; cases h5
      have := hd _ h8
      simp only at this; omega
 ·rw [if_neg hin]
  have hnew : ∀ (k : Nat) y g t, l[k]? = some (y, g, t) → y ≠ q.2 := fun k y g t hy e => hin (xF.2 ⟨_, lM hy, decide_eq_true e⟩)
  have hbig : ∀ (k : Nat) u, ws[k]? = some u → code rk K u < code rk K (w0 ++ [q.1]) := by
   intro k u hu
   rw [JU]
   obtain ⟨⟨nx, nf, ns⟩, hk⟩ := get_ex (l := l) (k := k) (by rw [← hI.len]; exact lt_get hu)
   rcases uS k with rfl | hk0
   ·rw [hI.root'] at hu; cases hu; rw [TM]; omega
   ·obtain ⟨j', y', g', t', w, h1, h2, h3, h4, h5, h6, h7⟩ := hI.par k _ _ _ hk0 hk
    rw [h6] at hu; cases hu
    rw [JU]
    have hdg : 1 ≤ rk ns ∧ rk ns ≤ K := hI.dig k _ h6 ns (by simp)
    rcases h7 with h7 | ⟨h7, h8⟩
    ·exact VH (hI.inc _ _ _ _ h5 hw0 h7) hr.1 hdg.2
    ·subst h7; rw [hw0] at h5; cases h5
     have := hd _ h8
     simp only at this; omega
  refine ⟨ws ++ [w0 ++ [q.1]], ⟨by simp [hI.len], ?_, get_app_of hI.root', ?_, ?_, ?_, ?_, ?_⟩, fun _ _ h => get_app_of h, fun _ _ h => get_app_of h⟩
  ·obtain ⟨s0, hs0⟩ := hI.root; exact ⟨s0, get_app_of hs0⟩
  ·intro k y g t hk hy
   rcases get_app hy with hy | ⟨hk1, hy⟩
   ·obtain ⟨j, y', g', t', w, h1, h2, h3, h4, h5, h6, h7⟩ := hI.par k y g t hk hy
    exact ⟨j, y', g', t', w, h1, h2, get_app_of h3, h4, get_app_of h5, get_app_of h6, h7.imp id fun h => ⟨h.1, xA _ h.2⟩⟩
   ·cases hy
    refine ⟨i, x, f, s, w0, rfl, by rw [hk1]; exact lt_get hx, get_app_of hx, hq, get_app_of hw0, by rw [hk1, ← hI.len]; exact get_app_new, .inr ⟨rfl, by simp⟩⟩
  ·intro a b y g t g' t' ha hb
   rcases get_app ha with ha | ⟨ha1, ha⟩ <;> rcases get_app hb with hb | ⟨hb1, hb⟩
   ·exact hI.nodup a b y g t g' t' ha hb
   ·cases hb; exact absurd rfl (hnew _ _ _ _ ha)
   ·cases ha; exact absurd rfl (hnew _ _ _ _ hb)
   ·omega
  ·intro a b u w ha hb hab
   rcases get_app ha with ha | ⟨ha1, ha⟩ <;> rcases get_app hb with hb | ⟨hb1, hb⟩
   ·exact hI.inc a b u w ha hb hab
   ·rw [hb]; exact hbig _ _ ha
   ·have := lt_get hb; omega
   ·omega
  ·intro k w hw
   rcases get_app hw with hw | ⟨hw1, hw⟩
   ·exact hI.dig k w hw
   ·rw [hw]; exact (hI.dig _ _ hw0).snoc hr
  ·intro j y g t w hy hw r hr'
   rcases get_app hy with hy1 | ⟨hy1, hy2⟩
   ·have hw1 : ws[j]? = some w := by
     rcases get_app hw with h | ⟨h, _⟩
     ·exact h
     ·have := lt_get hy1; rw [← hI.len] at this; omega
    by_cases hold : (j < i ∧ r ∈ nxt y) ∨ (j = i ∧ r ∈ done)
    ·obtain ⟨k, f', s', w', h1, h2, h3⟩ := hI.closed j y g t w hy1 hw1 r hold
     exact ⟨k, f', s', w', get_app_of h1, get_app_of h2, h3⟩
    ·have hjr : j = i ∧ r = q := by
      rcases hr' with h | ⟨h1, h2⟩
      ·exact absurd (.inl h) hold
      ·rcases yE.1 h2 with h3 | h3
       ·exact absurd (.inr ⟨h1, h3⟩) hold
       ·exact ⟨h1, yR.1 h3⟩
     obtain ⟨rfl, rfl⟩ := hjr
     rw [hw0] at hw1; cases hw1
     exact ⟨l.length, _, _, _, get_app_new, by rw [← hI.len]; exact get_app_new, zN _⟩
   ·have := lt_get hx
    rcases hr' with h | h <;> omega
theorem Rn [DecidableEq α] {nxt : α → List (σ × α)} {rk : σ → Nat} {K : Nat} {root : α} {i most : Nat} {x : α} {f : Int} {s : σ} (hP : (nxt x).Pairwise fun a b => rk a.1 < rk b.1) (hD : ∀ q, q ∈ nxt x → 1 ≤ rk q.1 ∧ rk q.1 ≤ K) :
  ∀ (qs done : List (σ × α)) (l l' : List (Nd α σ)) (ws : List (List σ)), done ++ qs = nxt x → Inv nxt rk K root i done l ws → l[i]? = some (x, f, s) → inner most i qs l = some l' →
   ∃ ws', Inv nxt rk K root i (nxt x) l' ws' ∧ (∀ (k : Nat) w, ws[k]? = some w → ws'[k]? = some w) ∧ (∀ (k : Nat) n, l[k]? = some n → l'[k]? = some n)
 | [], done, l, l', ws, he, hI, hx, h => by
  cases h; rw [x8] at he; subst he; exact ⟨ws, hI, fun _ _ h => h, fun _ _ h => h⟩
 | q :: qs, done, l, l', ws, he, hI, hx, h => by
  have hqm : q ∈ nxt x := by rw [← he]; simp
  have hlt : ∀ r, r ∈ done → rk r.1 < rk q.1 := fun r hr => by
   rw [← he] at hP
   exact (uN.1 hP).2.2 r hr q (by simp)
  obtain ⟨ws1, h1, h2, h3⟩ := ZH hI hx hqm hlt (hD q hqm)
  simp only [inner] at h
  split at h
  ·cases h
  ·obtain ⟨ws2, g1, g2, g3⟩ := Rn hP hD qs (done ++ [q]) _ l' ws1 (by rw [yS]; exact he) h1 (h3 _ _ hx) h
   exact ⟨ws2, g1, fun k w hw => g2 k w (h2 k w hw), fun k n hn => g3 k n (h3 k n hn)⟩
theorem WM {nxt : α → List (σ × α)} {rk : σ → Nat} {K : Nat} {root : α} {i : Nat} {x : α} {f : Int} {s : σ} {l : List (Nd α σ)} {ws : List (List σ)} (h : Inv nxt rk K root i (nxt x) l ws) (hx : l[i]? = some (x, f, s)) : Inv nxt rk K root (i + 1) [] l ws := by
 refine ⟨h.len, h.root, h.root', ?_, h.nodup, h.inc, h.dig, ?_⟩
 ·intro k y g t hk hy
  obtain ⟨j, y', g', t', w, h1, h2, h3, h4, h5, h6, h7⟩ := h.par k y g t hk hy
  exact ⟨j, y', g', t', w, h1, h2, h3, h4, h5, h6, .inl (by rcases h7 with h7 | h7 <;> omega)⟩
 ·intro j y g t w hy hw r hr
  rcases hr with ⟨h1, h2⟩ | ⟨_, h2⟩
  ·refine h.closed j y g t w hy hw r ?_
   by_cases hj : j < i
   ·exact .inl ⟨hj, h2⟩
   ·have : j = i := by omega
    subst this; rw [hx] at hy; cases hy; exact .inr ⟨rfl, h2⟩
  ·cases h2
theorem inv_go [DecidableEq α] {nxt : α → List (σ × α)} {rk : σ → Nat} {K : Nat} {root : α} {most : Nat} (P : α → Prop) (hP : ∀ x, P x → (nxt x).Pairwise fun a b => rk a.1 < rk b.1) (hD : ∀ x, P x → ∀ q, q ∈ nxt x → (1 ≤ rk q.1 ∧ rk q.1 ≤ K) ∧ P q.2) (hroot : P root) :
  ∀ (n i : Nat) (l l' : List (Nd α σ)) (ws : List (List σ)), i ≤ l.length → Inv nxt rk K root i [] l ws → (∀ (k : Nat) x f s, l[k]? = some (x, f, s) → P x) → go nxt most n i l = some l' → ∃ ws', Inv nxt rk K root l'.length [] l' ws' ∧ (∀ (k : Nat) x f s, l'[k]? = some (x, f, s) → P x)
 | 0, i, l, l', ws, _, _, _, h => by cases h
 | n + 1, i, l, l', ws, hi, hI, hA, h => by
  simp only [go] at h
  split at h
  ·rename_i hn
   cases h
   have : i = l.length := by
    have := List.getElem?_eq_none_iff.1 hn; omega
   subst this
   exact ⟨ws, hI, hA⟩
  ·rename_i nd hn
   obtain ⟨x, f, s⟩ := nd
   cases hin : inner most i (nxt x) l with
   | none => rw [hin] at h; cases h
   | some l1 =>
    rw [hin] at h
    have hx := hA _ _ _ _ hn
    obtain ⟨ws1, h1, h2, h3⟩ := Rn (hP x hx) (fun q hq => (hD x hx q hq).1) (nxt x) [] l l1 ws rfl hI hn hin
    have hA1 : ∀ (k : Nat) y g t, l1[k]? = some (y, g, t) → P y := fun k y g t hy => by
     rcases uS k with rfl | hk
     ·obtain ⟨s0, hs0⟩ := h1.root; rw [hs0] at hy; cases hy; exact hroot
     ·obtain ⟨j, y', g', t', w, e1, e2, e3, e4, e5, e6, e7⟩ := h1.par k y g t hk hy
      have hj : P y' := by
       have hjl : j < l.length := by rcases e7 with h | h <;> have := lt_get hn <;> omega
       obtain ⟨⟨z, zf, zs⟩, hz⟩ := get_ex hjl
       have := h3 _ _ hz
       rw [e3] at this; cases this
       exact hA _ _ _ _ hz
      exact (hD y' hj _ e4).2
    exact inv_go P hP hD hroot n (i + 1) l1 l' ws1 (by have := lt_get (h3 _ _ hn); omega) (WM h1 (h3 _ _ hn)) hA1 h
theorem inv_start {nxt : α → List (σ × α)} {rk : σ → Nat} {K : Nat} {root : α} {s : σ} : Inv nxt rk K root 0 [] [(root, -1, s)] [[]] := by
 refine ⟨rfl, ⟨s, rfl⟩, rfl, ?_, ?_, ?_, ?_, ?_⟩
 ·intro k x f s hk h; rw [yV (by simp; omega)] at h; cases h
 ·intro a b x f s g t ha hb; have := lt_get ha; have := lt_get hb; simp at *; omega
 ·intro a b u w ha hb hab; have := lt_get hb; simp at this; omega
 ·intro k w hw
  have := lt_get hw; simp at this; subst this; simp at hw; subst hw
  intro s hs; cases hs
 ·intro j x f s w _ _ q h
  rcases h with h | h
  ·omega
  ·cases h.2
def run (nxt : α → List (σ × α)) (x : α) : List σ → α → Prop
 | [], y => y = x
 | s :: w, y => ∃ z, (s, z) ∈ nxt x ∧ run nxt z w y
theorem GH {nxt : α → List (σ × α)} : ∀ {u w : List σ} {x y : α}, run nxt x (u ++ w) y ↔ ∃ z, run nxt x u z ∧ run nxt z w y
 | [], w, x, y => by simp [run]
 | s :: u, w, x, y => by
  simp only [uQ, run]
  constructor
  ·rintro ⟨z, h1, h2⟩
   obtain ⟨z', h3, h4⟩ := GH.1 h2
   exact ⟨z', ⟨z, h1, h3⟩, h4⟩
  ·rintro ⟨z', ⟨z, h1, h3⟩, h4⟩
   exact ⟨z, h1, GH.2 ⟨z', h3, h4⟩⟩
theorem way_run {nxt : α → List (σ × α)} {rk : σ → Nat} {K : Nat} {root : α} {i : Nat} {l : List (Nd α σ)} {ws : List (List σ)} (h : Inv nxt rk K root i [] l ws) : ∀ (n k : Nat) {x : α} {f : Int} {s : σ} {w : List σ}, k < n → l[k]? = some (x, f, s) → ws[k]? = some w → run nxt root w x
 | 0, k, _, _, _, _, hk, _, _ => by omega
 | n + 1, k, x, f, s, w, hk, hx, hw => by
  rcases uS k with rfl | hk0
  ·obtain ⟨s0, hs0⟩ := h.root; rw [hs0] at hx; cases hx
   rw [h.root'] at hw; cases hw; rfl
  ·obtain ⟨j, y', g', t', w', e1, e2, e3, e4, e5, e6, e7⟩ := h.par k _ _ _ hk0 hx
   rw [e6] at hw; cases hw
   exact GH.2 ⟨y', way_run h n j (by omega) e3 e5, x, e4, rfl⟩
theorem reach_node {nxt : α → List (σ × α)} {rk : σ → Nat} {K : Nat} {root : α} {l : List (Nd α σ)} {ws : List (List σ)} (h : Inv nxt rk K root l.length [] l ws) : ∀ (n : Nat) {w : List σ} {y : α}, w.length = n → run nxt root w y → ∃ (k : Nat) (f : Int) (s : σ) (u : List σ), l[k]? = some (y, f, s) ∧ ws[k]? = some u ∧ code rk K u ≤ code rk K w
 | 0, w, y, hn, hr => by
  rw [List.length_eq_zero_iff.1 hn] at hr ⊢
  simp only [run] at hr; subst hr
  obtain ⟨s, hs⟩ := h.root
  exact ⟨0, _, _, _, hs, h.root', zN _⟩
 | n + 1, w, y, hn, hr => by
  rcases list_snoc w with rfl | ⟨w', s, rfl⟩
  ·simp at hn
  obtain ⟨z, h1, h2⟩ := GH.1 hr
  simp only [run] at h2
  obtain ⟨z', h2, rfl⟩ := h2
  simp only [zY, yB] at hn
  obtain ⟨k, f, t, u, g1, g2, g3⟩ := reach_node h n (by omega) h1
  obtain ⟨k', f', s', u', e1, e2, e3⟩ := h.closed k z f t u g1 g2 (s, y) (.inl ⟨lt_get g1, h2⟩)
  refine ⟨k', f', s', u', e1, e2, xU e3 ?_⟩
  rw [JU, JU]
  exact YV g3
theorem PZ [DecidableEq α] {most more i : Nat} (hm : most ≤ more) : ∀ (qs : List (σ × α)) (l l' : List (Nd α σ)), inner most i qs l = some l' → inner more i qs l = some l'
 | [], l, l', h => h
 | q :: qs, l, l', h => by
  simp only [inner] at h ⊢
  split at h
  ·cases h
  ·rw [if_neg (by omega)]; exact PZ hm qs _ _ h
theorem go_more [DecidableEq α] {nxt : α → List (σ × α)} {most more : Nat} (hm : most ≤ more) : ∀ (n m i : Nat) (l l' : List (Nd α σ)), n ≤ m → go nxt most n i l = some l' → go nxt more m i l = some l'
 | 0, m, i, l, l', _, h => by cases h
 | n + 1, m, i, l, l', hnm, h => by
  obtain ⟨m, rfl⟩ : ∃ k, m = k + 1 := ⟨m - 1, by omega⟩
  simp only [go] at h ⊢
  cases hl : l[i]? with
  | none => rw [hl] at h; exact h
  | some nd =>
   rw [hl] at h
   simp only at h ⊢
   cases hin : inner most i (nxt nd.1) l with
   | none => rw [hin] at h; cases h
   | some l1 =>
    rw [hin] at h
    rw [PZ hm _ _ _ hin]
    exact go_more hm n m (i + 1) l1 l' (by omega) h
theorem inner_len [DecidableEq α] {most i : Nat} : ∀ (qs : List (σ × α)) (l l' : List (Nd α σ)), l.length ≤ most → inner most i qs l = some l' → l'.length ≤ most
 | [], l, l', h0, h => by cases h; exact h0
 | q :: qs, l, l', h0, h => by
  simp only [inner] at h
  split at h
  ·cases h
  ·exact inner_len qs _ _ (by omega) h
theorem go_len [DecidableEq α] {nxt : α → List (σ × α)} {most : Nat} : ∀ (n i : Nat) (l l' : List (Nd α σ)), l.length ≤ most → go nxt most n i l = some l' → l'.length ≤ most
 | 0, i, l, l', _, h => by cases h
 | n + 1, i, l, l', h0, h => by
  simp only [go] at h
  split at h
  ·cases h; exact h0
  ·rename_i nd hn
   cases hin : inner most i (nxt nd.1) l with
   | none => rw [hin] at h; cases h
   | some l1 => rw [hin] at h; exact go_len n (i + 1) l1 l' (inner_len _ _ _ h0 hin) h
end
end Bfs
end Go.Lift
namespace Go.Lift
open IntKind renaming wrap → wI
open Option renaming bind_some → oS
open List renaming mem_of_getElem? → lM
open List renaming getElem?_eq_some_iff → lI
open List renaming getD_eq_getElem?_getD → lD
open Go
theorem Uf : ∀ {l : List Int}, Ut l = 0 → ∀ x, x ∈ l → x = 0
 | [], _, x, hx => by cases hx
 | y :: ys, h, x, hx => by
  unfold Ut at h
  split at h
  ·rename_i hy
   rcases zQ.1 hx with rfl | hx
   ·exact hy
   ·exact Uf h x hx
  ·rename_i hy; exact absurd h hy
theorem OB {a b : Ab} (h : G4 a b = 0) : a = b := by
 have := Uf h
 have h1 := Pb _ _ (this (E7 a.fL b.fL) (by simp))
 have h2 := Pb _ _ (this (E7 a.fI b.fI) (by simp))
 have h3 := Pb _ _ (this (E7 a.fN b.fN) (by simp))
 cases a; cases b; simp only at h1 h2 h3; subst h1; subst h2; subst h3; rfl
instance fo : DecidableEq Ab := fun a b => if h : G4 a b = 0 then isTrue (OB h) else isFalse (fun e => h (by rw [e]; exact Ms b))
theorem XH (a b : Ab) : (G4 a b == 0) = decide (a = b) := by
 by_cases h : a = b
 ·rw [decide_eq_true h, h, Ms]; rfl
 ·rw [decide_eq_false h]
  exact beq_eq_false_iff_ne.2 fun e => h (OB e)
def Rc (p : Aa) (m : Ab) (ss : List Ae) : List (Ae × Ab) := ss.filterMap fun s => if A6 p (A2 p m s).1 = true then some (s, (A2 p m s).1) else none
def Jl (p : Aa) (m : Ab) : List (Ae × Ab) := Rc p m (Fk p m)
def Nl (s : Ae) : Nat := if s.fP = 1 then 1 + 8 * s.fR.toNat + s.fW.toNat else if s.fP = 2 then 60 + s.fR.toNat else 70 + s.fR.toNat
theorem HV {p : Aa} {m : Ab} {s : Ae} (h : s ∈ Fk p m) : s ∈ Fe p ∧ (A2 p m s).2 = 0 := by
 unfold Fk at h
 have := List.mem_filter.1 h
 exact ⟨this.1, by simpa using this.2⟩
theorem Vj {p : Aa} {m : Ab} {ss : List Ae} {q : Ae × Ab} : q ∈ Rc p m ss ↔ q.1 ∈ ss ∧ q.2 = (A2 p m q.1).1 ∧ A6 p q.2 = true := by
 unfold Rc
 rw [List.mem_filterMap]
 constructor
 ·rintro ⟨s, h1, h2⟩
  split at h2
  ·rename_i h3; cases h2; exact ⟨h1, rfl, h3⟩
  ·cases h2
 ·rintro ⟨h1, h2, h3⟩
  refine ⟨q.1, h1, ?_⟩
  rw [← h2, if_pos h3]
theorem Mo {p : Aa} {m : Ab} {q : Ae × Ab} : q ∈ Jl p m ↔ q.1 ∈ Fk p m ∧ q.2 = (A2 p m q.1).1 ∧ A6 p q.2 = true := Vj
theorem Ve {p : Aa} {m : Ab} (hp : Bg p) (hm : BV p m) {q : Ae × Ab} (h : q ∈ Jl p m) : BV p q.2 ∧ A6 p q.2 = true := by
 obtain ⟨h1, h2, h3⟩ := Mo.1 h
 exact ⟨by rw [h2]; exact JV hp hm (HV h1).2, h3⟩
theorem Pt {p : Aa} (hp : Bg p) {s : Ae} (h : s ∈ Fe p) : s.fP ≤ 3 ∧ 1 ≤ Nl s ∧ Nl s ≤ 100 := by
 obtain ⟨h1, h2⟩ := Of hp h
 obtain ⟨a1, a2, a3, a4, a5⟩ := IS h1
 obtain ⟨b1, b2, b3⟩ := JW h2
 have hnv := hp.nv
 have hnt := hp.nt
 have hk : s.fP ≤ 3 := by
  unfold Fe at h
  rcases yE.1 h with h | h
  ·rcases yE.1 h with h | h
   ·obtain ⟨j, x, hx, hk⟩ := Hq.1 h
    unfold Kp at hk
    obtain ⟨v, hv, rfl⟩ := zW.1 hk
    exact (by decide : (1 : Int) ≤ 3)
   ·obtain ⟨v, hv, rfl⟩ := zW.1 h
    exact (by decide : (2 : Int) ≤ 3)
  ·obtain ⟨v, hv, rfl⟩ := zW.1 h
   exact (by decide : (3 : Int) ≤ 3)
 refine ⟨hk, ?_⟩
 unfold Nl
 by_cases h1 : s.fP = 1
 ·rw [if_pos h1]
  have := b2 (by omega)
  have h3 := b3 h1
  have h4 := (Jk hp (i := s.fR.toNat) (by omega)).2
  omega
 ·rw [if_neg h1]
  by_cases h2 : s.fP = 2
  ·rw [if_pos h2]
   have := b2 (by omega)
   omega
  ·rw [if_neg h2]
   have := b1 (by omega)
   omega
theorem Y7 (i : Nat) (n : Int) : (Kp i n).Pairwise fun a b => Nl a < Nl b := by
 unfold Kp
 rw [vU]
 refine List.Pairwise.imp ?_ vG
 intro a b h
 simp [Nl]; omega
theorem ZW {p : Aa} (hp : Bg p) : (Fe p).Pairwise fun a b => Nl a < Nl b := by
 have hnv := hp.nv
 have hnt := hp.nt
 have e1 : ∀ (xs : List Int) (i : Nat), (∀ x, x ∈ xs → x ≤ 6) → (CY Kp i xs).Pairwise fun a b => Nl a < Nl b := by
  intro xs
  induction xs with
  | nil => intro i _; exact List.Pairwise.nil
  | cons x xs ih =>
   intro i hx
   rw [CY, uN]
   refine ⟨Y7 i x, ih (i + 1) fun y hy => hx y (xZ _ hy), ?_⟩
   intro a ha b hb
   unfold Kp at ha
   obtain ⟨v, hv, rfl⟩ := zW.1 ha
   obtain ⟨j, y, hy, hb⟩ := Hq.1 hb
   unfold Kp at hb
   obtain ⟨w, hw, rfl⟩ := zW.1 hb
   have := hx x (by simp)
   have := yX.1 hv
   simp [Nl]; omega
 unfold Fe
 rw [uN, uN]
 refine ⟨⟨e1 _ 0 fun x hx => (hp.ver x hx).2, ?_, ?_⟩, ?_, ?_⟩
 ·rw [vU]
  refine List.Pairwise.imp ?_ vG
  intro a b h
  simp [Nl]; omega
 ·intro a ha b hb
  obtain ⟨w, hw, rfl⟩ := zW.1 hb
  obtain ⟨j, y, hy, ha⟩ := Hq.1 ha
  unfold Kp at ha
  obtain ⟨v, hv, rfl⟩ := zW.1 ha
  have := yX.1 hv
  have := (hp.ver y (lM hy)).2
  have := (lI.1 hy).1
  simp [Nl]; omega
 ·rw [vU]
  refine List.Pairwise.imp ?_ vG
  intro a b h
  simp [Nl]; omega
 ·intro a ha b hb
  obtain ⟨w, hw, rfl⟩ := zW.1 hb
  have hw := yX.1 hw
  rcases yE.1 ha with ha | ha
  ·obtain ⟨j, y, hy, ha⟩ := Hq.1 ha
   unfold Kp at ha
   obtain ⟨v, hv, rfl⟩ := zW.1 ha
   have := yX.1 hv
   have := (hp.ver y (lM hy)).2
   have := (lI.1 hy).1
   simp [Nl]; omega
  ·obtain ⟨v, hv, rfl⟩ := zW.1 ha
   have := yX.1 hv
   simp [Nl]; omega
theorem aK {p : Aa} {m : Ab} {ss : List Ae} (h : ss.Pairwise fun a b => Nl a < Nl b) : (Rc p m ss).Pairwise fun a b => Nl a.1 < Nl b.1 := by
 unfold Rc
 rw [List.pairwise_filterMap]
 refine List.Pairwise.imp ?_ h
 intro a b hab x hx y hy
 split at hx
 ·cases hx
  split at hy
  ·cases hy; exact hab
  ·cases hy
 ·cases hx
theorem bt {p : Aa} (hp : Bg p) (m : Ab) : (Jl p m).Pairwise fun a b => Nl a.1 < Nl b.1 := aK ((ZW hp).filter _)
theorem Ze {p : Aa} {s : Ae} (hv : Hc s = true) (hx : Gu p s = true) (hk : s.fP ≠ 4) : s ∈ Fe p := by
 obtain ⟨a1, a2, a3, a4, a5⟩ := IS hv
 obtain ⟨b1, b2, b3⟩ := JW hx
 obtain ⟨k, i, v⟩ := s
 simp only at *
 unfold Fe
 obtain ⟨i, rfl⟩ := zJ a3
 by_cases h1 : k = 1
 ·subst h1
  have h2 := b2 (by decide)
  have h3 := b3 rfl
  obtain ⟨v, rfl⟩ := zJ a4
  refine xA _ (xA _ (Hq.2 ⟨i, p.fJ.getD i 0, ?_, ?_⟩))
  ·rw [lD]
   have hi : i < p.fJ.length := by omega
   simp [hi]
  ·unfold Kp
   refine zW.2 ⟨v, yX.2 ?_, by simp⟩
   simp only [zT] at h3
   omega
 ·have hv0 := a5 h1
  subst hv0
  by_cases h2 : k = 2
  ·subst h2
   have := b2 (by decide)
   exact xA _ (List.mem_append_right _ (zW.2 ⟨i, yX.2 (by omega), rfl⟩))
  ·have h3 : k = 3 := by omega
   subst h3
   have := b1 rfl
   exact List.mem_append_right _ (zW.2 ⟨i, yX.2 (by omega), rfl⟩)
theorem OG {p : Aa} {m x : Ab} {s : Ae} : MR p m s = some x → (s, x) ∈ Jl p m := by
 intro h
 obtain ⟨h1, h2, h3, h4, h5⟩ := V8.1 h
 unfold MR at h
 split at h
 ·rename_i h6
  cases h
  refine Mo.2 ⟨?_, rfl, h6.2.2⟩
  unfold Fk
  exact List.mem_filter.2 ⟨Ze h1 h2 h4, by simpa using h6.1⟩
 ·cases h
theorem Wo {p : Aa} (hp : Bg p) {m x : Ab} {s : Ae} (h : (s, x) ∈ Jl p m) : MR p m s = some x := by
 obtain ⟨h1, h2, h3⟩ := Mo.1 h
 have h1 : s ∈ Fk p m := h1
 obtain ⟨h4, h5⟩ := HV h1
 have := (Pt hp h4).1
 have h2 : x = (A2 p m s).1 := h2
 have h3 : A6 p x = true := h3
 unfold MR
 rw [if_pos ⟨h5, by omega, by rw [← h2]; exact h3⟩, h2]
theorem N3 {p : Aa} (hp : Bg p) : ∀ {w : List Ae} {m x : Ab}, NM p m w = some x ↔ Bfs.run (Jl p) m w x
 | [], m, x => by simp only [NM, Bfs.run, Option.some.injEq]; exact eq_comm
 | s :: w, m, x => by
  simp only [NM, Bfs.run]
  constructor
  ·intro h
   cases hs : MR p m s with
   | none => rw [hs] at h; cases h
   | some z => rw [hs] at h; exact ⟨z, OG hs, (N3 hp).1 h⟩
  ·rintro ⟨z, h1, h2⟩
   rw [Wo hp h1]
   exact (N3 hp).2 h2
abbrev Km := Bfs.Nd Ab Ae
def LF (n : Km) : AI := ⟨n.1, n.2.1, n.2.2⟩
def NY : Ae := ⟨0, 0, 0⟩
theorem XC {N : Nat} {p : Aa} {a b : Ab} (hN : N ≤ 1000000) (h20 : 100 ≤ N) (hp : Bg p) (ha : BV p a) (hb : BV p b) : E3 N a b = some (decide (a = b)) := by
 have hnv := hp.nv
 have hnt := hp.nt
 unfold E3
 rw [OR hN (by rw [ha.base]; omega) (by rw [ha.next]; omega) (by rw [ha.held]; omega) (by rw [hb.held]; omega) (K2 ha) (K2 hb)]
 simp only [oS]
 rw [XH]
theorem S8 {N : Nat} (hN : N ≤ 1000000) (h20 : 100 ≤ N) {p : Aa} (hp : Bg p) {x : Ab} (hx : BV p x) {l : List Km} (hl : l.length < N) (hA : ∀ n, n ∈ l → BV p n.1) :
  ∃ r, Ey N (l.map LF) x = some r ∧ decide (r < 0) = !(l.any fun n => decide (n.1 = x)) := by
 unfold Ey
 have := Cm (CG N (l.map LF) x fun _ => some (-1)) l (some (-1)) (fun i n => if n.1 = x then some (i : Int) else none)
  (fun n i nd hnd => by
   have hi := (lI.1 hnd).1
   rw [CG, Az (by rw [zO]; omega), AT, zD, hnd]
   simp only [y7, oS, LF]
   have e := XC hN h20 hp (hA nd (lM hnd)) hx
   rw [show (Ab.mk nd.1.fL nd.1.fI nd.1.fN) = nd.1 from rfl, e, AB (by omega)]
   simp only [oS]
   by_cases h : nd.1 = x
   ·rw [decide_eq_true h, if_pos h]; rfl
   ·rw [decide_eq_false h, if_neg h]; rfl)
  (fun n => by rw [CG, Av (by simp)]) N 0 (zK _) (by omega)
 have e' : CG N (l.map LF) x (fun _ => some (-1)) N 0 = _ := this
 rw [e', zX]
 cases hs : CU (fun i (n : Km) => if n.1 = x then some (i : Int) else none) 0 l with
 | none =>
  refine ⟨_, rfl, ?_⟩
  have : (l.any fun n => decide (n.1 = x)) = false := by
   rw [vJ]
   intro n hn
   obtain ⟨j, hj⟩ := zU.1 hn
   have := Fg hs j n hj
   split at this
   ·cases this
   ·rename_i h; simpa using h
  rw [this]; rfl
 | some r =>
  refine ⟨_, rfl, ?_⟩
  obtain ⟨j, n, hj, hr⟩ := Dw hs
  split at hr
  ·rename_i h
   cases hr
   have : (l.any fun n => decide (n.1 = x)) = true := xF.2 ⟨n, lM hj, decide_eq_true h⟩
   rw [this]
   exact decide_eq_false (by omega)
  ·cases hr
theorem SX {i : Nat} {l : List Km} {q : Ae × Ab} {k : Nat} {n : Km} (h : l[k]? = some n) : (Bfs.put i l q)[k]? = some n := by
 unfold Bfs.put
 split
 ·exact h
 ·exact Bfs.get_app_of h
theorem VT {i : Nat} {l : List Km} {q : Ae × Ab} {n : Km} (h : n ∈ Bfs.put i l q) : n ∈ l ∨ n.1 = q.2 := by
 unfold Bfs.put at h
 split at h
 ·exact .inl h
 ·rcases yE.1 h with h | h
  ·exact .inl h
  ·rw [yR.1 h]; exact .inr rfl
theorem TC {p : Aa} {m : Ab} {s : Ae} {ss : List Ae} : Rc p m (s :: ss) = if A6 p (A2 p m s).1 = true then (s, (A2 p m s).1) :: Rc p m ss else Rc p m ss := by
 unfold Rc
 rw [List.filterMap_cons]
 split <;> rename_i h
 ·split at h
  ·cases h
  ·rename_i h2; rw [if_neg h2]
 ·split at h
  ·rename_i h2; cases h; rw [if_pos h2]
  ·cases h
theorem Ln {p : Aa} {most i : Nat} : ∀ {qs : List (Ae × Ab)} {l l' : List Km}, Bfs.inner most i qs l = some l' → (∀ q, q ∈ qs → BV p q.2 ∧ A6 p q.2 = true) → (∀ n, n ∈ l → BV p n.1 ∧ A6 p n.1 = true) → (∀ n, n ∈ l' → BV p n.1 ∧ A6 p n.1 = true) ∧ (∀ (k : Nat) n, l[k]? = some n → l'[k]? = some n)
 | [], l, l', h, _, hA => by cases h; exact ⟨hA, fun _ _ h => h⟩
 | q :: qs, l, l', h, hq, hA => by
  simp only [Bfs.inner] at h
  split at h
  ·cases h
  ·obtain ⟨h1, h2⟩ := Ln h (fun q hq' => hq q (xZ _ hq')) (fun n hn => by
    rcases VT hn with h | h
    ·exact hA n h
    ·rw [h]; exact hq q (by simp))
   exact ⟨h1, fun k n hn => h2 k n (SX hn)⟩
theorem NH (N : Nat) (hN : N ≤ 1000000) (h20 : 100 ≤ N) {p : Aa} {m : Ab} (hp : Bg p) (hm : BV p m) {s : Ae} (hs : s ∈ Fk p m) : ∃ b, CB N p m s = some ((A2 p m s).1, b) := by
 obtain ⟨h1, h2⟩ := HV hs
 obtain ⟨h3, h4⟩ := Of hp h1
 rw [NS N hN h20 hp hm h3 h4]
 unfold A2 at h2 ⊢
 rw [h3, h4, if_neg (by simp), if_neg (by simp)] at h2 ⊢
 cases h : Gt p m s with
 | none => rw [h] at h2; cases h2
 | some x => exact ⟨true, rfl⟩
theorem Lf {N : Nat} (hN : N ≤ 1000000) (h20 : 100 ≤ N) {p : Aa} (hp : Bg p) {m : Ab} (hm : BV p m) {f : Int} {t : Ae} {most i : Nat} (hmo : most ≤ 20000) {v1 : List AI × Int} (hv1 : v1.2 = (i : Int)) (ss : List Ae) (hss : ∀ s, s ∈ ss → s ∈ Fk p m) (hsl : ss.length ≤ 1000) (j : List AI → Option (List AI × Bool)) :
  ∀ (n k : Nat) (l : List Km), k ≤ ss.length → ss.length - k < n → l[i]? = some (m, f, t) → (∀ n, n ∈ l → BV p n.1 ∧ A6 p n.1 = true) → l.length ≤ most → (l.length < N ∧ most < N ∨ ∃ l', Bfs.inner most i (Rc p m (ss.drop k)) l = some l' ∧ l'.length < N) →
   B1 N p (most : Int) v1 ss j n (l.map LF, (k : Int)) = match Bfs.inner most i (Rc p m (ss.drop k)) l with
    | none => some ([], false)
    | some l' => j (l'.map LF)
 | 0, k, l, _, h, _, _, _, _ => by omega
 | n + 1, k, l, hk, h, hi, hA, hlm, hfu => by
  by_cases h1 : k < ss.length
  ·have hs : ss[k]? = some ss[k] := by simp [h1]
   have hsm := hss _ (lM hs)
   have hl1 : l.length < N := by
    rcases hfu with h | ⟨l', h, h2⟩
    ·exact h.1
    ·have hk := (Ln (p := p) h (fun q hq => by
      obtain ⟨g1, g2, g3⟩ := Vj.1 hq
      exact ⟨by rw [g2]; exact JV hp hm (HV (hss _ (List.mem_of_mem_drop g1))).2, g3⟩) hA).2
     by_cases h0 : l.length = 0
     ·omega
     ·have := hk (l.length - 1) l[l.length - 1] (by simp)
      have := (lI.1 this).1
      omega
   rw [B1, Az (by simp only; omega)]
   simp only [A8, hv1, AT, zD, hi, hs, y7, oS, LF]
   obtain ⟨b, ea⟩ := NH N hN h20 hp hm hsm
   rw [show (Ab.mk m.fL m.fI m.fN) = m from rfl, ea]
   simp only [oS]
   have hxo := JV hp hm (HV hsm).2
   rw [HY N p _ hN h20 hp hxo]
   simp only [oS]
   rw [CQ hs, TC] at hfu ⊢
   cases hr : A6 p (A2 p m ss[k]).1
   ·rw [hr] at hfu
    rw [Ao, Ao, if_neg (by simp), Av (by rw [zO]; omega), AB (by omega)]
    rw [if_neg (by simp)] at hfu
    exact Lf hN h20 hp hm hmo hv1 ss hss hsl j n (k + 1) l (by omega) (by omega) hi hA hlm hfu
   ·rw [hr] at hfu
    rw [AO, if_pos rfl]
    rw [if_pos rfl] at hfu
    obtain ⟨r, er, hr2⟩ := S8 hN h20 hp hxo hl1 (fun n hn => (hA n hn).1)
    have er' : Ey N (l.map fun n => AI.mk n.1 n.2.1 n.2.2) (A2 p m ss[k]).1 = some r := er
    have em : (l.map fun n : Km => AI.mk n.1 n.2.1 n.2.2) = l.map LF := rfl
    rw [← em, er']
    simp only [oS]
    rw [hr2]
    have hput : Bfs.put i l (ss[k], (A2 p m ss[k]).1) = if (l.any fun n => decide (n.1 = (A2 p m ss[k]).1)) = true then l else l ++ [((A2 p m ss[k]).1, (i : Int), ss[k])] := rfl
    simp only [Bfs.inner] at hfu ⊢
    have hA2 : ∀ n, n ∈ Bfs.put i l (ss[k], (A2 p m ss[k]).1) → BV p n.1 ∧ A6 p n.1 = true := fun n hn => by
     rcases VT hn with h | h
     ·exact hA n h
     ·rw [h]; exact ⟨hxo, hr⟩
    have hi2 : (Bfs.put i l (ss[k], (A2 p m ss[k]).1))[i]? = some (m, f, t) := SX hi
    have main : (AN (decide ((most : Int) < (((Bfs.put i l (ss[k], (A2 p m ss[k]).1)).map LF).length : Int))) (some (([] : List AI), false)) (B1 N p (most : Int) v1 ss j n ((Bfs.put i l (ss[k], (A2 p m ss[k]).1)).map LF, (wI .i64 ((k : Int) + 1))))) =
      match (if most < (Bfs.put i l (ss[k], (A2 p m ss[k]).1)).length then none else Bfs.inner most i (Rc p m (ss.drop (k + 1))) (Bfs.put i l (ss[k], (A2 p m ss[k]).1))) with
      | none => some ([], false)
      | some l' => j (l'.map LF) := by
     by_cases hb : most < (Bfs.put i l (ss[k], (A2 p m ss[k]).1)).length
     ·rw [if_pos hb, Az (by rw [zO]; omega)]
     ·rw [if_neg hb] at hfu
      rw [if_neg hb, Av (by rw [zO]; omega), AB (by omega)]
      exact Lf hN h20 hp hm hmo hv1 ss hss hsl j n (k + 1) _ (by omega) (by omega) hi2 hA2 (by omega) (hfu.imp (fun h => ⟨by omega, h.2⟩) id)
    cases hin : (l.any fun n => decide (n.1 = (A2 p m ss[k]).1))
    ·rw [hin] at hput
     rw [yT, AO, Au (by simp [Dh]; omega)]
     rw [if_neg (by simp)] at hput
     rw [hput, xE] at main
     rw [hput]
     exact main
    ·rw [hin] at hput
     rw [yA, Ao]
     rw [if_pos rfl] at hput
     rw [hput] at main
     rw [hput]
     exact main
  ·have : k = ss.length := by omega
   subst this
   rw [B1, Av (by simp), zL (zN _)]
   rfl
theorem VC {p : Aa} {m : Ab} (hm : BV p m) (hr : A6 p m = true) : ∀ n, n ∈ ([(m, -1, NY)] : List Km) → BV p n.1 ∧ A6 p n.1 = true := fun n hn => by
 rw [yR.1 hn]; exact ⟨hm, hr⟩
theorem Mt {p : Aa} (hp : Bg p) (m : Ab) : (Fk p m).length ≤ 54 := xU (List.length_filter_le _ _) (VR hp)
theorem LY {N : Nat} (hN : N ≤ 1000000) (h20 : 100 ≤ N) {p : Aa} (hv : BB p = 0) {most : Nat} (hmo : most ≤ 20000) (j : List AI → Option (List AI × Bool)) :
  ∀ (n i : Nat) (l : List Km), i ≤ l.length → (∀ n, n ∈ l → BV p n.1 ∧ A6 p n.1 = true) → l.length ≤ most → (most < N ∧ most < n + i ∨ ∃ l', Bfs.go (Jl p) most n i l = some l' ∧ l'.length < N) →
   B2 N p (most : Int) j n (l.map LF, (i : Int)) = match Bfs.go (Jl p) most n i l with
    | none => some ([], false)
    | some l' => j (l'.map LF)
 | 0, i, l, hi, _, hlm, hfu => by
  rcases hfu with h | ⟨l', h, _⟩
  ·omega
  ·cases h
 | n + 1, i, l, hi, hA, hlm, hfu => by
  obtain ⟨hp, _⟩ := CM hv
  simp only [Bfs.go] at hfu ⊢
  rw [B2]
  by_cases h1 : i < l.length
  ·obtain ⟨⟨m, f, t⟩, hx⟩ := Bfs.get_ex h1
   have hm := (hA _ (lM hx)).1
   rw [hx] at hfu ⊢
   simp only at hfu ⊢
   rw [Az (by rw [zO]; omega)]
   simp only [AT, zD, hx, y7, oS, LF]
   rw [show (Ab.mk m.fL m.fI m.fN) = m from rfl, NC N hN h20 hv hm]
   simp only [oS]
   have hgo : Rc p m ((Fk p m).drop 0) = Jl p m := rfl
   have hsl := Mt hp m
   have e := Lf hN h20 hp hm hmo (v1 := (l.map LF, (i : Int))) rfl (Fk p m) (fun s hs => hs) (by omega) (fun (v7 : (List AI)) =>
    B2 N p (most : Int) j n (v7, (wI .i64 ((i : Int) + 1)))) N 0 l (zK _) (by omega) hx hA hlm (by
     rcases hfu with ⟨g1, g2⟩ | ⟨l', h, hl'⟩
     ·exact .inl ⟨by omega, g1⟩
     ·right
      rw [hgo]
      cases hin : Bfs.inner most i (Jl p m) l with
      | none => rw [hin] at h; cases h
      | some l1 =>
       rw [hin] at h
       refine ⟨l1, rfl, ?_⟩
       have : l1.length ≤ l'.length := by
        have : ∀ (n i : Nat) (l l' : List Km), Bfs.go (Jl p) most n i l = some l' → l.length ≤ l'.length := by
         intro n
         induction n with
         | zero => intro i l l' h; cases h
         | succ n ih =>
          intro i l l' h
          simp only [Bfs.go] at h
          split at h
          ·cases h; exact zN _
          ·rename_i nd _
           cases hin : Bfs.inner most i (Jl p nd.1) l with
           | none => rw [hin] at h; cases h
           | some l1 =>
            rw [hin] at h
            refine xU ?_ (ih _ _ _ h)
            have : ∀ (qs : List (Ae × Ab)) (l l1 : List Km), Bfs.inner most i qs l = some l1 → l.length ≤ l1.length := by
             intro qs
             induction qs with
             | nil => intro l l1 h; cases h; exact zN _
             | cons q qs ih =>
              intro l l1 h
              simp only [Bfs.inner] at h
              split at h
              ·cases h
              ·refine xU ?_ (ih _ _ h)
               unfold Bfs.put; split
               ·exact zN _
               ·simp
            exact this _ _ _ hin
        exact this _ _ _ _ h
       omega)
   have e' : B1 N p (most : Int) (l.map LF, (i : Int)) (Fk p m) (fun (v7 : (List AI)) => B2 N p (most : Int) j n (v7, (wI .i64 ((i : Int) + 1)))) N (l.map LF, 0) = _ := e
   rw [e', hgo]
   cases hin : Bfs.inner most i (Jl p m) l with
   | none => rfl
   | some l1 =>
    rw [hin] at hfu
    obtain ⟨k1, k2⟩ := Ln hin (fun q hq => Ve hp hm hq) hA
    have := (lI.1 (k2 _ _ hx)).1
    simp only [oS] at hfu ⊢
    rw [AB (by omega)]
    exact LY hN h20 hv hmo j n (i + 1) l1 (by omega) k1 (Bfs.inner_len _ _ _ hlm hin) (hfu.imp (fun h => ⟨h.1, by omega⟩) id)
  ·have hi' : i = l.length := by omega
   subst hi'
   rw [yV (zN _)]
   rw [Av (by simp)]
def Kk (p : Aa) (m : Ab) (most n : Nat) : Option (List Km) := Bfs.go (Jl p) most n 0 [(m, -1, NY)]
theorem Ss {N : Nat} (hN : N ≤ 1000000) (h20 : 100 ≤ N) {p : Aa} (hv : BB p = 0) {m : Ab} (hm : BV p m) (hr : A6 p m = true) {most : Nat} (hmo : most ≤ 20000) (h1 : 1 ≤ most) (hfu : most < N ∨ ∃ l', Kk p m most N = some l' ∧ l'.length < N) :
  Ek N p m (most : Int) = some (match Kk p m most N with
   | none => ([], false)
   | some l' => (l'.map LF, true)) := by
 unfold Ek
 have e := LY hN h20 hv hmo (fun (v2 : (List AI)) => some (v2, true)) N 0 [(m, -1, NY)] (zK _) (VC hm hr) h1 (hfu.imp (fun h => ⟨h, by omega⟩) id)
 have e' : B2 N p (most : Int) (fun (v2 : (List AI)) => some (v2, true)) N (([(AI.mk m ((-1)) ((Ae.mk 0 0 0)))] : List AI), 0) = _ := e
 rw [e']
 unfold Kk
 cases Bfs.go (Jl p) most N 0 [(m, -1, NY)] <;> rfl
structure bv (p : Aa) (m : Ab) (l : List Km) (ws : List (List Ae)) : Prop where
 inv : Bfs.Inv (Jl p) Nl 100 m l.length [] l ws
 ok : ∀ (k : Nat) x f s, l[k]? = some (x, f, s) → BV p x ∧ A6 p x = true
theorem XM {p : Aa} (hp : Bg p) {m : Ab} (hm : BV p m) (hr : A6 p m = true) {most n : Nat} {l : List Km} (h : Kk p m most n = some l) : ∃ ws, bv p m l ws := by
 obtain ⟨ws, h1, h2⟩ := Bfs.inv_go (rk := Nl) (K := 100) (fun x => BV p x ∧ A6 p x = true) (fun x _ => bt hp x) (fun x hx q hq => by
  refine ⟨?_, Ve hp hx.1 hq⟩
  exact (Pt hp (HV (Mo.1 hq).1).1).2) ⟨hm, hr⟩ n 0 [(m, -1, NY)] l [[]] (zK _) Bfs.inv_start (fun k x f s hk => by
   have := Bfs.lt_get hk
   simp at this; subst this
   cases hk; exact ⟨hm, hr⟩) h
 exact ⟨ws, h1, h2⟩
theorem YJ {p : Aa} (hp : Bg p) {m : Ab} {l : List Km} {ws : List (List Ae)} (h : bv p m l ws) {k : Nat} {x : Ab} {f : Int} {s : Ae} {w : List Ae} (hx : l[k]? = some (x, f, s)) (hw : ws[k]? = some w) : NM p m w = some x :=
 (N3 hp).2 (Bfs.way_run h.inv (k + 1) k (Nat.lt_succ_self k) hx hw)
theorem Q8 {p : Aa} (hp : Bg p) {m x : Ab} {l : List Km} {ws : List (List Ae)} (h : bv p m l ws) {w : List Ae} (hw : NM p m w = some x) : ∃ (k : Nat) (f : Int) (s : Ae) (u : List Ae), l[k]? = some (x, f, s) ∧ ws[k]? = some u ∧ Bfs.code Nl 100 u ≤ Bfs.code Nl 100 w :=
 Bfs.reach_node h.inv w.length rfl ((N3 hp).1 hw)
theorem Sa {p : Aa} {m : Ab} {l : List Km} {ws : List (List Ae)} (h : bv p m l ws) : ∀ (n k : Nat) {w : List Ae}, k < n → ws[k]? = some w → w.length ≤ k
 | 0, k, _, hk, _ => by omega
 | n + 1, k, w, hk, hw => by
  obtain ⟨⟨x, f, s⟩, hx⟩ := Bfs.get_ex (l := l) (k := k) (by rw [← h.inv.len]; exact Bfs.lt_get hw)
  rcases uS k with rfl | hk0
  ·rw [h.inv.root'] at hw; cases hw; exact zN _
  ·obtain ⟨j, y', g', t', w', e1, e2, e3, e4, e5, e6, e7⟩ := h.inv.par k _ _ _ hk0 hx
   rw [e6] at hw; cases hw
   have := Sa h n j (by omega) e5
   simp; omega
def LM (p : Aa) (l : List Km) : Option Nat := CU (fun i (n : Km) => if GQ p n.1 = true then some i else none) 0 l
theorem Rs {p : Aa} {l : List Km} {k : Nat} (h : LM p l = some k) : (∃ x f s, l[k]? = some (x, f, s) ∧ GQ p x = true) ∧ ∀ j x f s, j < k → l[j]? = some (x, f, s) → GQ p x = false := by
 have : ∀ (xs : List Km) (i k : Nat), CU (fun i (n : Km) => if GQ p n.1 = true then some i else none) i xs = some (i + k) → (∃ x f s, xs[k]? = some (x, f, s) ∧ GQ p x = true) ∧ ∀ j x f s, j < k → xs[j]? = some (x, f, s) → GQ p x = false := by
  intro xs
  induction xs with
  | nil => intro i k h; cases h
  | cons n xs ih =>
   intro i k h
   rw [FR] at h
   cases hg : GQ p n.1
   ·rw [hg] at h
    simp only [Bool.false_eq_true, if_false] at h
    cases k with
    | zero =>
     exfalso
     obtain ⟨j, x, _, hj⟩ := Dw h
     split at hj
     ·have := Option.some.inj hj; omega
     ·cases hj
    | succ k =>
     obtain ⟨⟨x, f, s, h1, h2⟩, h3⟩ := ih (i + 1) k (by rw [show i + 1 + k = i + (k + 1) from by omega]; exact h)
     refine ⟨⟨x, f, s, by simpa using h1, h2⟩, ?_⟩
     intro j x f s hj hx
     cases j with
     | zero => simp at hx; subst hx; exact hg
     | succ j => exact h3 j x f s (by omega) (by simpa using hx)
   ·rw [hg] at h
    simp only [if_true, Option.some.injEq] at h
    have : k = 0 := by omega
    subst this
    exact ⟨⟨n.1, n.2.1, n.2.2, rfl, hg⟩, fun j _ _ _ hj => by omega⟩
 exact this l 0 k (by rw [zC]; exact h)
theorem Wv {p : Aa} {l : List Km} (h : LM p l = none) {k : Nat} {x : Ab} {f : Int} {s : Ae} (hx : l[k]? = some (x, f, s)) : GQ p x = false := by
 have := Fg h k _ hx
 split at this
 ·cases this
 ·rename_i h; simpa using h
def Qh (p : Aa) (l : List Km) (ws : List (List Ae)) : List Ae × Int := match LM p l with
 | none => ([], 14)
 | some k => (ws.getD k [], 0)
def EH (n : AD) : Km := (n.fV, n.fO, n.fZ)
def J1 (x : Ab) : List (Ab × Int) → Option Int
 | [] => none
 | e :: r => if x = e.1 then some e.2 else J1 x r
def MD (q : List (Ab × Int)) : List (ByteArray × Int) := q.map fun e => (CZ (LS e.1), e.2)
theorem ZE {p : Aa} (hp : Bg p) {x y : Ab} (hx : BV p x) (hy : BV p y) : (CZ (LS x) == CZ (LS y)) = decide (x = y) := by
 by_cases h : x = y
 ·rw [decide_eq_true h, h, SQ]
 ·rw [decide_eq_false h]
  cases hb : CZ (LS x) == CZ (LS y)
  ·rfl
  ·exact absurd (YH hp hx hy hb) h
theorem P2 {p : Aa} (hp : Bg p) {x : Ab} (hx : BV p x) : ∀ {q : List (Ab × Int)}, (∀ e, e ∈ q → BV p e.1) → IT (CZ (LS x)) (MD q) = J1 x q
 | [], _ => rfl
 | e :: q, h => by
  have ih := P2 hp hx (q := q) fun e he => h e (xZ _ he)
  show (if (CZ (LS x) == CZ (LS e.1)) = true then some e.2 else IT (CZ (LS x)) (MD q)) = if x = e.1 then some e.2 else J1 x q
  rw [ZE hp hx (h e (by simp)), ih]
  by_cases h : x = e.1
  ·rw [decide_eq_true h, if_pos rfl, if_pos h]
  ·rw [decide_eq_false h, if_neg (by simp), if_neg h]
theorem Mf (x y : Ab) (r : Int) : ∀ q : List (Ab × Int), J1 x (q ++ [(y, r)]) = match J1 x q with
  | some v => some v
  | none => if x = y then some r else none
 | [] => rfl
 | e :: q => by
  simp only [uQ, J1]
  by_cases h : x = e.1
  ·rw [if_pos h, if_pos h]
  ·rw [if_neg h, if_neg h, Mf x y r q]
theorem Xr (q : List (Ab × Int)) (x : Ab) (r : Int) : MD (q ++ [(x, r)]) = MD q ++ [(CZ (LS x), r)] := by simp [MD]
structure Pd (p : Aa) (q : List (Ab × Int)) (l : List Km) : Prop where
 ok : ∀ e, e ∈ q → BV p e.1
 none : ∀ x, BV p x → J1 x q = none → ∀ n, n ∈ l → n.1 ≠ x
 some : ∀ x r, BV p x → J1 x q = some r → (r = -1 ∧ A6 p x = false) ∨ ∃ (j : Nat) (f : Int) (s : Ae), r = (j : Int) ∧ l[j]? = some (x, f, s)
structure Nf (p : Aa) (i : Nat) (done : List (Ae × Ab)) (pl : List AD) : Prop where
 to : ∀ (b : Nat) nd, pl[b]? = some nd → ∀ r, r ∈ nd.fI → ∃ s y, ((b < i ∧ (s, y) ∈ Jl p nd.fV) ∨ (b = i ∧ (s, y) ∈ done)) ∧ ∃ (a : Nat) (f : Int) (t : Ae), r = (a : Int) ∧ (pl.map EH)[a]? = some (y, f, t)
 of : ∀ (b : Nat) nd, pl[b]? = some nd → ∀ s y, ((b < i ∧ (s, y) ∈ Jl p nd.fV) ∨ (b = i ∧ (s, y) ∈ done)) → ∃ (a : Nat) (f : Int) (t : Ae), ((a : Nat) : Int) ∈ nd.fI ∧ (pl.map EH)[a]? = some (y, f, t)
def MF (pl : List AD) (i : Nat) (nd : AD) (r : Int) : List AD := if 0 ≤ r then pl.set i ⟨nd.fV, nd.fO, nd.fZ, nd.fI ++ [r]⟩ else pl
theorem NN {pl : List AD} {i : Nat} {nd : AD} {r : Int} (h : pl[i]? = some nd) : (MF pl i nd r).map EH = pl.map EH := by
 unfold MF
 split
 ·apply List.ext_getElem?
  intro k
  rw [zD, zD, xB]
  by_cases hk : i = k
  ·subst hk
   rw [if_pos rfl, if_pos (Bfs.lt_get h), h]; rfl
  ·rw [if_neg hk]
 ·rfl
theorem Mm {pl : List AD} {i : Nat} {nd : AD} {r : Int} (h : pl[i]? = some nd) {b : Nat} {nb : AD} (hb : (MF pl i nd r)[b]? = some nb) : (b ≠ i ∧ pl[b]? = some nb) ∨ (b = i ∧ nb.fV = nd.fV ∧ nb.fO = nd.fO ∧ nb.fZ = nd.fZ ∧ nb.fI = if 0 ≤ r then nd.fI ++ [r] else nd.fI) := by
 unfold MF at hb
 split at hb
 ·rename_i hr
  rw [xB] at hb
  by_cases hk : i = b
  ·subst hk
   rw [if_pos rfl, if_pos (Bfs.lt_get h)] at hb
   cases hb
   exact .inr ⟨rfl, rfl, rfl, rfl, by rw [if_pos hr]⟩
  ·rw [if_neg hk] at hb
   exact .inl ⟨fun e => hk e.symm, hb⟩
 ·rename_i hr
  by_cases hk : b = i
  ·subst hk; rw [h] at hb; cases hb
   exact .inr ⟨rfl, rfl, rfl, rfl, by rw [if_neg hr]⟩
  ·exact .inl ⟨hk, hb⟩
theorem Ue {p : Aa} {i : Nat} {done : List (Ae × Ab)} {pl pl2 : List AD} {nd : AD} {s : Ae} {x : Ab} {a : Nat} {f : Int} {t : Ae} (h : Nf p i done pl)
  (hkeep : ∀ (b : Nat) nb, pl2[b]? = some nb → pl[b]? = some nb ∨ (i < b ∧ nb.fI = [])) (hk2 : ∀ (b : Nat) n, (pl.map EH)[b]? = some n → (pl2.map EH)[b]? = some n) (hi : pl2[i]? = some nd) (ha : (pl2.map EH)[a]? = some (x, f, t)) : Nf p i (done ++ [(s, x)]) (MF pl2 i nd (a : Int)) := by
 constructor
 ·intro b nb hb r hr
  rw [NN hi]
  rcases Mm hi hb with ⟨h1, h2⟩ | ⟨h1, h2, h3, h4, h5⟩
  ·rcases hkeep b nb h2 with h3 | ⟨h3, h4⟩
   ·obtain ⟨s', y, g1, a', f', t', g2, g3⟩ := h.to b nb h3 r hr
    refine ⟨s', y, ?_, a', f', t', g2, hk2 _ _ g3⟩
    rcases g1 with g1 | g1
    ·exact .inl g1
    ·exact absurd g1.1 h1
   ·rw [h4] at hr; cases hr
  ·subst h1
   rw [h5, if_pos (Int.natCast_nonneg a)] at hr
   rcases yE.1 hr with hr | hr
   ·rcases hkeep b nd hi with h6 | ⟨h6, _⟩
    ·obtain ⟨s', y, g1, a', f', t', g2, g3⟩ := h.to b nd h6 r hr
     refine ⟨s', y, ?_, a', f', t', g2, hk2 _ _ g3⟩
     rcases g1 with g1 | g1
     ·exact .inl ⟨g1.1, by rw [h2]; exact g1.2⟩
     ·exact .inr ⟨rfl, xA _ g1.2⟩
    ·omega
   ·rw [yR.1 hr]
    exact ⟨s, x, .inr ⟨rfl, by simp⟩, a, f, t, rfl, ha⟩
 ·intro b nb hb s' y hs
  rw [NN hi]
  rcases Mm hi hb with ⟨h1, h2⟩ | ⟨h1, h2, h3, h4, h5⟩
  ·rcases hkeep b nb h2 with h3 | ⟨h3, h4⟩
   ·obtain ⟨a', f', t', g2, g3⟩ := h.of b nb h3 s' y (by
     rcases hs with hs | hs
     ·exact .inl hs
     ·exact absurd hs.1 h1)
    exact ⟨a', f', t', g2, hk2 _ _ g3⟩
   ·rcases hs with hs | hs <;> omega
  ·subst h1
   rw [h5, if_pos (Int.natCast_nonneg a)]
   rcases hkeep b nd hi with h6 | ⟨h6, _⟩
   ·rcases hs with hs | ⟨_, hs⟩
    ·omega
    ·rcases yE.1 hs with hs | hs
     ·obtain ⟨a', f', t', g2, g3⟩ := h.of b nd h6 s' y (.inr ⟨rfl, hs⟩)
      exact ⟨a', f', t', xA _ g2, hk2 _ _ g3⟩
     ·cases yR.1 hs
      exact ⟨a, f, t, by simp, ha⟩
   ·omega
theorem HN {N : Nat} (hN : N ≤ 1000000) (h20 : 100 ≤ N) {p : Aa} (hv : BB p = 0) {m : Ab} (hm : BV p m) {most i : Nat} (hmo : most ≤ 20000) {v2 : List AD × List (ByteArray × Int) × Int} (hv2 : v2.2.2 = (i : Int)) (ss : List Ae) (e0 : Int) (hss : ∀ s, s ∈ ss → s ∈ Fk p m) (hsl : ss.length ≤ 1000) (j : List AD × List (ByteArray × Int) → Option (List AD × Int)) :
  ∀ (n k : Nat) (pl : List AD) (q : List (Ab × Int)) (l' : List Km), k ≤ ss.length → ss.length - k < n → (∃ nd, pl[i]? = some nd ∧ nd.fV = m) → (∀ n, n ∈ pl.map EH → BV p n.1 ∧ A6 p n.1 = true) → pl.length ≤ most → Pd p q (pl.map EH) → Nf p i (Rc p m (ss.take k)) pl →
   (∃ nd, pl[i]? = some nd ∧ nd.fI.length ≤ k) → Bfs.inner most i (Rc p m (ss.drop k)) (pl.map EH) = some l' →
   ∃ pl' q', Cy N p v2 (ss, e0) j n (pl, MD q, (k : Int)) = j (pl', MD q') ∧ pl'.map EH = l' ∧ Pd p q' l' ∧ Nf p i (Rc p m ss) pl' ∧ (∀ (b : Nat) nb, pl'[b]? = some nb → b ≠ i → pl[b]? = some nb ∨ nb.fI = [])
 | 0, k, pl, q, l', _, h, _, _, _, _, _, _, _ => by omega
 | n + 1, k, pl, q, l', hk, h, hi, hA, hlm, hpl, hnx, hfl, hin => by
  obtain ⟨hp, _⟩ := CM hv
  obtain ⟨nd, hnd, hndm⟩ := hi
  obtain ⟨nd', hnd', hfl⟩ := hfl
  rw [hnd] at hnd'; cases hnd'
  by_cases h1 : k < ss.length
  ·have hs : ss[k]? = some ss[k] := by simp [h1]
   have hsm := hss _ (lM hs)
   have hstep := (HV hsm).2
   have hxo := JV hp hm hstep
   have hil := Bfs.lt_get hnd
   rw [Cy, Az (by simp only; omega)]
   simp only [A8, hv2, AT, hnd, hs, oS]
   rw [show (Ab.mk nd.fV.fL nd.fV.fI nd.fV.fN) = m from hndm, MP N hN h20 (K2 hm), if_pos (Iw hv hm)]
   simp only [oS]
   rw [hstep, bne_self_eq_false, Ao, XK N hN h20 hp hxo]
   simp only [oS]
   rw [P2 hp hxo hpl.ok]
   have htk : ss.take (k + 1) = ss.take k ++ [ss[k]] := by rw [yU, hs]; rfl
   have hgo : Rc p m (ss.take (k + 1)) = if A6 p (A2 p m ss[k]).1 = true then Rc p m (ss.take k) ++ [(ss[k], (A2 p m ss[k]).1)] else Rc p m (ss.take k) := by
    rw [htk]; unfold Rc; rw [List.filterMap_append]
    cases hr : A6 p (A2 p m ss[k]).1 <;> simp [hr]
   rw [CQ hs, TC] at hin
   -- what follows when the node's number is known
   have tail : ∀ (pl2 : List AD) (q2 : List (Ab × Int)) (r : Int) (nd2 : AD), pl2[i]? = some nd2 → nd2.fV = m → nd2.fI.length ≤ k → pl2.length ≤ most →
     AN (decide (0 ≤ r)) ((Bl pl2 (i : Int)).bind fun v26 => (D3 (v26.fI.length + (([r] : List Int)).length ≤ Dh)).bind fun _ => (Bl pl2 (i : Int)).bind fun v28 =>
      AN (decide ((20000 : Int) < ((pl2.set ((i : Int)).toNat (AD.mk (Ab.mk v28.fV.fL v28.fV.fI v28.fV.fN) v28.fO (Ae.mk v28.fZ.fP v28.fZ.fR v28.fZ.fW) (v26.fI ++ ([r] : List Int)))).length : Int))) (some (([] : List AD), 3))
       (Cy N p v2 (ss, e0) j n (pl2.set ((i : Int)).toNat (AD.mk (Ab.mk v28.fV.fL v28.fV.fI v28.fV.fN) v28.fO (Ae.mk v28.fZ.fP v28.fZ.fR v28.fZ.fW) (v26.fI ++ ([r] : List Int))), MD q2, (wI .i64 ((k : Int) + 1)))))
      (AN (decide ((20000 : Int) < (pl2.length : Int))) (some (([] : List AD), 3)) (Cy N p v2 (ss, e0) j n (pl2, MD q2, (wI .i64 ((k : Int) + 1))))) =
     Cy N p v2 (ss, e0) j n (MF pl2 i nd2 r, MD q2, ((k + 1 : Nat) : Int)) := by
    intro pl2 q2 r nd2 h2 h3 h4 h5
    by_cases hr : 0 ≤ r
    ·rw [Az hr]
     simp only [AT, h2, oS, zT]
     rw [Au (by simp [Dh]; omega), Av (by rw [xY]; omega), AB (by omega)]
     unfold MF; rw [if_pos hr]
    ·rw [Av hr, Av (by omega), AB (by omega)]
     unfold MF; rw [if_neg hr]
   cases hlq : J1 (A2 p m ss[k]).1 q with
   | some r =>
    simp only [Option.isSome_some, yA, Ao, yF]
    have ht := tail pl q r nd hnd hndm hfl hlm
    simp only [AT, hnd, oS] at ht
    rw [show (Ab.mk nd.fV.fL nd.fV.fI nd.fV.fN) = m from hndm] at ht
    rw [ht]
    rcases hpl.some _ _ hxo hlq with ⟨hr, hnr⟩ | ⟨a, f, t, hr, ha⟩
    ·subst hr
     rw [hnr, if_neg (by simp)] at hin
     rw [hnr, if_neg (by simp)] at hgo
     have hadd : MF pl i nd (-1) = pl := by unfold MF; rw [if_neg (by decide)]
     rw [hadd]
     exact HN hN h20 hv hm hmo hv2 ss e0 hss hsl j n (k + 1) pl q l' (by omega) (by omega) ⟨nd, hnd, hndm⟩ hA hlm hpl (by rw [hgo]; exact hnx) ⟨nd, hnd, by omega⟩ hin
    ·subst hr
     have hrob : A6 p (A2 p m ss[k]).1 = true := (hA _ (lM ha)).2
     rw [hrob, if_pos rfl] at hin hgo
     have hput : Bfs.put i (pl.map EH) (ss[k], (A2 p m ss[k]).1) = pl.map EH := by
      unfold Bfs.put
      rw [if_pos]
      exact xF.2 ⟨_, lM ha, decide_eq_true rfl⟩
     simp only [Bfs.inner] at hin
     rw [hput, if_neg (by rw [zO]; omega)] at hin
     have hpr := NN (r := (a : Int)) hnd
     have hnx2 := Ue (s := ss[k]) hnx (pl2 := pl) (fun b nb hb => .inl hb) (fun b n hb => hb) hnd ha
     obtain ⟨nd3, hnd3⟩ := Bfs.get_ex (l := MF pl i nd (a : Int)) (k := i) (by
      have := congrArg xK hpr; simp only [zO] at this; omega)
     obtain ⟨g1, g2⟩ | ⟨_, g2, g3, g4, g5⟩ := Mm hnd hnd3
     ·exact absurd rfl g1
     obtain ⟨pl', q', r1, r2, r3, r4, r5⟩ := HN hN h20 hv hm hmo hv2 ss e0 hss hsl j n (k + 1) (MF pl i nd (a : Int)) q l' (by omega) (by omega) ⟨nd3, hnd3, by rw [g2]; exact hndm⟩ (by rw [hpr]; exact hA) (by have := congrArg xK hpr; simp only [zO] at this; omega)  (by rw [hpr]; exact hpl) (by rw [hgo]; exact hnx2) ⟨nd3, hnd3, by rw [g5]; split <;> (try simp only [zY, yB]) <;> omega⟩ (by rw [hpr]; exact hin)
     refine ⟨pl', q', r1, r2, r3, r4, ?_⟩
     intro b nb hb hbi
     rcases r5 b nb hb hbi with h2 | h2
     ·rcases Mm hnd h2 with ⟨_, h3⟩ | ⟨h3, _⟩
      ·exact .inl h3
      ·exact absurd h3 hbi
     ·exact .inr h2
   | none =>
    simp only [Option.isSome_none, yT, AO]
    rw [GY N p _ hN h20 (K2 hxo) (Iw hv hxo)]
    simp only [oS, bne_self_eq_false, Ao]
    have hms : ∀ r, Nc (CZ (LS (A2 p m ss[k]).1)) r (MD q) = MD (q ++ [((A2 p m ss[k]).1, r)]) := fun r => by
     rw [Xr]; exact Mp _ _ (by rw [P2 hp hxo hpl.ok, hlq])
    have hok2 : ∀ r e, e ∈ q ++ [((A2 p m ss[k]).1, r)] → BV p e.1 := fun r e he => by
     rcases yE.1 he with he | he
     ·exact hpl.ok e he
     ·rw [yR.1 he]; exact hxo
    cases hrob : A6 p (A2 p m ss[k]).1
    ·rw [yT, AO]
     rw [hrob, if_neg (by simp)] at hin hgo
     rw [hms]
     have ht := tail pl (q ++ [((A2 p m ss[k]).1, -1)]) (-1) nd hnd hndm hfl hlm
     simp only [AT, hnd, oS] at ht
     rw [show (Ab.mk nd.fV.fL nd.fV.fI nd.fV.fN) = m from hndm] at ht
     rw [ht]
     have hadd : MF pl i nd (-1) = pl := by unfold MF; rw [if_neg (by decide)]
     rw [hadd]
     refine HN hN h20 hv hm hmo hv2 ss e0 hss hsl j n (k + 1) pl _ l' (by omega) (by omega) ⟨nd, hnd, hndm⟩ hA hlm ⟨hok2 (-1), ?_, ?_⟩ (by rw [hgo]; exact hnx) ⟨nd, hnd, by omega⟩ hin
     ·intro x hx hq
      rw [Mf] at hq
      cases hq2 : J1 x q with
      | none => exact hpl.none x hx hq2
      | some v => rw [hq2] at hq; cases hq
     ·intro x r hx hq
      rw [Mf] at hq
      cases hq2 : J1 x q with
      | none =>
       rw [hq2] at hq
       simp only at hq
       split at hq
       ·rename_i he
        cases hq; left; exact ⟨rfl, by rw [he]; exact hrob⟩
       ·cases hq
      | some v => rw [hq2] at hq; cases hq; exact hpl.some x _ hx hq2
    ·rw [yA, Ao]
     rw [hrob, if_pos rfl] at hin hgo
     rw [hms]
     have hnew : ((pl.map EH).any fun n => decide (n.1 = (A2 p m ss[k]).1)) = false := by
      rw [vJ]
      intro n hn
      simpa using hpl.none _ hxo hlq n hn
     have hput : Bfs.put i (pl.map EH) (ss[k], (A2 p m ss[k]).1) = (pl ++ [AD.mk (A2 p m ss[k]).1 (i : Int) ss[k] []]).map EH := by
      unfold Bfs.put
      rw [hnew, if_neg (by simp), xE]; rfl
     simp only [Bfs.inner] at hin
     rw [hput] at hin
     split at hin
     ·cases hin
     rename_i hmm
     rw [zO, zY, yB] at hmm
     rw [Au (by simp [Dh]; omega)]
     have hnd2 : (pl ++ [AD.mk (A2 p m ss[k]).1 (i : Int) ss[k] []])[i]? = some nd := Bfs.get_app_of hnd
     have ht := tail (pl ++ [AD.mk (A2 p m ss[k]).1 (i : Int) ss[k] []]) (q ++ [((A2 p m ss[k]).1, (pl.length : Int))]) (pl.length : Int) nd hnd2 hndm hfl (by rw [zY, yB]; omega)
     simp only [AT] at ht
     rw [ht]
     have hpr := NN (r := (pl.length : Int)) hnd2
     have hlast : ((pl ++ [AD.mk (A2 p m ss[k]).1 (i : Int) ss[k] []]).map EH)[pl.length]? = some ((A2 p m ss[k]).1, (i : Int), ss[k]) := by
      rw [zD, Bfs.get_app_new]; rfl
     have hold : ∀ (b : Nat) n, (pl.map EH)[b]? = some n → ((pl ++ [AD.mk (A2 p m ss[k]).1 (i : Int) ss[k] []]).map EH)[b]? = some n := fun b n hb => by
      rw [xE]; exact Bfs.get_app_of hb
     have hkeep : ∀ (b : Nat) nb, (pl ++ [AD.mk (A2 p m ss[k]).1 (i : Int) ss[k] []])[b]? = some nb → pl[b]? = some nb ∨ (i < b ∧ nb.fI = []) := fun b nb hb => by
      rcases Bfs.get_app hb with h2 | ⟨h2, h3⟩
      ·exact .inl h2
      ·exact .inr ⟨by omega, by rw [h3]⟩
     have hnx2 := Ue (s := ss[k]) hnx hkeep hold hnd2 hlast
     have hpl2 : Pd p (q ++ [((A2 p m ss[k]).1, (pl.length : Int))]) ((pl ++ [AD.mk (A2 p m ss[k]).1 (i : Int) ss[k] []]).map EH) := by
      refine ⟨hok2 _, ?_, ?_⟩
      ·intro x hx hq n hn
       rw [Mf] at hq
       cases hq2 : J1 x q with
       | none =>
        rw [hq2] at hq
        simp only at hq
        split at hq
        ·cases hq
        ·rename_i hne
         rw [xE] at hn
         rcases yE.1 hn with hn | hn
         ·exact hpl.none x hx hq2 n hn
         ·simp at hn; subst hn
          exact fun e => hne e.symm
       | some v => rw [hq2] at hq; cases hq
      ·intro x r hx hq
       rw [Mf] at hq
       cases hq2 : J1 x q with
       | none =>
        rw [hq2] at hq
        simp only at hq
        split at hq
        ·rename_i he
         cases hq
         exact .inr ⟨pl.length, _, _, rfl, by rw [he]; exact hlast⟩
        ·cases hq
       | some v =>
        rw [hq2] at hq; cases hq
        rcases hpl.some x _ hx hq2 with g | ⟨a, f, t, g1, g2⟩
        ·exact .inl g
        ·exact .inr ⟨a, f, t, g1, hold _ _ g2⟩
     obtain ⟨nd3, hnd3⟩ := Bfs.get_ex (l := MF (pl ++ [AD.mk (A2 p m ss[k]).1 (i : Int) ss[k] []]) i nd (pl.length : Int)) (k := i) (by
      have := congrArg xK hpr; simp only [zO, zY, yB] at this; omega)
     obtain ⟨g1, g2⟩ | ⟨_, g2, g3, g4, g5⟩ := Mm hnd2 hnd3
     ·exact absurd rfl g1
     obtain ⟨pl', q', r1, r2, r3, r4, r5⟩ := HN hN h20 hv hm hmo hv2 ss e0 hss hsl j n (k + 1) (MF (pl ++ [AD.mk (A2 p m ss[k]).1 (i : Int) ss[k] []]) i nd (pl.length : Int)) _ l' (by omega) (by omega) ⟨nd3, hnd3, by rw [g2]; exact hndm⟩ (by
       rw [hpr]
       intro n hn
       rw [xE] at hn
       rcases yE.1 hn with hn | hn
       ·exact hA n hn
       ·simp at hn; subst hn; exact ⟨hxo, hrob⟩) (by have := congrArg xK hpr; simp only [zO, zY, yB] at this; omega)  (by rw [hpr]; exact hpl2) (by rw [hgo]; exact hnx2) ⟨nd3, hnd3, by rw [g5]; split <;> (try simp only [zY, yB]) <;> omega⟩ (by rw [hpr]; exact hin)
     refine ⟨pl', q', r1, r2, r3, r4, ?_⟩
     intro b nb hb hbi
     rcases r5 b nb hb hbi with h2 | h2
     ·rcases Mm hnd2 h2 with ⟨_, h3⟩ | ⟨h3, _⟩
      ·rcases hkeep b nb h3 with h4 | ⟨_, h4⟩
       ·exact .inl h4
       ·exact .inr h4
      ·exact absurd h3 hbi
     ·exact .inr h2
  ·have : k = ss.length := by omega
   subst this
   rw [zL (zN _)] at hin
   have hin : some (pl.map EH) = some l' := hin
   cases hin
   rw [uG] at hnx
   rw [Cy, Av (by simp)]
   exact ⟨pl, q, rfl, rfl, hpl, hnx, fun b nb hb _ => .inl hb⟩
end Go.Lift
