/- Lemmas for RefuseCheckSaid, which YtpaobkaighpaaaaGreatFinR9 proves. -/
import Derived.Test.YtpaobkaighpaaaaGreatLift51
import Derived.Test.YtpaobkaighpaaaaGreatProg
import Derived.KernelRfl
open Array renaming length_toList → zC8, size_append → zB7, size_setIfInBounds → zH6
open Bool renaming and_eq_true → uV
open Int renaming eq_ofNat_of_zero_le → uZ, tmod → vF, toNat_natCast → vJ
open List renaming length_cons → vV, length_map → vT, length_nil → zE0, map_append → zE9, replicate → uY, take_length → zH0
open Nat renaming add_assoc → zC9, add_mul → vU, add_sub_cancel_left → zB5, add_zero → zB6, le_refl → vN, lt_irrefl → zE2, min → zB4, mul_le_mul_right → uU, succ_mul → vZ, zero_add → uT
open Go.Proofs.Tryz renaming prog → uS
namespace Go.Lift
open Go.RowKit
variable {P : Program}
theorem Md {w w' : World} {G : Gh} {β cap e : Nat} {arr : Array Value} {el : TypeId} {rows : List (List T)} (hat : w'.heap[β]? = some (.cells arr el (0, 0))) (hc : rows.length ≤ cap) (hs : arr.size = cap * e) (hr : Ba w' G.S arr e 0 rows) (hb : (w.heap.size ≤ β ∨ G.has 90900 β) ∧ β < w'.heap.size ∧ ¬ G.S β) (hbel : C9 (fun β => G.has 90900 β) w.heap.size w w') :
  ∃ v G', (Ending.returned (.slice (some ⟨β, 0, none⟩) rows.length cap) : Ending) = .returned v ∧ C9 (fun β => G.has 90900 β) w.heap.size w w' ∧ (∀ β, G.S β → G'.S β) ∧ (∀ β, G'.S β → G.S β ∨ (w.heap.size ≤ β ∧ β < w'.heap.size)) ∧ HE P w' G' v (.e (.one (.own 0))) ∧
   (∀ (k : Nat) (x : BP), [BP.vec e rows][k]? = some x → Fg P w' G' k x) ∧
   (∀ k β, k < [BP.vec e rows].length → G'.has k β → (w.heap.size ≤ β ∨ G.has 90900 β) ∧ β < w'.heap.size ∧ ¬ G'.S β) ∧
   (∀ k l β, k < [BP.vec e rows].length → l < [BP.vec e rows].length → G'.has k β → G'.has l β → k = l) := by
 refine ⟨.slice (some ⟨β, 0, none⟩) rows.length cap, { S := G.S, loc := fun k => if k = 0 then some β else none, hd := fun k => if k = 0 then .slice (some ⟨β, 0, none⟩) rows.length cap else undef, more := fun _ _ => False }, rfl, hbel, fun _ h => h, fun _ h => .inl h, ?_, ?_, ?_, ?_⟩
 ·exact ⟨rfl, _, _, _, rfl⟩
 ·intro k x hk
  match k, hk with
  | 0, hk =>
   cases hk
   exact .inr ⟨β, cap, arr, el, rfl, rfl, hat, hc, hs, hr.2.1, fun i row j t hi hj => by have := hr.2.2 i row j t hi hj; rwa [uT] at this⟩
  | k + 1, hk => simp at hk
 ·intro k γ hk h
  have hk0 : k = 0 := by simpa using hk
  subst hk0
  rcases h with h | h
  ·have : β = γ := Option.some.inj h
   rw [← this]; exact hb
  ·exact h.elim
 ·intro k l γ hk hl _ _
  have hk0 : k = 0 := by simpa using hk
  have hl0 : l = 0 := by simpa using hl
  rw [hk0, hl0]
theorem Ix {w : World} {S : Nat → Prop} {β off len cap e n : Nat} {arr : Array Value} {el : TypeId} {fz : Nat × Nat} {rows : List (List T)} (hn : rows.length = n) (hb : w.heap[β]? = some (.cells arr el fz)) (h : Ba w S arr e off rows) :
  ∃ news, (∀ (w' : World) (len' cap' : Nat), w'.heap[β]? = w.heap[β]? → (Builtin.firstCells e n (.slice (some ⟨β, off, none⟩) len' cap')).run P w' = .ok news w') ∧ Ba w S news e 0 rows ∧ news.size = n * e := by
 subst hn
 obtain ⟨h1, h2, h3⟩ := h
 refine ⟨_, fun w' _ _ hw' => Hj (by rw [hw']; exact hb) h1, ⟨by simp, h2, fun i row j t hi hj => ?_⟩, by simp⟩
 have hj' := AK hj
 have hi' := AK hi
 have := h2 i row hi
 have hle : i * e + e ≤ rows.length * e := by rw [← vZ]; exact uU e hi'
 rw [uT, H1 (by omega), ← zC9]
 exact h3 i row j t hi hj
theorem U3 {f ov tS ti tR el e bytes : Nat} {z : Value} (ht : sliceB P tS el = true) (hti : P.underlying ti = some (.int .i64)) (he : Hl P el e = true) (hby : Fs P el bytes = true) (hbs : bytes ≤ 4096) (hz : EN P el = some z) (hzs : z.cells.size = e) (hep : 0 < e)
  (hov : ∀ (w : World) (x y : Value), (Extern.SlicesOverlaps.overlaps #[tS, tS] #[tR] #[x, y]).run P w = .ok (.bool false) w → (callFunc ov #[x, y]).run P w = .ok (.value (.bool false)) w)
  (W1 : ∀ (a : Option Addr) (n c : Nat) (p : Option Addr) (vc : Nat) (w : World) (r : Value) (w1 : World), (a = none → c = 0) → n ≤ c → (∀ ty, (Builtin.append_ #[tS, tS] ty #[.slice a n c, .slice p 1 vc]).run P w = .ok r w1) → Calls P f #[.slice a n c, .int .i64 (n : Int), .slice p 1 vc] w fun e w' => e = .returned r ∧ w' = w1)
  (W2 : ∀ (b i n c C B : Nat) (p : Option Addr) (vc : Nat) (w w1 w2 w3 : World) (r1 r2 : Value), i < n → n ≤ 4294967296 → n ≤ c → c < n + 1 → n + 1 ≤ C →
   (∀ ty, (Builtin.append_ #[tS, ti] ty #[.slice (some ⟨b, 0, none⟩) i c, .int .i64 ((n : Int) + 1 - (i : Int))]).run P w = .ok (.slice (some ⟨B, 0, none⟩) (n + 1) C) w1) →
   (∀ ty dc, (Builtin.copy_ #[tS, tS] ty #[.slice (some ⟨B, i * e, none⟩) (n + 1 - i) dc, .slice p 1 vc]).run P w1 = .ok r1 w2) →
   (∀ ty dc sc, (Builtin.copy_ #[tS, tS] ty #[.slice (some ⟨B, (i + 1) * e, none⟩) (n + 1 - (i + 1)) dc, .slice (some ⟨b, i * e, none⟩) (n - i) sc]).run P w2.drew = .ok r2 w3) →
   Calls P f #[.slice (some ⟨b, 0, none⟩) n c, .int .i64 (i : Int), .slice p 1 vc] w fun e w' => e = .returned (.slice (some ⟨B, 0, none⟩) (n + 1) C) ∧ w' = w3)
  (W3 : ∀ (b i n c : Nat) (p : Option Addr) (vc : Nat) (w w1 w2 : World) (r1 r2 : Value), i < n → n ≤ 4294967296 → n + 1 ≤ c →
   (∀ lb cb, (callFunc ov #[.slice p 1 vc, .slice (some ⟨b, (i + 1) * e, none⟩) lb cb]).run P w = .ok (.value (.bool false)) w) →
   (∀ ty dc sc, (Builtin.copy_ #[tS, tS] ty #[.slice (some ⟨b, (i + 1) * e, none⟩) (n + 1 - (i + 1)) dc, .slice (some ⟨b, i * e, none⟩) (n + 1 - i) sc]).run P w.drew = .ok r1 w1) →
   (∀ ty dc, (Builtin.copy_ #[tS, tS] ty #[.slice (some ⟨b, i * e, none⟩) (n + 1 - i) dc, .slice p 1 vc]).run P w1 = .ok r2 w2) →
   Calls P f #[.slice (some ⟨b, 0, none⟩) n c, .int .i64 (i : Int), .slice p 1 vc] w fun e w' => e = .returned (.slice (some ⟨b, 0, none⟩) (n + 1) c) ∧ w' = w2)
  {rows : List (List T)} {x : List T} {i : Nat} (hx : x.length = e) (hi : i ≤ rows.length) (hlim : rows.length + 1 ≤ DC) :
  J1 P f [.e (.one (.own 90900)), .e (.one (.pure (.val (.int .i64 (i : Int))))), .e (.one (.pure (.sl [x])))] (.vec e rows) [.vec e (rows.take i ++ ([x] ++ rows.drop i))] (.e (.one (.own 0))) := by
 intro w G vs hS hgk hblk hla hlen hrd
 have hlim' : (DC : Int) = 4294967296 := by simp [DC]
 obtain ⟨v0, s0, s1, s2⟩ : Au vs 0 = G.hd 90900 ∧ ∃ a l c, Au vs 0 = .slice a l c := hrd 0 _ rfl
 have hv1 : Au vs 1 = .int .i64 (i : Int) := EJ (hrd 1 _ rfl : D3 w G.S (Au vs 1) (.val _))
 have h2 : D3 w G.S (Au vs 2) (.sl [x]) := hrd 2 _ rfl
 have hvs : vs = #[Au vs 0, Au vs 1, Au vs 2] := by
  have h3 : vs.size = 3 := hlen
  apply Array.ext (by simp [h3])
  intro j h1 _
  have : j = 0 ∨ j = 1 ∨ j = 2 := by omega
  rcases this with rfl | rfl | rfl <;> simp [Au, h1]
 rw [hvs, hv1, v0]
 clear hvs hv1 v0
 generalize Au vs 2 = v2 at h2
 cases h2 with
 | sl γ off cap2 e2 arr2 el2 fz rows2 k1 k2 k3 k4 k5 k6 =>
  have he2 : e2 = e := by rw [← hx]; exact (k5 0 x rfl).symm
  subst he2
  obtain ⟨news, qB, q2, q3⟩ := Ix (P := P) (S := G.S) (len := 1) (cap := cap2) (n := 1) (rows := [x]) rfl k2 ⟨k4, k5, k6⟩
  have q1 : ∀ w' : World, w'.heap = w.heap → (Builtin.firstCells e2 1 (.slice (some ⟨γ, off, none⟩) 1 cap2)).run P w' = .ok news w' := fun w' hw' => qB w' 1 cap2 (by rw [hw'])
  have q3 : news.size = ([x] : List (List T)).length * e2 := q3
  have hn1 : news.toList.length = e2 := by rw [zC8, q3]; simp
  have ht1 : (rows.take i).length = i := by rw [List.length_take]; omega
  have hd1 : (rows.drop i).length = rows.length - i := List.length_drop
  have hrl : (rows.take i ++ ([x] ++ rows.drop i)).length = rows.length + 1 := by simp; omega
  have hγlt : γ < w.heap.size := hS γ k1
  have fresh : ∀ (o : Obj), (w.drew.alloc o).heap[w.heap.size]? = some o ∧ (∀ β, β < w.heap.size → (w.drew.alloc o).heap[β]? = w.heap[β]?) ∧ (w.drew.alloc o).heap.size = w.heap.size + 1 := fun o =>
   ⟨by rw [En, GO, if_pos rfl], fun β hβ => by rw [En, if_neg (by rw [GO]; omega)]; rfl, by show (w.heap.push _).size = _; simp⟩
  have belA : ∀ (o : Obj), C9 (fun β => G.has 90900 β) w.heap.size w (w.drew.alloc o) := fun o => ((C9.refl _ _ w).drew).alloc (by rw [GO]; exact vN _) o
  have hmul1 : ([x] : List (List T)).length * e2 = e2 := by simp
  have hmulT : (rows.take i).length * e2 = i * e2 := by rw [ht1]
  by_cases hend : i = rows.length
  · -- at the end
   have hdr : rows.drop i = [] := by rw [hend, List.drop_length]
   have hii : ((i : Nat) : Int) = (rows.length : Int) := by rw [hend]
   have htk : rows.take i = rows := by rw [hend, zH0]
   have hde : ∀ (w' : World), Ba w' G.S #[] e2 0 (rows.drop i) := fun w' => by
    rw [hdr]
    exact ⟨by simp, fun i row h => by simp at h, fun i row j t h => by simp at h⟩
   rcases hblk with ⟨a, h1, hr0, _⟩ | ⟨β, cap, arr, el', hl0, h1, g2, g3, g4, g5, g6⟩
   ·subst hr0
    rw [h1]
    obtain ⟨olds, o1, o2, o3⟩ := Fx (P := P) (w := w) (a := a) (len := 0) (cap := 0) (e := e2) (S := G.S)
    rcases Hs (P := P) (ty := 0) (a := a) (n := 0) (cap := 0) ht ht he hby hbs hz hzs rfl o1 q1 (by simpa using hlim) (vN _) with ⟨hfit, _⟩ | ⟨hfit, c, rest, hc1, hrun, hrest⟩
    ·simp at hfit
    ·have hi0 : i = 0 := hend
     subst hi0
     refine (W1 a 0 0 _ _ w _ _ (fun _ => rfl) (vN _) (fun ty => hrun)).mono ?_
     rintro e w' ⟨rfl, rfl⟩
     obtain ⟨f1, f2, f3⟩ := fresh (.cells (olds ++ news ++ rest) el)
     have hmono : ∀ {r : List (List T)} {a' : Array Value}, Ba w G.S a' e2 0 r → Ba (w.drew.alloc (.cells (olds ++ news ++ rest) el)) G.S a' e2 0 r := fun h => h.mono fun γ hγ => f2 γ (hS γ hγ)
     have hro : Ba (w.drew.alloc (.cells (olds ++ news ++ rest) el)) G.S (olds ++ news ++ rest) e2 0 (([] : List (List T)).take 0 ++ ([x] ++ ([] : List (List T)).drop 0)) := by
      refine Ba.three (hmono o2) (hmono q2) (hde _) q3 ?_ (fun j hj => by simp at hj) (fun j hj => ?_) (fun j hj => by simp at hj)
      ·simp only [zB7, o3, q3]
       simp
      ·simp only [List.take_nil, zE0, Nat.zero_mul, uT]
       rw [Bi (by simp [o3, q3]; simpa using hj), Es (by omega), o3, Nat.sub_zero]
     have := Md (P := P) (w := w) (cap := c) f1 (by simpa using hc1) (by simp only [zB7, o3, q3, hrest]; rw [uT, ← vU]; congr 1; simp at hc1 ⊢; omega) hro ⟨.inl (vN _), by omega, fun q => zE2 _ (hS _ q)⟩ (belA _)
     exact this
   ·rw [h1]
    have hrow : Ba w G.S arr e2 0 rows := ⟨by rw [g4, uT]; exact uU e2 g3, g5, fun i row j t hi hj => by rw [uT]; exact g6 i row j t hi hj⟩
    obtain ⟨hβlt, hβS⟩ := hla β (.inl hl0)
    obtain ⟨olds, o1, o2, o3⟩ := F0 (P := P) (len := rows.length) (cap := cap) g2 hrow
    rcases Hs (P := P) (ty := 0) (a := some ⟨β, 0, none⟩) (n := rows.length) (cap := cap) ht ht he hby hbs hz hzs rfl o1 q1 hlim g3 with ⟨hfit, hrun⟩ | ⟨hfit, c, rest, hc1, hrun, hrest⟩
    ·have hle : rows.length * e2 + e2 ≤ arr.size := by rw [g4, ← vZ]; exact uU e2 hfit
     have hst := Dz (P := P) (β := β) (el := el') news.toList w (rows.length * e2) 0 arr g2 (by rw [hn1]; omega) (Ba.ones q2 q3)
     rw [zB6] at hst
     have hrun2 := hrun _ (fun p hp => by cases hp; rw [Addr.add_mk, uT]; exact hst) (fun h => by cases h)
     rw [hii]
     refine (W1 (some ⟨β, 0, none⟩) rows.length cap _ _ w _ _ (fun q => by cases q) g3 (fun ty => hrun2)).mono ?_
     rintro e w' ⟨rfl, rfl⟩
     have hov2 : ∀ j, Au (Fu arr (rows.length * e2) news.toList) j = if rows.length * e2 ≤ j ∧ j < rows.length * e2 + e2 then Au news (j - rows.length * e2) else Au arr j := fun j => by
      rw [Ey _ _ _ _ (by rw [hn1]; omega), hn1, Eg]
     have hmono : ∀ {r : List (List T)} {a' : Array Value}, Ba w G.S a' e2 0 r → Ba (DV w β (.cells (Fu arr (rows.length * e2) news.toList) el' (0, 0))) G.S a' e2 0 r := fun h => h.mono fun γ hγ => by rw [CU, if_neg (fun (q : _ = β ∧ β < w.heap.size) => hβS (q.1 ▸ hγ))]
     have hro : Ba (DV w β (.cells (Fu arr (rows.length * e2) news.toList) el' (0, 0))) G.S (Fu arr (rows.length * e2) news.toList) e2 0 (rows.take i ++ ([x] ++ rows.drop i)) := by
      refine Ba.three (a1 := arr) (hmono (by rw [htk]; exact hrow)) (hmono q2) (hde _) q3 ?_ (fun j hj => ?_) (fun j hj => ?_) (fun j hj => by rw [hdr] at hj; simp at hj)
      ·rw [Fe, hdr, htk]
       simp only [vV, zE0, zB6]
       rw [vU]; omega
      ·rw [htk] at hj
       rw [hov2, if_neg (by omega)]
      ·rw [hmul1] at hj
       rw [htk, hov2, if_pos (by omega), zB5]
     have := Md (P := P) (w := w) (cap := cap) (rows := rows.take i ++ ([x] ++ rows.drop i)) (by rw [CU, if_pos ⟨rfl, hβlt⟩]) (by rw [hrl]; exact hfit) (by rw [Fe]; exact g4) hro ⟨.inr (.inl hl0), by show β < (w.heap.setIfInBounds _ _).size; simpa using hβlt, hβS⟩ (Hy (C9.refl _ _ w) (.inr (.inl hl0)) _)
     rw [hrl] at this
     exact this
    ·rw [hii]
     refine (W1 (some ⟨β, 0, none⟩) rows.length cap _ _ w _ _ (fun q => by cases q) g3 (fun ty => hrun)).mono ?_
     rintro e w' ⟨rfl, rfl⟩
     obtain ⟨f1, f2, f3⟩ := fresh (.cells (olds ++ news ++ rest) el)
     have hmono : ∀ {r : List (List T)} {a' : Array Value}, Ba w G.S a' e2 0 r → Ba (w.drew.alloc (.cells (olds ++ news ++ rest) el)) G.S a' e2 0 r := fun h => h.mono fun γ hγ => f2 γ (hS γ hγ)
     have hro : Ba (w.drew.alloc (.cells (olds ++ news ++ rest) el)) G.S (olds ++ news ++ rest) e2 0 (rows.take i ++ ([x] ++ rows.drop i)) := by
      refine Ba.three (hmono (by rw [htk]; exact o2)) (hmono q2) (hde _) q3 ?_ (fun j hj => ?_) (fun j hj => ?_) (fun j hj => by rw [hdr] at hj; simp at hj)
      ·rw [hdr, htk]
       simp only [zB7, o3, q3, vV, zE0, zB6]
       rw [vU]; omega
      ·rw [htk] at hj
       rw [Bi (by simp only [zB7]; omega), Bi (by omega)]
      ·rw [htk]
       rw [Bi (by simp only [zB7]; omega), Es (by omega), o3, zB5]
     have := Md (P := P) (w := w) (cap := c) (rows := rows.take i ++ ([x] ++ rows.drop i)) f1 (by rw [hrl]; exact hc1) (by simp only [zB7, o3, q3, hrest]; rw [← vU, ← vU]; congr 1; simp only [vV, zE0] at hc1 ⊢; omega) hro ⟨.inl (vN _), by omega, fun q => zE2 _ (hS _ q)⟩ (belA _)
     rw [hrl] at this
     exact this
  · -- before the end
   have hlt : i < rows.length := by omega
   rcases hblk with ⟨a, h1, hr0, _⟩ | ⟨β, cap, arr, el', hl0, h1, g2, g3, g4, g5, g6⟩
   ·subst hr0; simp at hlt
   ·rw [h1]
    have hrow : Ba w G.S arr e2 0 rows := ⟨by rw [g4, uT]; exact uU e2 g3, g5, fun i row j t hi hj => by rw [uT]; exact g6 i row j t hi hj⟩
    obtain ⟨hβlt, hβS⟩ := hla β (.inl hl0)
    have hdrow := hrow.drop (n := i) (by omega)
    have hiz : i * e2 + (rows.length - i) * e2 = rows.length * e2 := by rw [← vU]; congr 1; omega
    have hi1 : (i + 1) * e2 = i * e2 + e2 := vZ i e2
    have hn1e : (rows.length + 1) * e2 = rows.length * e2 + e2 := vZ _ _
    have hcapn : rows.length * e2 ≤ cap * e2 := uU e2 g3
    have hst2 : arr2.size ≠ 0 := by
     have k4' : off + 1 * e2 ≤ arr2.size := k4
     omega
    by_cases hroom : rows.length + 1 ≤ cap
    ·have hne : γ ≠ β := fun q => hβS (q ▸ k1)
     have hce : (rows.length + 1) * e2 ≤ cap * e2 := uU e2 hroom
     obtain ⟨dn, d1, d2, d3⟩ := Ix (P := P) (S := G.S) (len := 0) (cap := 0) (n := rows.length - i) (rows := rows.drop i) hd1 g2 hdrow
     have hdl : dn.toList.length = (rows.length - i) * e2 := by rw [zC8, d3]
     -- what is behind moves up
     have hs1 := Dz (P := P) (β := β) (el := el') dn.toList w.drew ((i + 1) * e2) 0 arr g2 (by rw [hdl]; omega) (Ba.ones d2 (by rw [d3, hd1]))
     rw [zB6 ((i + 1) * e2)] at hs1
     obtain ⟨A1, hA1⟩ : ∃ A1, A1 = Fu arr ((i + 1) * e2) dn.toList := ⟨_, rfl⟩
     rw [← hA1] at hs1
     have hA1s : A1.size = cap * e2 := by rw [hA1, Fe, g4]
     have hc1 : ∀ (ty dc sc : Nat), (Builtin.copy_ #[tS, tS] ty #[.slice (some ⟨β, (i + 1) * e2, none⟩) (rows.length + 1 - (i + 1)) dc, .slice (some ⟨β, i * e2, none⟩) (rows.length + 1 - i) sc]).run P w.drew = .ok (goInt (rows.length - i : Nat)) (DV w.drew β (.cells A1 el' (0, 0))) := fun ty dc sc => by
      have hmin : zB4 (rows.length + 1 - i) (rows.length + 1 - (i + 1)) = rows.length - i := by
       show min _ _ = _
       omega
      have := KI (P := P) (t := tS) (t2 := tS) (ty := ty) (p := some ⟨β, (i + 1) * e2, none⟩) (p2 := some ⟨β, i * e2, none⟩) (dl := rows.length + 1 - (i + 1)) (dc := dc) (n2 := rows.length + 1 - i) (c2 := sc) ht he (news := dn) (w := w.drew) (by rw [hmin]; exact d1 w.drew _ _ rfl) (fun q hq => by cases hq; exact hs1) (fun h => by cases h)
      rw [hmin] at this
      exact this
     have hb1 : (DV w.drew β (.cells A1 el' (0, 0))).heap[β]? = some (.cells A1 el' (0, 0)) := by rw [CU, if_pos ⟨rfl, hβlt⟩]
     have ho1 : ∀ q, q ≠ β → (DV w.drew β (.cells A1 el' (0, 0))).heap[q]? = w.heap[q]? := fun q hq => by rw [CU, if_neg (fun h => hq h.1)]; rfl
     -- the new one
     have hs2 := Dz (P := P) (β := β) (el := el') news.toList (DV w.drew β (.cells A1 el' (0, 0))) (i * e2) 0 A1 hb1 (by rw [hn1]; omega) (Ba.ones q2 q3)
     rw [zB6 (i * e2)] at hs2
     obtain ⟨A2, hA2⟩ : ∃ A2, A2 = Fu A1 (i * e2) news.toList := ⟨_, rfl⟩
     rw [← hA2] at hs2
     have hA2s : A2.size = cap * e2 := by rw [hA2, Fe, hA1s]
     have hc2 : ∀ (ty dc : Nat), (Builtin.copy_ #[tS, tS] ty #[.slice (some ⟨β, i * e2, none⟩) (rows.length + 1 - i) dc, .slice (some ⟨γ, off, none⟩) 1 cap2]).run P (DV w.drew β (.cells A1 el' (0, 0))) = .ok (goInt (1 : Nat)) (DV (DV w.drew β (.cells A1 el' (0, 0))) β (.cells A2 el' (0, 0))) := fun ty dc => by
      have hmin : zB4 1 (rows.length + 1 - i) = 1 := by
       show min _ _ = _
       omega
      have := KI (P := P) (t := tS) (t2 := tS) (ty := ty) (p := some ⟨β, i * e2, none⟩) (p2 := some ⟨γ, off, none⟩) (dl := rows.length + 1 - i) (dc := dc) (n2 := 1) (c2 := cap2) ht he (news := news) (w := DV w.drew β (.cells A1 el' (0, 0))) (by rw [hmin]; exact qB _ _ _ (ho1 γ hne)) (fun q hq => by cases hq; exact hs2) (fun h => by cases h)
      rw [hmin] at this
      exact this
     refine (W3 β i rows.length cap _ _ w _ _ _ _ hlt (by omega) hroom (fun lb cb => hov w _ _ (QL ht he hne k2 g2 (by rw [g4]; omega) hst2)) hc1 hc2).mono ?_
     rintro e w' ⟨rfl, rfl⟩
     have hoo : ∀ q, q ≠ β → (DV (DV w.drew β (.cells A1 el' (0, 0))) β (.cells A2 el' (0, 0))).heap[q]? = w.heap[q]? := fun q hq => by rw [CU, if_neg (fun h => hq h.1)]; exact ho1 q hq
     have hmono : ∀ {r : List (List T)} {a' : Array Value} {o : Nat}, Ba w G.S a' e2 o r → Ba (DV (DV w.drew β (.cells A1 el' (0, 0))) β (.cells A2 el' (0, 0))) G.S a' e2 o r := fun h => h.mono fun q hq => hoo q fun e => hβS (e ▸ hq)
     have hcl : ∀ j, Au A2 j = if i * e2 ≤ j ∧ j < i * e2 + e2 then Au news (j - i * e2) else if (i + 1) * e2 ≤ j ∧ j < (i + 1) * e2 + (rows.length - i) * e2 then Au dn (j - (i + 1) * e2) else Au arr j := fun j => by
      rw [hA2, Ey _ _ _ _ (by rw [hn1]; omega), hn1, Eg, hA1, Ey _ _ _ _ (by rw [hdl]; omega), hdl, Eg]
     have hro : Ba (DV (DV w.drew β (.cells A1 el' (0, 0))) β (.cells A2 el' (0, 0))) G.S A2 e2 0 (rows.take i ++ ([x] ++ rows.drop i)) := by
      refine Ba.three (a1 := arr) (hmono hrow.take) (hmono q2) (hmono d2) q3 ?_ (fun j hj => ?_) (fun j hj => ?_) (fun j hj => ?_)
      ·have : (rows.take i).length + (([x] : List (List T)).length + (rows.drop i).length) = rows.length + 1 := by rw [ht1, hd1]; simp; omega
       rw [this, hA2s]; exact hce
      ·rw [hmulT] at hj
       rw [hcl, if_neg (by omega), if_neg (by omega)]
      ·rw [hmul1] at hj
       rw [hmulT, hcl, if_pos (by omega), zB5]
      ·rw [hd1] at hj
       rw [hmulT, hmul1, hcl, if_neg (by omega), if_pos (by omega), hi1, zB5]
     have := Md (P := P) (w := w) (cap := cap) (rows := rows.take i ++ ([x] ++ rows.drop i)) (by rw [CU, if_pos ⟨rfl, by show β < (w.heap.setIfInBounds _ _).size; simpa using hβlt⟩]) (by rw [hrl]; exact hroom) hA2s hro ⟨.inr (.inl hl0), by show β < ((w.heap.setIfInBounds _ _).setIfInBounds _ _).size; simpa using hβlt, hβS⟩ (Hy (Hy (C9.refl _ _ w).drew (.inr (.inl hl0)) _) (.inr (.inl hl0)) _)
     rw [hrl] at this
     exact this
    ·have htrow := hrow.take (n := i)
     obtain ⟨olds, o1, o2, o3⟩ := F0 (P := P) (len := i) (cap := cap) g2 htrow
     rw [ht1] at o1 o3
     obtain ⟨c, rest, hc1, _, hrun, hrest⟩ := Qh (P := P) (ty := 0) (a := some ⟨β, 0, none⟩) (n := i) (cap := cap) (k := rows.length + 1 - i) ht hti he hby hbs hz hzs (by omega) (by omega) (by omega) hep o1
     rw [show i + (rows.length + 1 - i) = rows.length + 1 by omega] at hc1 hrun hrest
     have hzc : (Builtin.zeroCells z.cells (rows.length + 1 - i)).size = (rows.length + 1 - i) * e2 := by simp [Builtin.zeroCells, hzs]
     have hza : i * e2 + (rows.length + 1 - i) * e2 = (rows.length + 1) * e2 := by rw [← vU]; congr 1; omega
     obtain ⟨A1, hA1⟩ : ∃ A1, A1 = olds ++ Builtin.zeroCells z.cells (rows.length + 1 - i) ++ rest := ⟨_, rfl⟩
     rw [← hA1] at hrun
     have hA1s : A1.size = c * e2 := by
      rw [hA1, zB7, zB7, o3, hzc, hrest, hza, ← vU]; congr 1; omega
     have hce : (rows.length + 1) * e2 ≤ c * e2 := uU e2 hc1
     obtain ⟨f1, f2, f3⟩ := fresh (.cells A1 el)
     -- the first copy
     have hst1 := Dz (P := P) (β := w.heap.size) (el := el) news.toList (w.drew.alloc (.cells A1 el)) (i * e2) 0 A1 f1 (by rw [hn1]; omega) (Ba.ones q2 q3)
     rw [zB6 (i * e2)] at hst1
     obtain ⟨A2, hA2⟩ : ∃ A2, A2 = Fu A1 (i * e2) news.toList := ⟨_, rfl⟩
     rw [← hA2] at hst1
     have hA2s : A2.size = c * e2 := by rw [hA2, Fe, hA1s]
     have hc2 : ∀ (ty dc : Nat), (Builtin.copy_ #[tS, tS] ty #[.slice (some ⟨w.heap.size, i * e2, none⟩) (rows.length + 1 - i) dc, .slice (some ⟨γ, off, none⟩) 1 cap2]).run P (w.drew.alloc (.cells A1 el)) = .ok (goInt (1 : Nat)) (DV (w.drew.alloc (.cells A1 el)) w.heap.size (.cells A2 el (0, 0))) := fun ty dc => by
      have hmin : zB4 1 (rows.length + 1 - i) = 1 := by
       show min _ _ = _
       omega
      have := KI (P := P) (t := tS) (t2 := tS) (ty := ty) (p := some ⟨w.heap.size, i * e2, none⟩) (p2 := some ⟨γ, off, none⟩) (dl := rows.length + 1 - i) (dc := dc) (n2 := 1) (c2 := cap2) ht he (news := news) (w := w.drew.alloc (.cells A1 el)) (by rw [hmin]; exact qB _ _ _ (f2 γ hγlt)) (fun q hq => by cases hq; exact hst1) (fun h => by cases h)
      rw [hmin] at this
      exact this
     have hb1 : (DV (w.drew.alloc (.cells A1 el)) w.heap.size (.cells A2 el (0, 0))).heap[w.heap.size]? = some (.cells A2 el (0, 0)) := by rw [CU, if_pos ⟨rfl, by omega⟩]
     have ho1 : ∀ q, q < w.heap.size → (DV (w.drew.alloc (.cells A1 el)) w.heap.size (.cells A2 el (0, 0))).heap[q]? = w.heap[q]? := fun q hq => by rw [CU, if_neg (fun h => by omega)]; exact f2 q hq
     -- the second copy
     obtain ⟨dn, d1, d2, d3⟩ := Ix (P := P) (S := G.S) (len := 0) (cap := 0) (n := rows.length - i) (rows := rows.drop i) hd1 g2 hdrow
     have hdl : dn.toList.length = (rows.length - i) * e2 := by rw [zC8, d3]
     have hst2' := Dz (P := P) (β := w.heap.size) (el := el) dn.toList (DV (w.drew.alloc (.cells A1 el)) w.heap.size (.cells A2 el (0, 0))).drew ((i + 1) * e2) 0 A2 hb1 (by rw [hdl]; omega) (Ba.ones d2 (by rw [d3, hd1]))
     rw [zB6 ((i + 1) * e2)] at hst2'
     obtain ⟨A3, hA3⟩ : ∃ A3, A3 = Fu A2 ((i + 1) * e2) dn.toList := ⟨_, rfl⟩
     rw [← hA3] at hst2'
     have hA3s : A3.size = c * e2 := by rw [hA3, Fe, hA2s]
     have hc3 : ∀ (ty dc sc : Nat), (Builtin.copy_ #[tS, tS] ty #[.slice (some ⟨w.heap.size, (i + 1) * e2, none⟩) (rows.length + 1 - (i + 1)) dc, .slice (some ⟨β, i * e2, none⟩) (rows.length - i) sc]).run P (DV (w.drew.alloc (.cells A1 el)) w.heap.size (.cells A2 el (0, 0))).drew = .ok (goInt (rows.length - i : Nat)) (DV (DV (w.drew.alloc (.cells A1 el)) w.heap.size (.cells A2 el (0, 0))).drew w.heap.size (.cells A3 el (0, 0))) := fun ty dc sc => by
      have hmin : zB4 (rows.length - i) (rows.length + 1 - (i + 1)) = rows.length - i := by
       show min _ _ = _
       omega
      have := KI (P := P) (t := tS) (t2 := tS) (ty := ty) (p := some ⟨w.heap.size, (i + 1) * e2, none⟩) (p2 := some ⟨β, i * e2, none⟩) (dl := rows.length + 1 - (i + 1)) (dc := dc) (n2 := rows.length - i) (c2 := sc) ht he (news := dn) (w := (DV (w.drew.alloc (.cells A1 el)) w.heap.size (.cells A2 el (0, 0))).drew) (by rw [hmin]; exact d1 _ _ _ (ho1 β hβlt)) (fun q hq => by cases hq; exact hst2') (fun h => by cases h)
      rw [hmin] at this
      exact this
     have hk : ((rows.length + 1 - i : Nat) : Int) = (rows.length : Int) + 1 - (i : Int) := by omega
     rw [hk] at hrun
     refine (W2 β i rows.length cap c w.heap.size _ _ w _ _ _ _ _ hlt (by omega) g3 (by omega) hc1 (fun ty => hrun) hc2 hc3).mono ?_
     rintro e w' ⟨rfl, rfl⟩
     have hsz1 : (DV (w.drew.alloc (.cells A1 el)) w.heap.size (.cells A2 el (0, 0))).heap.size = w.heap.size + 1 := by
      show ((w.drew.alloc (.cells A1 el)).heap.setIfInBounds _ _).size = _
      rw [zH6]; exact f3
     have hsz2 : (DV (DV (w.drew.alloc (.cells A1 el)) w.heap.size (.cells A2 el (0, 0))).drew w.heap.size (.cells A3 el (0, 0))).heap.size = w.heap.size + 1 := by
      show ((DV (w.drew.alloc (.cells A1 el)) w.heap.size (.cells A2 el (0, 0))).heap.setIfInBounds _ _).size = _
      rw [zH6]; exact hsz1
     have hoo : ∀ q, q < w.heap.size → (DV (DV (w.drew.alloc (.cells A1 el)) w.heap.size (.cells A2 el (0, 0))).drew w.heap.size (.cells A3 el (0, 0))).heap[q]? = w.heap[q]? := fun q hq => by rw [CU, if_neg (fun h => by omega)]; exact ho1 q hq
     have hmono : ∀ {r : List (List T)} {a' : Array Value} {o : Nat}, Ba w G.S a' e2 o r → Ba (DV (DV (w.drew.alloc (.cells A1 el)) w.heap.size (.cells A2 el (0, 0))).drew w.heap.size (.cells A3 el (0, 0))) G.S a' e2 o r := fun h => h.mono fun q hq => hoo q (hS q hq)
     have hcl : ∀ j, j < (rows.length + 1) * e2 → Au A3 j = if (i + 1) * e2 ≤ j then Au dn (j - (i + 1) * e2) else if i * e2 ≤ j then Au news (j - i * e2) else Au olds j := fun j hj => by
      rw [hA3, Ey _ _ _ _ (by rw [hdl]; omega), hdl, Eg, hA2, Ey _ _ _ _ (by rw [hn1]; omega), hn1, Eg]
      by_cases p1 : (i + 1) * e2 ≤ j
      ·rw [if_pos ⟨p1, by omega⟩, if_pos p1]
      ·rw [if_neg (fun q => p1 q.1), if_neg p1]
       by_cases p2 : i * e2 ≤ j
       ·rw [if_pos ⟨p2, by omega⟩, if_pos p2]
       ·rw [if_neg (fun q => p2 q.1), if_neg p2, hA1, Bi (by rw [zB7, o3]; omega), Bi (by omega)]
     have hro : Ba (DV (DV (w.drew.alloc (.cells A1 el)) w.heap.size (.cells A2 el (0, 0))).drew w.heap.size (.cells A3 el (0, 0))) G.S A3 e2 0 (rows.take i ++ ([x] ++ rows.drop i)) := by
      refine Ba.three (a1 := olds) (hmono o2) (hmono q2) (hmono d2) q3 ?_ (fun j hj => ?_) (fun j hj => ?_) (fun j hj => ?_)
      ·have : (rows.take i).length + (([x] : List (List T)).length + (rows.drop i).length) = rows.length + 1 := by rw [ht1, hd1]; simp; omega
       rw [this, hA3s]; exact hce
      ·rw [hmulT] at hj
       rw [hcl _ (by omega), if_neg (by omega), if_neg (by omega)]
      ·rw [hmul1] at hj
       rw [hmulT, hcl _ (by omega), if_neg (by omega), if_pos (by omega), zB5]
      ·rw [hd1] at hj
       rw [hmulT, hmul1, hcl _ (by omega), if_pos (by omega), hi1, zB5]
     have := Md (P := P) (w := w) (cap := c) (rows := rows.take i ++ ([x] ++ rows.drop i)) (by rw [CU, if_pos ⟨rfl, by show w.heap.size < (DV (w.drew.alloc (.cells A1 el)) w.heap.size (.cells A2 el (0, 0))).heap.size; omega⟩]) (by rw [hrl]; exact hc1) hA3s hro ⟨.inl (vN _), by omega, fun q => zE2 _ (hS _ q)⟩ (Hy (Hy (belA _) (.inl (vN _)) _).drew (.inl (vN _)) _)
     rw [hrl] at this
     exact this
theorem V0 {α : Type} {en : α → List T} {f tS el e bytes : Nat} (_ : bytes = bytes) (C : ∀ (rows : List (List T)) (x : List T) (i : Nat), x.length = e → i ≤ rows.length → rows.length + 1 ≤ DC → J1 P f [.e (.one (.own 90900)), .e (.one (.pure (.val (.int .i64 (i : Int))))), .e (.one (.pure (.sl [x])))] (.vec e rows) [.vec e (rows.take i ++ ([x] ++ rows.drop i))] (.e (.one (.own 0))))
  (hen : ∀ x, (en x).length = e) {p0 p2 : List α} {p1 : Int} {r : List α} (h : ((DQ (p2.length = 1 ∧ 0 ≤ p1 ∧ p1.toNat ≤ p0.length ∧ p0.length + 1 ≤ DC)).bind fun _ => some (p0.take p1.toNat ++ (p2 ++ p0.drop p1.toNat))) = some r) :
  J1 P f [.e (.one (.own 90900)), .e (.one (.pure (.val (.int .i64 p1)))), .e (.one (.pure (.sl (p2.map en))))] (.vec e (p0.map en)) [.vec e (r.map en)] (.e (.one (.own 0))) := by
 obtain ⟨⟨h1, h2, h3, h4⟩, h⟩ := ET h
 cases h
 match p2, h1 with
 | [y], _ =>
  obtain ⟨u, rfl⟩ := uZ h2
  rw [vJ] at h3 ⊢
  have := C (p0.map en) (en y) u (hen y) (by rw [vT]; exact h3) (by rw [vT]; exact h4)
  rw [zE9, zE9, List.map_take, List.map_drop]
  exact this
end Go.Lift
namespace Go.Lift
def Ao (n : Int) : List T := [.val (.int .i64 n)]
def CF (n : Int) : List T := [.val (.int .u8 n)]
def bc (n : Int) : List T := [.val (.int .u16 n)]
abbrev VG (n : Int) : T := .val (.int .i64 n)
abbrev tB (b : Bool) : T := .val (.bool b)
abbrev tS (b : ByteArray) : T := .val (.string b)
def eB (b : Bool) : List T := [.val (.bool b)]
def Mj {α : Type} (f : α → List T) (xs : List α) : List T := [.sl (xs.map f)]
theorem SD : Uk Ao := ⟨by intro x y h; simpa [Ao] using h⟩
theorem Zg : Uk CF := ⟨by intro x y h; simpa [CF] using h⟩
theorem ak : Uk eB := ⟨by intro x y h; simpa [eB] using h⟩
theorem YS {α : Type} {f : α → List T} (h : Uk f) : Uk (Mj f) := ⟨by intro x y hx; simp only [Mj, List.cons.injEq, T.sl.injEq, and_true] at hx; exact MA h.inj _ _ hx⟩
structure Ho where
 ff : Int
 fg : Int
 fk : Int
 fp : Bool
 fC : Int
 fD : Int
def GH (x : Ho) : List T := [.val (.int .u8 x.ff), .val (.int .u8 x.fg), .val (.int .u8 x.fk), .val (.bool x.fp), .val (.int .u16 x.fC), .val (.int .u16 x.fD)]
structure BN where
 fb : List Int
 fi : List Int
 fj : List Int
 fy : List Ho
def Mh (x : BN) : List T := [.sl (x.fb.map CF), .sl (x.fi.map CF), .sl (x.fj.map CF), .sl (x.fy.map GH)]
structure By where
 fd : List Int
 fa : List Int
 fc : List Int
def LY (x : By) : List T := [.sl (x.fd.map CF), .sl (x.fa.map CF), .sl (x.fc.map CF)]
structure B4 where
 ff : Int
 fB : Int
 fr : By
def L9 (x : B4) : List T := [.val (.int .u8 x.ff), .val (.int .u8 x.fB), .sl (x.fr.fd.map CF), .sl (x.fr.fa.map CF), .sl (x.fr.fc.map CF)]
structure AC where
 ff : Int
 fg : Int
 fk : Int
 fp : Bool
 fq : List (List Bool)
 fo : List (List Bool)
def Bh (x : AC) : List T := [.val (.int .i64 x.ff), .val (.int .i64 x.fg), .val (.int .i64 x.fk), .val (.bool x.fp), .sl (x.fq.map (Mj eB)), .sl (x.fo.map (Mj eB))]
structure Ab where
 fb : List Int
 fi : List Int
 fj : List Int
 fe : List AC
structure Aa where
 fd : List Int
 fa : List Int
 fc : List Int
def Al (x : Aa) : List T := [.sl (x.fd.map Ao), .sl (x.fa.map Ao), .sl (x.fc.map CF)]
theorem IT : Uk Al := ⟨by
 rintro ⟨a1, a2, a3⟩ ⟨b1, b2, b3⟩ h
 simp only [Al, List.cons.injEq, T.sl.injEq, and_true] at h
 obtain ⟨h1, h2, h3⟩ := h
 have h1 := MA SD.inj _ _ h1
 subst h1
 have h2 := MA SD.inj _ _ h2
 subst h2
 have h3 := MA Zg.inj _ _ h3
 subst h3
 rfl⟩
def ON (a b : Aa) : Bool := decide (a.fd = b.fd) && decide (a.fa = b.fa) && decide (a.fc = b.fc)
theorem R0 {a b : Aa} (h : ON a b = true) : a = b := by
 cases a; cases b; simp only [ON, uV, decide_eq_true_eq] at h
 obtain ⟨⟨h1, h2⟩, h3⟩ := h
 subst h1
 subst h2
 subst h3
 rfl
structure Ad where
 ft : Int
 fu : Int
 fv : Int
def Aq (x : Ad) : List T := [.val (.int .i64 x.ft), .val (.int .i64 x.fu), .val (.int .i64 x.fv)]
theorem OM : Uk Aq := ⟨by
 rintro ⟨a1, a2, a3⟩ ⟨b1, b2, b3⟩ h
 simp only [Aq, List.cons.injEq, T.val.injEq, Value.int.injEq, and_true, true_and] at h
 obtain ⟨h1, h2, h3⟩ := h
 subst h1
 subst h2
 subst h3
 rfl⟩
def JH (a b : Ad) : Bool := decide (a.ft = b.ft) && decide (a.fu = b.fu) && decide (a.fv = b.fv)
theorem Na {a b : Ad} (h : JH a b = true) : a = b := by
 cases a; cases b; simp only [JH, uV, decide_eq_true_eq] at h
 obtain ⟨⟨h1, h2⟩, h3⟩ := h
 subst h1
 subst h2
 subst h3
 rfl
structure Aj where
 ff : Int
 fh : Int
 fm : Int
def AP (x : Aj) : List T := [.val (.int .i64 x.ff), .val (.int .i64 x.fh), .val (.int .i64 x.fm)]
theorem Od : Uk AP := ⟨by
 rintro ⟨a1, a2, a3⟩ ⟨b1, b2, b3⟩ h
 simp only [AP, List.cons.injEq, T.val.injEq, Value.int.injEq, and_true, true_and] at h
 obtain ⟨h1, h2, h3⟩ := h
 subst h1
 subst h2
 subst h3
 rfl⟩
structure Cw where
 fA : Aj
 fr : Aa
 fw : Ad
def D9 (x : Cw) : List T := [.val (.int .i64 x.fA.ff), .val (.int .i64 x.fA.fh), .val (.int .i64 x.fA.fm), .sl (x.fr.fd.map Ao), .sl (x.fr.fa.map Ao), .sl (x.fr.fc.map CF), .val (.int .i64 x.fw.ft), .val (.int .i64 x.fw.fu), .val (.int .i64 x.fw.fv)]
open IntKind renaming wrap → wI
def Eu (_ : Nat) (p0 : List Int) (p1 : Int) : Option Int :=
 AN ((decide (p1 < (p0.length : Int))))
  ((BB p0 p1).bind fun v2 =>
  some ((wI .i64 v2)))
  (some 0)
def A5 (_ : Nat) (p0 : AC) : Option Bool :=
 Bc (fun (v1 : Bool) =>
  some v1)
 fun j1 =>
 AN ((p0.ff == 3))
  (j1 true)
  (j1 (p0.ff == 4))
def CA (N : Nat) (p1 : Int) (p2 : Int) (p3 : Bool) (v1 : (List (List Bool)) × Int) (j4 : ((List Bool)) → Option ((List (List Bool)))) : Nat → ((List Bool) × Int) → Option ((List (List Bool)))
 | 0, _ => none
 | n4 + 1, v4 =>
  AN ((decide (v4.2 < p1)))
   (Bc (fun (v7 : (List Bool)) =>
    CA N p1 p2 p3 v1 j4 n4 (v7, (wI .i64 (v4.2 + 1))))
   fun j7 =>
   AN p3
    (AN ((v1.2 == v4.2))
     ((DQ (v4.1.length + (([true] : List Bool)).length ≤ DC)).bind fun _ =>
     j7 (v4.1 ++ (([true] : List Bool))))
     ((DQ (0 ≤ (wI .i64 ((wI .i64 (3 * v1.2)) + v4.2)))).bind fun _ =>
     (DQ (v4.1.length + (([((vF ((Fo .u16 p2 ((wI .i64 ((wI .i64 (3 * v1.2)) + v4.2))))) 2) == 0)] : List Bool)).length ≤ DC)).bind fun _ =>
     j7 (v4.1 ++ (([((vF ((Fo .u16 p2 ((wI .i64 ((wI .i64 (3 * v1.2)) + v4.2))))) 2) == 0)] : List Bool)))))
    ((DQ (0 ≤ (wI .i64 ((wI .i64 (3 * v1.2)) + v4.2)))).bind fun _ =>
    (DQ (v4.1.length + (([((vF ((Fo .u16 p2 ((wI .i64 ((wI .i64 (3 * v1.2)) + v4.2))))) 2) == 0)] : List Bool)).length ≤ DC)).bind fun _ =>
    j7 (v4.1 ++ (([((vF ((Fo .u16 p2 ((wI .i64 ((wI .i64 (3 * v1.2)) + v4.2))))) 2) == 0)] : List Bool)))))
   (j4 v4.1)
def Cy (N : Nat) (p0 : Int) (p1 : Int) (p2 : Int) (p3 : Bool) (j1 : ((List (List Bool))) → Option ((List (List Bool)))) : Nat → ((List (List Bool)) × Int) → Option ((List (List Bool)))
 | 0, _ => none
 | n1 + 1, v1 =>
  AN ((decide (v1.2 < p0)))
   (CA N p1 p2 p3 v1 (fun (v5 : (List Bool)) =>
    (DQ (v1.1.length + (([v5] : List (List Bool))).length ≤ DC)).bind fun _ =>
    Cy N p0 p1 p2 p3 j1 n1 (v1.1 ++ (([v5] : List (List Bool))), (wI .i64 (v1.2 + 1)))) N (([] : List Bool), 0))
   (j1 v1.1)
def Ew (N : Nat) (p0 : Int) (p1 : Int) (p2 : Int) (p3 : Bool) : Option ((List (List Bool))) :=
 Cy N p0 p1 p2 p3 (fun (v2 : (List (List Bool))) =>
  some v2) N (([] : List (List Bool)), 0)
def C1 (N : Nat) (p0 : BN) (j4 : ((List Int) × (List Int) × (List Int)) → Option (Ab × Bool)) : Nat → ((List Int) × (List Int) × (List Int) × Int) → Option (Ab × Bool)
 | 0, _ => none
 | n4 + 1, v4 =>
  AN ((decide (v4.2.2.2 < (p0.fb.length : Int))))
   ((BB p0.fb v4.2.2.2).bind fun v7 =>
   (DQ (v4.1.length + (([(wI .i64 (1 + (wI .i64 ((vF v7 3)))))] : List Int)).length ≤ DC)).bind fun _ =>
   (Eu N p0.fi v4.2.2.2).bind fun v9 =>
   (DQ ((wI .i64 (1 + (wI .i64 ((vF v7 3))))) ≠ 0)).bind fun _ =>
   (DQ (v4.2.1.length + (([(vF v9 ((wI .i64 (1 + (wI .i64 ((vF v7 3)))))))] : List Int)).length ≤ DC)).bind fun _ =>
   (Eu N p0.fj v4.2.2.2).bind fun v12 =>
   (DQ ((wI .i64 (1 + (wI .i64 ((vF v7 3))))) ≠ 0)).bind fun _ =>
   (DQ (v4.2.2.1.length + (([(vF v12 ((wI .i64 (1 + (wI .i64 ((vF v7 3)))))))] : List Int)).length ≤ DC)).bind fun _ =>
   C1 N p0 j4 n4 (v4.1 ++ (([(wI .i64 (1 + (wI .i64 ((vF v7 3)))))] : List Int)), v4.2.1 ++ (([(vF v9 ((wI .i64 (1 + (wI .i64 ((vF v7 3)))))))] : List Int)), v4.2.2.1 ++ (([(vF v12 ((wI .i64 (1 + (wI .i64 ((vF v7 3)))))))] : List Int)), (wI .i64 (v4.2.2.2 + 1))))
   (j4 (v4.1, v4.2.1, v4.2.2.1))
def BH (N : Nat) (p0 : BN) (v5 : (List Int) × (List Int) × (List Int)) (j15 : ((List AC)) → Option (Ab × Bool)) : Nat → ((List AC) × Int) → Option (Ab × Bool)
 | 0, _ => none
 | n15 + 1, v15 =>
  Bc (fun (v17 : Bool) =>
   AN v17
    ((BB p0.fy v15.2).bind fun v20 =>
    (DQ ((v5.1.length : Int) ≠ 0)).bind fun _ =>
    (DQ ((v5.1.length : Int) ≠ 0)).bind fun _ =>
    Bc (fun (v23 : Bool) =>
     (BB v5.1 ((vF ((wI .i64 v20.fg)) ((v5.1.length : Int))))).bind fun v26 =>
     (BB v5.1 ((vF ((wI .i64 v20.fk)) ((v5.1.length : Int))))).bind fun v27 =>
     (Ew N v26 v27 v20.fC false).bind fun v28 =>
     Bc (fun (v29 : (List (List Bool))) =>
      (DQ (v15.1.length + (([(AC.mk ((wI .i64 (1 + (wI .i64 ((vF v20.ff 4)))))) ((vF ((wI .i64 v20.fg)) ((v5.1.length : Int)))) ((vF ((wI .i64 v20.fk)) ((v5.1.length : Int)))) v23 v28 v29)] : List AC)).length ≤ DC)).bind fun _ =>
      BH N p0 v5 j15 n15 (v15.1 ++ (([(AC.mk ((wI .i64 (1 + (wI .i64 ((vF v20.ff 4)))))) ((vF ((wI .i64 v20.fg)) ((v5.1.length : Int)))) ((vF ((wI .i64 v20.fk)) ((v5.1.length : Int)))) v23 v28 v29)] : List AC)), (wI .i64 (v15.2 + 1))))
     fun j29 =>
     AN (((wI .i64 (1 + (wI .i64 ((vF v20.ff 4))))) == 4))
      ((BB v5.1 ((vF ((wI .i64 v20.fg)) ((v5.1.length : Int))))).bind fun v31 =>
      (BB v5.1 ((vF ((wI .i64 v20.fg)) ((v5.1.length : Int))))).bind fun v32 =>
      (Ew N v31 v32 v20.fD true).bind fun v33 =>
      j29 v33)
      (j29 ([] : List (List Bool))))
    fun j23 =>
    AN v20.fp
     ((A5 N ((AC.mk ((wI .i64 (1 + (wI .i64 ((vF v20.ff 4)))))) ((vF ((wI .i64 v20.fg)) ((v5.1.length : Int)))) ((vF ((wI .i64 v20.fk)) ((v5.1.length : Int)))) false (([] : List (List Bool))) (([] : List (List Bool)))))).bind fun v25 =>
     j23 (!v25))
     (j23 false))
    (j15 v15.1))
  fun j17 =>
  AN ((decide (v15.2 < (p0.fy.length : Int))))
   (j17 (decide (0 < (v5.1.length : Int))))
   (j17 false)
def Fz (N : Nat) (p0 : BN) : Option (Ab × Bool) :=
 Bc (fun (v1 : Bool) =>
  AN v1
   (some ((Ab.mk (([] : List Int)) (([] : List Int)) (([] : List Int)) (([] : List AC))), false))
   (C1 N p0 (fun (v5 : (List Int) × (List Int) × (List Int)) =>
    BH N p0 v5 (fun (v16 : (List AC)) =>
     some ((Ab.mk v5.1 v5.2.1 v5.2.2 v16), true)) N (([] : List AC), 0)) N (([] : List Int), ([] : List Int), ([] : List Int), 0)))
 fun j1 =>
 AN ((decide (3 < (p0.fb.length : Int))))
  (j1 true)
  (j1 (decide (4 < (p0.fy.length : Int))))
def CI (N : Nat) (p0 : List (List Bool)) (p1 : Int) (p2 : Int) (j2 : Unit → Option Bool) : Nat → Int → Option Bool
 | 0, _ => none
 | n2 + 1, v2 =>
  AN ((decide (v2 < p1)))
   ((BB p0 v2).bind fun v5 =>
   AN (((v5.length : Int) != p2))
    (some false)
    (CI N p0 p1 p2 j2 n2 (wI .i64 (v2 + 1))))
   (j2 ())
def DT (N : Nat) (p0 : List (List Bool)) (p1 : Int) (p2 : Int) : Option Bool :=
 AN (((p0.length : Int) != p1))
  (some false)
  (CI N p0 p1 p2 (fun (_ : Unit) =>
   some true) N 0)
def Cg (N : Nat) (p1 : AC) (j22 : Unit → Option Int) : Nat → Int → Option Int
 | 0, _ => none
 | n22 + 1, v22 =>
  AN ((decide (v22 < (p1.fo.length : Int))))
   ((BB p1.fo v22).bind fun v25 =>
   (BB v25 v22).bind fun v26 =>
   AN ((!v26))
    (some 1)
    (Cg N p1 j22 n22 (wI .i64 (v22 + 1))))
   (j22 ())
def EX (N : Nat) (p0 : Ab) (p1 : AC) : Option Int :=
 Bc (fun (v1 : Bool) =>
  AN v1
   (some 1)
   (Bc (fun (v7 : Bool) =>
    AN v7
     (some 4)
     ((BB p0.fb p1.fg).bind fun v12 =>
     (BB p0.fb p1.fk).bind fun v13 =>
     (DT N p1.fq v12 v13).bind fun v14 =>
     AN ((!v14))
      (some 6)
      (AN ((p1.ff != 4))
       (AN (((p1.fo.length : Int) != 0))
        (some 6)
        (some 0))
       ((BB p0.fb p1.fg).bind fun v18 =>
       (BB p0.fb p1.fg).bind fun v19 =>
       (DT N p1.fo v18 v19).bind fun v20 =>
       AN ((!v20))
        (some 6)
        (Cg N p1 (fun (_ : Unit) =>
         some 0) N 0)))))
   fun j7 =>
   AN ((decide (p1.fg < 0)))
    (j7 true)
    (AN ((decide ((p0.fb.length : Int) ≤ p1.fg)))
     (j7 true)
     (AN ((decide (p1.fk < 0)))
      (j7 true)
      (j7 (decide ((p0.fb.length : Int) ≤ p1.fk)))))))
 fun j1 =>
 AN ((decide (p1.ff < 1)))
  (j1 true)
  (AN ((decide (4 < p1.ff)))
   (j1 true)
   (AN p1.fp
    ((A5 N p1).bind fun v5 =>
    j1 v5)
    (j1 false)))
def Bj (N : Nat) (p0 : Ab) (j7 : Unit → Option Int) : Nat → Int → Option Int
 | 0, _ => none
 | n7 + 1, v7 =>
  AN ((decide (v7 < (p0.fb.length : Int))))
   ((BB p0.fb v7).bind fun v10 =>
   Bc (fun (v11 : Bool) =>
    AN v11
     (some 7)
     (Bj N p0 j7 n7 (wI .i64 (v7 + 1))))
   fun j11 =>
   AN ((decide (v10 < 1)))
    (j11 true)
    (AN ((decide (6 < v10)))
     (j11 true)
     ((BB p0.fi v7).bind fun v14 =>
     AN ((decide (v14 < 0)))
      (j11 true)
      ((BB p0.fi v7).bind fun v16 =>
      AN ((decide (v10 ≤ v16)))
       (j11 true)
       ((BB p0.fj v7).bind fun v18 =>
       AN ((decide (v18 < 0)))
        (j11 true)
        ((BB p0.fj v7).bind fun v20 =>
        j11 (decide (v10 ≤ v20))))))))
   (j7 ())
def Bg (N : Nat) (p0 : Ab) (j22 : Unit → Option Int) : Nat → Int → Option Int
 | 0, _ => none
 | n22 + 1, v22 =>
  AN ((decide (v22 < (p0.fe.length : Int))))
   ((BB p0.fe v22).bind fun v25 =>
   (EX N p0 v25).bind fun v26 =>
   AN ((v26 != 0))
    (some v26)
    (Bg N p0 j22 n22 (wI .i64 (v22 + 1))))
   (j22 ())
def CK (N : Nat) (p0 : Ab) : Option Int :=
 Bc (fun (v1 : Bool) =>
  AN v1
   (some 3)
   (Bc (fun (v4 : Bool) =>
    AN v4
     (some 6)
     (Bj N p0 (fun (_ : Unit) =>
      Bg N p0 (fun (_ : Unit) =>
       some 0) N 0) N 0))
   fun j4 =>
   AN (((p0.fi.length : Int) != (p0.fb.length : Int)))
    (j4 true)
    (j4 ((p0.fj.length : Int) != (p0.fb.length : Int)))))
 fun j1 =>
 AN ((decide (6 < (p0.fb.length : Int))))
  (j1 true)
  (j1 (decide (12 < (p0.fe.length : Int))))
def Co (N : Nat) (p0 : Ab) (j3 : ((List Int) × (List Int)) → Option (Aa × Int)) : Nat → ((List Int) × (List Int) × Int) → Option (Aa × Int)
 | 0, _ => none
 | n3 + 1, v3 =>
  AN ((decide (v3.2.2 < (p0.fb.length : Int))))
   ((BB p0.fi v3.2.2).bind fun v6 =>
   (DQ (v3.1.length + (([v6] : List Int)).length ≤ DC)).bind fun _ =>
   (DQ (v3.2.1.length + (([(-1)] : List Int)).length ≤ DC)).bind fun _ =>
   Co N p0 j3 n3 (v3.1 ++ (([v6] : List Int)), v3.2.1 ++ (([(-1)] : List Int)), (wI .i64 (v3.2.2 + 1))))
   (j3 (v3.1, v3.2.1))
def Bn (N : Nat) (p0 : Ab) (j9 : ((List Int)) → Option (Aa × Int)) : Nat → ((List Int) × Int) → Option (Aa × Int)
 | 0, _ => none
 | n9 + 1, v9 =>
  AN ((decide (v9.2 < (p0.fe.length : Int))))
   (Bc (fun (v12 : Int) =>
    (DQ (v9.1.length + (([v12] : List Int)).length ≤ DC)).bind fun _ =>
    Bn N p0 j9 n9 (v9.1 ++ (([v12] : List Int)), (wI .i64 (v9.2 + 1))))
   fun j12 =>
   (BB p0.fe v9.2).bind fun v13 =>
   (A5 N v13).bind fun v14 =>
   AN v14
    ((BB p0.fe v9.2).bind fun v16 =>
    (BB p0.fi v16.fg).bind fun v17 =>
    (DQ (0 ≤ v17)).bind fun _ =>
    j12 (D7 .u8 1 v17))
    (j12 0))
   (j9 v9.1)
def D5 (N : Nat) (p0 : Ab) : Option (Aa × Int) :=
 (CK N p0).bind fun v1 =>
 AN ((v1 != 0))
  (some ((Aa.mk (([] : List Int)) (([] : List Int)) (([] : List Int))), v1))
  (Co N p0 (fun (v4 : (List Int) × (List Int)) =>
   Bn N p0 (fun (v10 : (List Int)) =>
    some ((Aa.mk v4.1 v4.2 v10), 0)) N (([] : List Int), 0)) N (([] : List Int), ([] : List Int), 0))
def EF (_ : Nat) (p0 : Aa) : Option Aa :=
 (DQ ((([] : List Int)).length + p0.fd.length ≤ DC)).bind fun _ =>
 (DQ ((([] : List Int)).length + p0.fa.length ≤ DC)).bind fun _ =>
 (DQ ((([] : List Int)).length + p0.fc.length ≤ DC)).bind fun _ =>
 some ((Aa.mk ((([] : List Int)) ++ p0.fd) ((([] : List Int)) ++ p0.fa) ((([] : List Int)) ++ p0.fc)))
def CN (N : Nat) (p0 : Aa) (j1 : Int → Option ((List Aa))) : Nat → (Int × Int) → Option ((List Aa))
 | 0, _ => none
 | n1 + 1, v1 =>
  AN ((decide (v1.2 < (p0.fa.length : Int))))
   (Bc (fun (v4 : Int) =>
    CN N p0 j1 n1 (v4, (wI .i64 (v1.2 + 1))))
   fun j4 =>
   (BB p0.fa v1.2).bind fun v5 =>
   AN ((decide (0 ≤ v5)))
    (j4 (wI .i64 (v1.1 + 1)))
    (j4 v1.1))
   (j1 v1.1)
def Ca (N : Nat) (p0 : Aa) (v7 : (List Aa) × Int) (j12 : ((List Int)) → Option ((List Aa))) : Nat → ((List Int) × Int × Int) → Option ((List Aa))
 | 0, _ => none
 | n12 + 1, v12 =>
  AN ((decide (v12.2.2 < (p0.fa.length : Int))))
   (Bc (fun (v15 : (List Int) × Int) =>
    Ca N p0 v7 j12 n12 (v15.1, v15.2, (wI .i64 (v12.2.2 + 1))))
   fun j15 =>
   (BB p0.fa v12.2.2).bind fun v16 =>
   AN ((decide (v16 < 0)))
    (j15 (v12.1, v12.2.1))
    (Bc (fun (v18 : (List Int)) =>
     j15 (v18, (wI .i64 (v12.2.1 + 1))))
    fun j18 =>
    (DQ (0 ≤ v12.2.1)).bind fun _ =>
    AN (((vF ((Fo .i64 v7.2 v12.2.1)) 2) == 1))
     ((BB v12.1 v12.2.2).bind fun _ =>
     j18 (v12.1.set ((v12.2.2).toNat) ((-1))))
     (j18 v12.1)))
   (j12 v12.1)
def BJ (N : Nat) (p0 : Aa) (v2 : Int) (j7 : ((List Aa)) → Option ((List Aa))) : Nat → ((List Aa) × Int) → Option ((List Aa))
 | 0, _ => none
 | n7 + 1, v7 =>
  (DQ (0 ≤ v2)).bind fun _ =>
  AN ((decide (v7.2 < (D7 .i64 1 v2))))
   ((EF N p0).bind fun v11 =>
   Ca N p0 v7 (fun (v13 : (List Int)) =>
    (DQ (v7.1.length + (([(Aa.mk v11.fd v13 v11.fc)] : List Aa)).length ≤ DC)).bind fun _ =>
    BJ N p0 v2 j7 n7 (v7.1 ++ (([(Aa.mk v11.fd v13 v11.fc)] : List Aa)), (wI .i64 (v7.2 + 1)))) N (v11.fa, 0, 0))
   (j7 v7.1)
def EK (N : Nat) (p0 : Aa) : Option ((List Aa)) :=
 CN N p0 (fun (v2 : Int) =>
  BJ N p0 v2 (fun (v8 : (List Aa)) =>
   some v8) N (([] : List Aa), 0)) N (0, 0)
def BQ (_ : Nat) (p0 : Aa) (p1 : Int) : Option Int :=
 (BB p0.fd p1).bind fun v1 =>
 (DQ (0 ≤ v1)).bind fun _ =>
 Bc (fun (v3 : Int) =>
  some v3)
 fun j3 =>
 (BB p0.fa p1).bind fun v4 =>
 AN ((decide (0 ≤ v4)))
  ((BB p0.fa p1).bind fun v6 =>
  (DQ (0 ≤ v6)).bind fun _ =>
  j3 (MG .u8 ((D7 .u8 1 v1)) ((D7 .u8 1 v6))))
  (j3 (D7 .u8 1 v1))
def CH (_ : Nat) (p0 : Int) (p1 : Int) : Option Bool :=
 (DQ (0 ≤ p1)).bind fun _ =>
 some (((F5 .u8 ((Fo .u8 p0 p1)) 1) == 1))
def Bu (N : Nat) (p0 : Ab) (p1 : Aa) (v1 : (List Ad) × Int) (v4 : AC) (v10 : (List Ad) × Int) (j17 : ((List Ad) × Bool) → Option ((List Ad))) : Nat → ((List Ad) × Bool × Int) → Option ((List Ad))
 | 0, _ => none
 | n17 + 1, v17 =>
  (BB p0.fb v4.fk).bind fun v19 =>
  AN ((decide (v17.2.2 < v19)))
   (Bc (fun (v21 : (List Ad) × Bool) =>
    Bu N p0 p1 v1 v4 v10 j17 n17 (v21.1, v21.2, (wI .i64 (v17.2.2 + 1))))
   fun j21 =>
   (BQ N p1 v4.fk).bind fun v22 =>
   (CH N v22 v17.2.2).bind fun v23 =>
   AN ((!v23))
    (j21 (v17.1, v17.2.1))
    (Bc (fun (v25 : Bool) =>
     Bc (fun (v29 : Bool) =>
      AN v29
       ((DQ (v17.1.length + (([(Ad.mk v1.2 v10.2 v17.2.2)] : List Ad)).length ≤ DC)).bind fun _ =>
       j21 (v17.1 ++ (([(Ad.mk v1.2 v10.2 v17.2.2)] : List Ad)), v25))
       (j21 (v17.1, v25)))
     fun j29 =>
     AN ((!v4.fp))
      ((BB v4.fq v10.2).bind fun v31 =>
      (BB v31 v17.2.2).bind fun v32 =>
      j29 (!v32))
      (j29 false))
    fun j25 =>
    AN v17.2.1
     (j25 true)
     ((BB v4.fq v10.2).bind fun v27 =>
     (BB v27 v17.2.2).bind fun v28 =>
     j25 v28)))
   (j17 (v17.1, v17.2.1))
def BS (N : Nat) (p0 : Ab) (p1 : Aa) (v1 : (List Ad) × Int) (v4 : AC) (v6 : Int) (j10 : ((List Ad)) → Option ((List Ad))) : Nat → ((List Ad) × Int) → Option ((List Ad))
 | 0, _ => none
 | n10 + 1, v10 =>
  (BB p0.fb v4.fg).bind fun v12 =>
  AN ((decide (v10.2 < v12)))
   (Bc (fun (v14 : (List Ad)) =>
    BS N p0 p1 v1 v4 v6 j10 n10 (v14, (wI .i64 (v10.2 + 1))))
   fun j14 =>
   (CH N v6 v10.2).bind fun v15 =>
   AN ((!v15))
    (j14 v10.1)
    (Bu N p0 p1 v1 v4 v10 (fun (v18 : (List Ad) × Bool) =>
     Bc (fun (v35 : Bool) =>
      AN v35
       ((DQ (v18.1.length + (([(Ad.mk v1.2 v10.2 ((-1)))] : List Ad)).length ≤ DC)).bind fun _ =>
       j14 (v18.1 ++ (([(Ad.mk v1.2 v10.2 ((-1)))] : List Ad))))
       (j14 v18.1))
     fun j35 =>
     AN v4.fp
      (j35 (!v18.2))
      (j35 false)) N (v10.1, false, 0)))
   (j10 v10.1)
def CR (N : Nat) (p0 : Ab) (p1 : Aa) (j1 : ((List Ad)) → Option ((List Ad))) : Nat → ((List Ad) × Int) → Option ((List Ad))
 | 0, _ => none
 | n1 + 1, v1 =>
  AN ((decide (v1.2 < (p0.fe.length : Int))))
   ((BB p0.fe v1.2).bind fun v4 =>
   (BQ N p1 v4.fg).bind fun v5 =>
   Bc (fun (v6 : Int) =>
    BS N p0 p1 v1 v4 v6 (fun (v11 : (List Ad)) =>
     CR N p0 p1 j1 n1 (v11, (wI .i64 (v1.2 + 1)))) N (v1.1, 0))
   fun j6 =>
   (A5 N v4).bind fun v7 =>
   AN v7
    ((BB p1.fc v1.2).bind fun v9 =>
    j6 v9)
    (j6 v5))
   (j1 v1.1)
def EW (N : Nat) (p0 : Ab) (p1 : Aa) : Option ((List Ad)) :=
 CR N p0 p1 (fun (v2 : (List Ad)) =>
  some v2) N (([] : List Ad), 0)
def EE (N : Nat) (p0 : Ab) (p1 : Aa) : Option Bool :=
 (EW N p0 p1).bind fun v1 =>
 some (((v1.length : Int) == 0))
def Cj (N : Nat) (p0 : Ab) (v1 : (List Aa)) (j2 : Unit → Option Bool) : Nat → Int → Option Bool
 | 0, _ => none
 | n2 + 1, v2 =>
  AN ((decide (v2 < (v1.length : Int))))
   ((BB v1 v2).bind fun v5 =>
   (EE N p0 v5).bind fun v6 =>
   AN ((!v6))
    (some false)
    (Cj N p0 v1 j2 n2 (wI .i64 (v2 + 1))))
   (j2 ())
def BE (N : Nat) (p0 : Ab) (p1 : Aa) : Option Bool :=
 (EK N p1).bind fun v1 =>
 Cj N p0 v1 (fun (_ : Unit) =>
  some true) N 0
def Cn (N : Nat) (p0 : Ab) (p1 : Aa) (j7 : Unit → Option Int) : Nat → Int → Option Int
 | 0, _ => none
 | n7 + 1, v7 =>
  AN ((decide (v7 < (p0.fb.length : Int))))
   (Bc (fun (v10 : Bool) =>
    AN v10
     (some 7)
     ((BB p1.fd v7).bind fun v21 =>
     (BB p1.fa v7).bind fun v22 =>
     AN ((v21 == v22))
      (some 1)
      (Cn N p0 p1 j7 n7 (wI .i64 (v7 + 1)))))
   fun j10 =>
   (BB p1.fd v7).bind fun v11 =>
   AN ((decide (v11 < 0)))
    (j10 true)
    ((BB p1.fd v7).bind fun v13 =>
    (BB p0.fb v7).bind fun v14 =>
    AN ((decide (v14 ≤ v13)))
     (j10 true)
     ((BB p1.fa v7).bind fun v16 =>
     AN ((decide (v16 < (-1))))
      (j10 true)
      ((BB p1.fa v7).bind fun v18 =>
      (BB p0.fb v7).bind fun v19 =>
      j10 (decide (v19 ≤ v18))))))
   (j7 ())
def Cd (N : Nat) (p0 : Ab) (p1 : Aa) (j24 : Unit → Option Int) : Nat → Int → Option Int
 | 0, _ => none
 | n24 + 1, v24 =>
  AN ((decide (v24 < (p0.fe.length : Int))))
   ((BB p0.fe v24).bind fun v27 =>
   (BB p0.fb v27.fg).bind fun v28 =>
   (DQ (0 ≤ v28)).bind fun _ =>
   Bc (fun (v30 : Bool) =>
    AN v30
     (some 1)
     (Cd N p0 p1 j24 n24 (wI .i64 (v24 + 1))))
   fun j30 =>
   (A5 N v27).bind fun v31 =>
   AN ((!v31))
    ((BB p1.fc v24).bind fun v33 =>
    AN ((v33 != 0))
     (j30 true)
     ((A5 N v27).bind fun v35 =>
     AN v35
      ((BB p1.fc v24).bind fun v37 =>
      AN (((DH .u8 v37 ((wI .u8 ((D7 .u8 1 v28) - 1)))) != 0))
       (j30 true)
       ((BQ N p1 v27.fg).bind fun v39 =>
       (BB p1.fc v24).bind fun v40 =>
       j30 ((DH .u8 v39 v40) != 0)))
      (j30 false)))
    ((A5 N v27).bind fun v41 =>
    AN v41
     ((BB p1.fc v24).bind fun v43 =>
     AN (((DH .u8 v43 ((wI .u8 ((D7 .u8 1 v28) - 1)))) != 0))
      (j30 true)
      ((BQ N p1 v27.fg).bind fun v45 =>
      (BB p1.fc v24).bind fun v46 =>
      j30 ((DH .u8 v45 v46) != 0)))
     (j30 false)))
   (j24 ())
def Dx (N : Nat) (p0 : Ab) (p1 : Aa) : Option Int :=
 (CK N p0).bind fun v1 =>
 AN ((v1 != 0))
  (some v1)
  (Bc (fun (v3 : Bool) =>
   AN v3
    (some 6)
    (Cn N p0 p1 (fun (_ : Unit) =>
     Cd N p0 p1 (fun (_ : Unit) =>
      some 0) N 0) N 0))
  fun j3 =>
  AN (((p1.fd.length : Int) != (p0.fb.length : Int)))
   (j3 true)
   (AN (((p1.fa.length : Int) != (p0.fb.length : Int)))
    (j3 true)
    (j3 ((p1.fc.length : Int) != (p0.fe.length : Int)))))
def EQ (_ : Nat) (p0 : Aj) : Option Bool :=
 Bc (fun (v1 : Bool) =>
  some v1)
 fun j1 =>
 AN ((decide (1 ≤ p0.ff)))
  (AN ((decide (p0.ff ≤ 4)))
   (AN ((decide (0 ≤ p0.fh)))
    (AN ((decide (0 ≤ p0.fm)))
     (AN ((p0.ff == 1))
      (j1 true)
      (j1 (p0.fm == 0)))
     (j1 false))
    (j1 false))
   (j1 false))
  (j1 false)
def Cf (N : Nat) (p0 : Ab) (p2 : Aj) (j12 : ((List Int)) → Option (Aa × Bool)) : Nat → ((List Int) × Int) → Option (Aa × Bool)
 | 0, _ => none
 | n12 + 1, v12 =>
  AN ((decide (v12.2 < (p0.fe.length : Int))))
   (Bc (fun (v15 : (List Int)) =>
    Cf N p0 p2 j12 n12 (v15, (wI .i64 (v12.2 + 1))))
   fun j15 =>
   Bc (fun (v16 : Bool) =>
    AN v16
     ((BB v12.1 v12.2).bind fun v22 =>
     (DQ (0 ≤ p2.fm)).bind fun _ =>
     (BB v12.1 v12.2).bind fun _ =>
     j15 (v12.1.set ((v12.2).toNat) ((MG .u8 v22 ((D7 .u8 1 p2.fm))))))
     (j15 v12.1))
   fun j16 =>
   (BB p0.fe v12.2).bind fun v17 =>
   AN ((v17.fg == p2.fh))
    ((BB p0.fe v12.2).bind fun v19 =>
    (A5 N v19).bind fun v20 =>
    j16 v20)
    (j16 false))
   (j12 v12.1)
def BU (N : Nat) (p0 : Ab) (p1 : Aa) (p2 : Aj) (v32 : AC) (v35 : Int) (j38 : Unit → Option (Aa × Bool)) : Nat → Int → Option (Aa × Bool)
 | 0, _ => none
 | n38 + 1, v38 =>
  (BB p0.fb v32.fg).bind fun v40 =>
  AN ((decide (v38 < v40)))
   (Bc (fun (v42 : Bool) =>
    Bc (fun (v47 : Bool) =>
     AN v47
      (some ((Aa.mk (([] : List Int)) (([] : List Int)) (([] : List Int))), false))
      (BU N p0 p1 p2 v32 v35 j38 n38 (wI .i64 (v38 + 1))))
    fun j47 =>
    AN v42
     (AN ((v32.ff == 4))
      ((BB v32.fo v38).bind fun v50 =>
      (BB p1.fd v32.fg).bind fun v51 =>
      (BB v50 v51).bind fun v52 =>
      j47 (!v52))
      (j47 false))
     (j47 false))
   fun j42 =>
   (BB p1.fc p2.fh).bind fun v43 =>
   (CH N v43 v38).bind fun v44 =>
   AN v44
    ((CH N v35 v38).bind fun v46 =>
    j42 (!v46))
    (j42 false))
   (j38 ())
def Cz (N : Nat) (p0 : Ab) (p1 : Aa) (p2 : Aj) : Option (Aa × Bool) :=
 (DQ ((([] : List Int)).length + p1.fd.length ≤ DC)).bind fun _ =>
 (DQ ((([] : List Int)).length + p1.fa.length ≤ DC)).bind fun _ =>
 (DQ ((([] : List Int)).length + p1.fc.length ≤ DC)).bind fun _ =>
 Bc (fun (v4 : (List Int) × (List Int) × (List Int)) =>
  some ((Aa.mk v4.1 v4.2.1 v4.2.2), true))
 fun j4 =>
 AN ((p2.ff == 1))
  (Bc (fun (v6 : Bool) =>
   AN v6
    (some ((Aa.mk (([] : List Int)) (([] : List Int)) (([] : List Int))), false))
    ((BB ((([] : List Int)) ++ p1.fa) p2.fh).bind fun _ =>
    Cf N p0 p2 (fun (v13 : (List Int)) =>
     j4 ((([] : List Int)) ++ p1.fd, ((([] : List Int)) ++ p1.fa).set ((p2.fh).toNat) p2.fm, v13)) N ((([] : List Int)) ++ p1.fc, 0)))
  fun j6 =>
  (BB p1.fa p2.fh).bind fun v7 =>
  AN ((decide (0 ≤ v7)))
   (j6 true)
   ((BB p1.fd p2.fh).bind fun v9 =>
   j6 (p2.fm == v9)))
  (AN ((p2.ff == 2))
   ((BB p1.fa p2.fh).bind fun v26 =>
   AN ((decide (v26 < 0)))
    (some ((Aa.mk (([] : List Int)) (([] : List Int)) (([] : List Int))), false))
    ((BB p1.fa p2.fh).bind fun v28 =>
    (BB ((([] : List Int)) ++ p1.fd) p2.fh).bind fun _ =>
    (BB ((([] : List Int)) ++ p1.fa) p2.fh).bind fun _ =>
    j4 (((([] : List Int)) ++ p1.fd).set ((p2.fh).toNat) v28, ((([] : List Int)) ++ p1.fa).set ((p2.fh).toNat) ((-1)), (([] : List Int)) ++ p1.fc)))
   (AN ((p2.ff == 3))
    ((BB p0.fe p2.fh).bind fun v32 =>
    (A5 N v32).bind fun v33 =>
    AN ((!v33))
     (some ((Aa.mk (([] : List Int)) (([] : List Int)) (([] : List Int))), false))
     ((BQ N p1 v32.fg).bind fun v35 =>
     (BB p1.fc p2.fh).bind fun v36 =>
     AN ((v36 == v35))
      (some ((Aa.mk (([] : List Int)) (([] : List Int)) (([] : List Int))), false))
      (BU N p0 p1 p2 v32 v35 (fun (_ : Unit) =>
       (BB ((([] : List Int)) ++ p1.fc) p2.fh).bind fun _ =>
       j4 ((([] : List Int)) ++ p1.fd, (([] : List Int)) ++ p1.fa, ((([] : List Int)) ++ p1.fc).set ((p2.fh).toNat) v35)) N 0)))
    ((BB p1.fa p2.fh).bind fun v55 =>
    AN ((decide (v55 < 0)))
     (some ((Aa.mk (([] : List Int)) (([] : List Int)) (([] : List Int))), false))
     ((BB ((([] : List Int)) ++ p1.fa) p2.fh).bind fun _ =>
     j4 ((([] : List Int)) ++ p1.fd, ((([] : List Int)) ++ p1.fa).set ((p2.fh).toNat) ((-1)), (([] : List Int)) ++ p1.fc)))))
def EU (N : Nat) (p0 : Ab) (p1 : Aa) (p2 : Aj) : Option (Aa × Int) :=
 (Dx N p0 p1).bind fun v1 =>
 AN ((v1 != 0))
  (some ((Aa.mk (([] : List Int)) (([] : List Int)) (([] : List Int))), v1))
  ((EQ N p2).bind fun v3 =>
  AN ((!v3))
   (some ((Aa.mk (([] : List Int)) (([] : List Int)) (([] : List Int))), 1))
   (Bc (fun (v5 : Bool) =>
    AN v5
     (some ((Aa.mk (([] : List Int)) (([] : List Int)) (([] : List Int))), 4))
     (Bc (fun (v11 : Bool) =>
      AN v11
       (some ((Aa.mk (([] : List Int)) (([] : List Int)) (([] : List Int))), 4))
       ((Cz N p0 p1 p2).bind fun v15 =>
       AN ((!v15.2))
        (some ((Aa.mk (([] : List Int)) (([] : List Int)) (([] : List Int))), 11))
        (some (v15.1, 0))))
     fun j11 =>
     AN ((p2.ff == 1))
      ((BB p0.fb p2.fh).bind fun v13 =>
      j11 (decide (v13 ≤ p2.fm)))
      (j11 false)))
   fun j5 =>
   AN ((p2.ff == 3))
    (AN ((decide ((p0.fe.length : Int) ≤ p2.fh)))
     (j5 true)
     (AN ((p2.ff != 3))
      (j5 (decide ((p0.fb.length : Int) ≤ p2.fh)))
      (j5 false)))
    (AN ((p2.ff != 3))
     (j5 (decide ((p0.fb.length : Int) ≤ p2.fh)))
     (j5 false))))
def Cq (N : Nat) (p0 : Ab) (p1 : Aa) (v1 : (List Aj) × Int) (v4 : (List Aj) × Int) (j7 : ((List Aj)) → Option ((List Aj))) : Nat → ((List Aj) × Int) → Option ((List Aj))
 | 0, _ => none
 | n7 + 1, v7 =>
  AN ((decide (v7.2 < 6)))
   (Bc (fun (v10 : (List Aj)) =>
    Cq N p0 p1 v1 v4 j7 n7 (v10, (wI .i64 (v7.2 + 1))))
   fun j10 =>
   (EU N p0 p1 ((Aj.mk v1.2 v4.2 v7.2))).bind fun v11 =>
   AN ((v11.2 == 0))
    ((DQ (v7.1.length + (([(Aj.mk v1.2 v4.2 v7.2)] : List Aj)).length ≤ DC)).bind fun _ =>
    j10 (v7.1 ++ (([(Aj.mk v1.2 v4.2 v7.2)] : List Aj))))
    (j10 v7.1))
   (j7 v7.1)
def Cp (N : Nat) (p0 : Ab) (p1 : Aa) (v1 : (List Aj) × Int) (j4 : ((List Aj)) → Option ((List Aj))) : Nat → ((List Aj) × Int) → Option ((List Aj))
 | 0, _ => none
 | n4 + 1, v4 =>
  AN ((decide (v4.2 < (Ua ((p0.fb.length : Int)) ((p0.fe.length : Int))))))
   (Cq N p0 p1 v1 v4 (fun (v8 : (List Aj)) =>
    Cp N p0 p1 v1 j4 n4 (v8, (wI .i64 (v4.2 + 1)))) N (v4.1, 0))
   (j4 v4.1)
def BF (N : Nat) (p0 : Ab) (p1 : Aa) (j1 : ((List Aj)) → Option ((List Aj))) : Nat → ((List Aj) × Int) → Option ((List Aj))
 | 0, _ => none
 | n1 + 1, v1 =>
  AN ((decide (v1.2 ≤ 3)))
   (Cp N p0 p1 v1 (fun (v5 : (List Aj)) =>
    BF N p0 p1 j1 n1 (v5, (wI .i64 (v1.2 + 1)))) N (v1.1, 0))
   (j1 v1.1)
def CE (N : Nat) (p0 : Ab) (p1 : Aa) : Option ((List Aj)) :=
 BF N p0 p1 (fun (v2 : (List Aj)) =>
  some v2) N (([] : List Aj), 1)
def DG (N : Nat) (p0 : List Int) (p1 : List Int) (j1 : Unit → Option Int) : Nat → Int → Option Int
 | 0, _ => none
 | n1 + 1, v1 =>
  Bc (fun (v3 : Bool) =>
   AN v3
    ((BB p0 v1).bind fun v6 =>
    (BB p1 v1).bind fun v7 =>
    AN ((decide (v6 < v7)))
     (some ((-1)))
     ((BB p0 v1).bind fun v9 =>
     (BB p1 v1).bind fun v10 =>
     AN ((decide (v10 < v9)))
      (some 1)
      (DG N p0 p1 j1 n1 (wI .i64 (v1 + 1)))))
    (j1 ()))
  fun j3 =>
  AN ((decide (v1 < (p0.length : Int))))
   (j3 (decide (v1 < (p1.length : Int))))
   (j3 false)
def DM (N : Nat) (p0 : List Int) (p1 : List Int) : Option Int :=
 DG N p0 p1 (fun (_ : Unit) =>
  AN ((decide ((p0.length : Int) < (p1.length : Int))))
   (some ((-1)))
   (AN ((decide ((p1.length : Int) < (p0.length : Int))))
    (some 1)
    (some 0))) N 0
def C5 (N : Nat) (p0 : List Int) (j1 : ((List Int)) → Option ((List Int))) : Nat → ((List Int) × Int) → Option ((List Int))
 | 0, _ => none
 | n1 + 1, v1 =>
  AN ((decide (v1.2 < (p0.length : Int))))
   ((BB p0 v1.2).bind fun v4 =>
   (DQ (v1.1.length + (([(wI .i64 v4)] : List Int)).length ≤ DC)).bind fun _ =>
   C5 N p0 j1 n1 (v1.1 ++ (([(wI .i64 v4)] : List Int)), (wI .i64 (v1.2 + 1))))
   (j1 v1.1)
def DE (N : Nat) (p0 : List Int) : Option ((List Int)) :=
 C5 N p0 (fun (v2 : (List Int)) =>
  some v2) N (([] : List Int), 0)
def AY (N : Nat) (p0 : Aa) (p1 : Aa) : Option Int :=
 (DM N p0.fd p1.fd).bind fun v1 =>
 AN ((v1 != 0))
  (some v1)
  ((DM N p0.fa p1.fa).bind fun v3 =>
  AN ((v3 != 0))
   (some v3)
   ((DE N p0.fc).bind fun v5 =>
   (DE N p1.fc).bind fun v6 =>
   (DM N v5 v6).bind fun v7 =>
   some v7))
def Dt (N : Nat) (p0 : List Aa) (p1 : Aa) (j1 : Int → Option (Int × Bool)) : Nat → Int → Option (Int × Bool)
 | 0, _ => none
 | n1 + 1, v1 =>
  Bc (fun (v3 : Bool) =>
   AN v3
    (Dt N p0 p1 j1 n1 (wI .i64 (v1 + 1)))
    (j1 v1))
  fun j3 =>
  AN ((decide (v1 < (p0.length : Int))))
   ((BB p0 v1).bind fun v5 =>
   (AY N v5 p1).bind fun v6 =>
   j3 (decide (v6 < 0)))
   (j3 false)
def Dw (N : Nat) (p0 : List Aa) (p1 : Aa) : Option (Int × Bool) :=
 Dt N p0 p1 (fun (v2 : Int) =>
  Bc (fun (v8 : Bool) =>
   some (v2, v8))
  fun j8 =>
  AN ((decide (v2 < (p0.length : Int))))
   ((BB p0 v2).bind fun v10 =>
   (AY N v10 p1).bind fun v11 =>
   j8 (v11 == 0))
   (j8 false)) N 0
def Cc (N : Nat) (p0 : Ab) (p1 : Int) (v4 : (List Aa) × (List Aa) × Int) (v8 : (List Aj)) (j9 : ((List Aa) × (List Aa)) → Option ((List Aa) × Bool)) : Nat → ((List Aa) × (List Aa) × Int) → Option ((List Aa) × Bool)
 | 0, _ => none
 | n9 + 1, v9 =>
  AN ((decide (v9.2.2 < (v8.length : Int))))
   (Bc (fun (v12 : (List Aa) × (List Aa)) =>
    Cc N p0 p1 v4 v8 j9 n9 (v12.1, v12.2, (wI .i64 (v9.2.2 + 1))))
   fun j12 =>
   (BB v9.1 v4.2.2).bind fun v13 =>
   (BB v8 v9.2.2).bind fun v14 =>
   (Cz N p0 v13 v14).bind fun v15 =>
   (Dw N v9.2.1 v15.1).bind fun v16 =>
   Bc (fun (v17 : Bool) =>
    AN v17
     (j12 (v9.1, v9.2.1))
     ((DQ (v9.1.length + (([v15.1] : List Aa)).length ≤ DC)).bind fun _ =>
     (DQ ((0 : Int) ≤ v16.1 ∧ 0 ≤ (v16.1).toNat ∧ (v16.1).toNat ≤ v9.2.1.length)).bind fun _ =>
     (DQ ((([] : List Aa)).length + (((v9.2.1.drop 0).take ((v16.1).toNat - 0))).length ≤ DC)).bind fun _ =>
     (DQ (((([] : List Aa)) ++ (((v9.2.1.drop 0).take ((v16.1).toNat - 0)))).length + (([v15.1] : List Aa)).length ≤ DC)).bind fun _ =>
     (DQ ((0 : Int) ≤ v16.1 ∧ (v16.1).toNat ≤ v9.2.1.length ∧ v9.2.1.length ≤ v9.2.1.length)).bind fun _ =>
     (DQ ((((([] : List Aa)) ++ (((v9.2.1.drop 0).take ((v16.1).toNat - 0)))) ++ (([v15.1] : List Aa))).length + (((v9.2.1.drop (v16.1).toNat).take (v9.2.1.length - (v16.1).toNat))).length ≤ DC)).bind fun _ =>
     AN ((decide (p1 < ((v9.1 ++ (([v15.1] : List Aa))).length : Int))))
      (some (([] : List Aa), false))
      (j12 (v9.1 ++ (([v15.1] : List Aa)), (((([] : List Aa)) ++ (((v9.2.1.drop 0).take ((v16.1).toNat - 0)))) ++ (([v15.1] : List Aa))) ++ (((v9.2.1.drop (v16.1).toNat).take (v9.2.1.length - (v16.1).toNat)))))))
   fun j17 =>
   AN v16.2
    (j17 true)
    ((BE N p0 v15.1).bind fun v19 =>
    j17 (!v19)))
   (j9 (v9.1, v9.2.1))
def CJ (N : Nat) (p0 : Ab) (p1 : Int) (j4 : ((List Aa)) → Option ((List Aa) × Bool)) : Nat → ((List Aa) × (List Aa) × Int) → Option ((List Aa) × Bool)
 | 0, _ => none
 | n4 + 1, v4 =>
  AN ((decide (v4.2.2 < (v4.1.length : Int))))
   ((BB v4.1 v4.2.2).bind fun v7 =>
   (CE N p0 v7).bind fun v8 =>
   Cc N p0 p1 v4 v8 (fun (v10 : (List Aa) × (List Aa)) =>
    CJ N p0 p1 j4 n4 (v10.1, v10.2, (wI .i64 (v4.2.2 + 1)))) N (v4.1, v4.2.1, 0))
   (j4 v4.2.1)
def EG (N : Nat) (p0 : Ab) (p1 : Int) : Option ((List Aa) × Bool) :=
 (D5 N p0).bind fun v1 =>
 (BE N p0 v1.1).bind fun v2 =>
 AN ((!v2))
  (some (([] : List Aa), true))
  (CJ N p0 p1 (fun (v5 : (List Aa)) =>
   some (v5, true)) N (([v1.1] : List Aa), ([v1.1] : List Aa), 0))
def FG (N : Nat) (p0 : BN) : Option (Ab × (List Aa) × Bool) :=
 (Fz N p0).bind fun v1 =>
 AN ((!v1.2))
  (some (v1.1, ([] : List Aa), false))
  ((EG N v1.1 300).bind fun v3 =>
  some (v1.1, v3.1, v3.2))
def B9 (_ : Nat) : Option Ab :=
 some ((Ab.mk (([2] : List Int)) (([0] : List Int)) (([1] : List Int)) (([(AC.mk 1 0 0 false (([([true, true] : List Bool), ([false, true] : List Bool)] : List (List Bool))) (([] : List (List Bool))))] : List AC))))
def EA (_ : Nat) (p0 : Int) (p1 : Int) : Option Bool :=
 Bc (fun (v1 : Bool) =>
  some v1)
 fun j1 =>
 AN ((decide (0 ≤ p0)))
  (j1 (decide (p0 < p1)))
  (j1 false)
def Hc (_ : Nat) (p0 : Int) (p1 : Bool) : Option Bool :=
 Bc (fun (v1 : Bool) =>
  some v1)
 fun j1 =>
 AN ((p0 == 1))
  (j1 true)
  (AN ((p0 == 2))
   (j1 true)
   (AN ((p0 == 3))
    (j1 (!p1))
    (AN ((p0 == 4))
     (j1 (!p1))
     (j1 false))))
def Ej (_ : Nat) (p0 : List Bool) (p1 : Int) : Option Bool :=
 some (((p0.length : Int) != p1))
def Bv (N : Nat) (p0 : List (List Bool)) (p1 : (List Bool) → Option Bool) (j1 : Unit → Option Int) : Nat → Int → Option Int
 | 0, _ => none
 | n1 + 1, v1 =>
  AN ((decide (v1 < (p0.length : Int))))
   ((BB p0 v1).bind fun v4 =>
   (p1 v4).bind fun v5 =>
   AN v5
    (some v1)
    (Bv N p0 p1 j1 n1 (wI .i64 (v1 + 1))))
   (j1 ())
def DN (N : Nat) (p0 : List (List Bool)) (p1 : (List Bool) → Option Bool) : Option Int :=
 Bv N p0 p1 (fun (_ : Unit) =>
  some ((-1))) N 0
def Dn (N : Nat) (p0 : List (List Bool)) (p1 : (List Bool) → Option Bool) : Option Bool :=
 (DN N p0 p1).bind fun v1 =>
 some ((decide (0 ≤ v1)))
def Fw (N : Nat) (p0 : List (List Bool)) (p1 : Int) (p2 : Int) : Option Bool :=
 Bc (fun (v1 : Bool) =>
  some v1)
 fun j1 =>
 AN (((p0.length : Int) == p1))
  ((Dn N p0 ((fun (x : List Bool) => Ej N x p2))).bind fun v3 =>
  j1 (!v3))
  (j1 false)
def DB (N : Nat) (p1 : AC) (j19 : Unit → Option Int) : Nat → Int → Option Int
 | 0, _ => none
 | n19 + 1, v19 =>
  AN ((decide (v19 < (p1.fo.length : Int))))
   ((BB p1.fo v19).bind fun v22 =>
   (BB v22 v19).bind fun v23 =>
   AN ((!v23))
    (some 1)
    (DB N p1 j19 n19 (wI .i64 (v19 + 1))))
   (j19 ())
def GD (N : Nat) (p0 : Ab) (p1 : AC) : Option Int :=
 (Hc N p1.ff p1.fp).bind fun v1 =>
 AN ((!v1))
  (some 1)
  (Bc (fun (v3 : Bool) =>
   AN v3
    (some 4)
    ((BB p0.fb p1.fg).bind fun v8 =>
    Bc (fun (v9 : Bool) =>
     AN v9
      (some 6)
      (DB N p1 (fun (_ : Unit) =>
       some 0) N 0))
    fun j9 =>
    (BB p0.fb p1.fk).bind fun v10 =>
    (Fw N p1.fq v8 v10).bind fun v11 =>
    AN ((!v11))
     (j9 true)
     (AN ((p1.ff == 4))
      ((Fw N p1.fo v8 v8).bind fun v14 =>
      AN ((!v14))
       (j9 true)
       (AN ((!((p1.ff == 4))))
        (j9 (decide (0 < (p1.fo.length : Int))))
        (j9 false)))
      (AN ((!((p1.ff == 4))))
       (j9 (decide (0 < (p1.fo.length : Int))))
       (j9 false)))))
  fun j3 =>
  (EA N p1.fg ((p0.fb.length : Int))).bind fun v4 =>
  AN ((!v4))
   (j3 true)
   ((EA N p1.fk ((p0.fb.length : Int))).bind fun v6 =>
   j3 (!v6)))
def Cb (N : Nat) (p0 : Ab) (j7 : Unit → Option Int) : Nat → Int → Option Int
 | 0, _ => none
 | n7 + 1, v7 =>
  AN ((decide (v7 < (p0.fb.length : Int))))
   ((BB p0.fb v7).bind fun v10 =>
   Bc (fun (v11 : Bool) =>
    AN v11
     (some 7)
     (Cb N p0 j7 n7 (wI .i64 (v7 + 1))))
   fun j11 =>
   AN ((decide (v10 < 1)))
    (j11 true)
    (AN ((decide (6 < v10)))
     (j11 true)
     ((BB p0.fi v7).bind fun v14 =>
     (EA N v14 v10).bind fun v15 =>
     AN ((!v15))
      (j11 true)
      ((BB p0.fj v7).bind fun v17 =>
      (EA N v17 v10).bind fun v18 =>
      j11 (!v18)))))
   (j7 ())
def B8 (N : Nat) (p0 : Ab) (j20 : Unit → Option Int) : Nat → Int → Option Int
 | 0, _ => none
 | n20 + 1, v20 =>
  AN ((decide (v20 < (p0.fe.length : Int))))
   ((BB p0.fe v20).bind fun v23 =>
   (GD N p0 v23).bind fun v24 =>
   AN ((v24 != 0))
    (some v24)
    (B8 N p0 j20 n20 (wI .i64 (v20 + 1))))
   (j20 ())
def CO (N : Nat) (p0 : Ab) : Option Int :=
 Bc (fun (v1 : Bool) =>
  AN v1
   (some 3)
   (Bc (fun (v4 : Bool) =>
    AN v4
     (some 6)
     (Cb N p0 (fun (_ : Unit) =>
      B8 N p0 (fun (_ : Unit) =>
       some 0) N 0) N 0))
   fun j4 =>
   AN (((p0.fi.length : Int) != (p0.fb.length : Int)))
    (j4 true)
    (j4 ((p0.fj.length : Int) != (p0.fb.length : Int)))))
 fun j1 =>
 AN ((decide (6 < (p0.fb.length : Int))))
  (j1 true)
  (j1 (decide (12 < (p0.fe.length : Int))))
def Bm (_ : Nat) (p0 : List Int) : Option ((List Int)) :=
 (DQ ((([] : List Int)).length + p0.length ≤ DC)).bind fun _ =>
 some ((([] : List Int)) ++ p0)
def HA (_ : Nat) (p0 : Int) (p1 : Int) : Option (Int × Int) :=
 some ((wI .u32 ((Fo .u64 ((wI .u64 ((wI .u64 p0) * (wI .u64 p1)))) 32))), (wI .u32 ((wI .u64 ((wI .u64 p0) * (wI .u64 p1))))))
def Ht (_ : Nat) (p0 : Int) (p1 : Int) : Option (Int × Int) :=
 some ((wI .u64 ((wI .u64 ((wI .u64 ((Fo .u64 p0 32) * (Fo .u64 p1 32))) + (Fo .u64 ((wI .u64 ((wI .u64 ((Fo .u64 p0 32) * (F5 .u64 p1 4294967295))) + (Fo .u64 ((wI .u64 ((F5 .u64 p0 4294967295) * (F5 .u64 p1 4294967295)))) 32)))) 32))) + (Fo .u64 ((wI .u64 ((F5 .u64 ((wI .u64 ((wI .u64 ((Fo .u64 p0 32) * (F5 .u64 p1 4294967295))) + (Fo .u64 ((wI .u64 ((F5 .u64 p0 4294967295) * (F5 .u64 p1 4294967295)))) 32)))) 4294967295) + (wI .u64 ((F5 .u64 p0 4294967295) * (Fo .u64 p1 32)))))) 32))), (wI .u64 (p0 * p1)))
def Ie (N : Nat) (p0 : Int) (p1 : Int) : Option (Int × Int) :=
 AN false
  ((HA N ((wI .u32 p0)) ((wI .u32 p1))).bind fun v2 =>
  some ((wI .u64 v2.1), (wI .u64 v2.2)))
  ((Ht N p0 p1).bind fun v3 =>
  some (v3.1, v3.2))
def Ee (N : Nat) (j9 : ((List Int)) → Option ((List Int))) : Nat → ((List Int) × Int) → Option ((List Int))
 | 0, _ => none
 | n9 + 1, v9 =>
  AN ((decide (v9.2 < (v9.1.length : Int))))
   ((DQ ((0 : Int) ≤ v9.2 ∧ (v9.2).toNat ≤ v9.1.length ∧ v9.1.length ≤ v9.1.length)).bind fun _ =>
   (DQ ((0 : Int) ≤ v9.2 ∧ 0 ≤ (v9.2).toNat ∧ (v9.2).toNat ≤ v9.1.length)).bind fun _ =>
   Ee N j9 n9 (Gv v9.1 ((v9.2).toNat) ((((v9.1.drop 0).take ((v9.2).toNat))).take (zB4 (((v9.1.drop 0).take ((v9.2).toNat))).length ((v9.1.length - (v9.2).toNat)))), (wI .i64 (v9.2 + (((zB4 (((v9.1.drop 0).take ((v9.2).toNat))).length ((v9.1.length - (v9.2).toNat))) : Nat) : Int)))))
   (j9 v9.1)
def EP (N : Nat) (p0 : List Int) (p1 : Int) : Option ((List Int)) :=
 Bc (fun (_ : Unit) =>
  (Ie N ((wI .u64 ((p0.length : Int)))) ((wI .u64 p1))).bind fun v3 =>
  Bc (fun (_ : Unit) =>
   (DQ ((0 : Int) ≤ (wI .i64 v3.2) ∧ (wI .i64 v3.2) ≤ (wI .i64 v3.2) ∧ (wI .i64 v3.2) ≤ (DC : Int))).bind fun _ =>
   Ee N (fun (v10 : (List Int)) =>
    some v10) N (Gv (uY ((wI .i64 v3.2)).toNat ((0 : Int))) 0 (p0.take (zB4 p0.length ((uY ((wI .i64 v3.2)).toNat ((0 : Int))).length))), (((zB4 p0.length ((uY ((wI .i64 v3.2)).toNat ((0 : Int))).length)) : Nat) : Int)))
  fun j4 =>
  Bc (fun (v5 : Bool) =>
   AN v5
    (none)
    (j4 ()))
  fun j5 =>
  AN ((decide (0 < v3.1)))
   (j5 true)
   (j5 (decide (9223372036854775807 < v3.2))))
 fun j1 =>
 AN ((decide (p1 < 0)))
  (none)
  (j1 ())
def FN (_ : Nat) (p0 : AC) : Option Bool :=
 Bc (fun (v1 : Bool) =>
  some v1)
 fun j1 =>
 AN ((p0.ff == 3))
  (j1 true)
  (j1 (p0.ff == 4))
def EB (N : Nat) (p0 : Ab) (j6 : ((List Int)) → Option (Aa × Int)) : Nat → ((List Int) × Int) → Option (Aa × Int)
 | 0, _ => none
 | n6 + 1, v6 =>
  AN ((decide (v6.2 < (p0.fe.length : Int))))
   (Bc (fun (v9 : (List Int)) =>
    EB N p0 j6 n6 (v9, (wI .i64 (v6.2 + 1))))
   fun j9 =>
   (BB p0.fe v6.2).bind fun v10 =>
   (FN N v10).bind fun v11 =>
   AN v11
    ((BB p0.fi v10.fg).bind fun v13 =>
    (DQ (0 ≤ v13)).bind fun _ =>
    (BB v6.1 v6.2).bind fun _ =>
    j9 (v6.1.set ((v6.2).toNat) ((D7 .u8 1 v13))))
    (j9 v6.1))
   (j6 v6.1)
def GN (N : Nat) (p0 : Ab) : Option (Aa × Int) :=
 (CO N p0).bind fun v1 =>
 AN ((v1 != 0))
  (some ((Aa.mk (([] : List Int)) (([] : List Int)) (([] : List Int))), v1))
  ((Bm N p0.fi).bind fun v3 =>
  (EP N (([(-1)] : List Int)) ((p0.fi.length : Int))).bind fun v4 =>
  (DQ ((0 : Int) ≤ (p0.fe.length : Int) ∧ (p0.fe.length : Int) ≤ (p0.fe.length : Int) ∧ (p0.fe.length : Int) ≤ (DC : Int))).bind fun _ =>
  EB N p0 (fun (v7 : (List Int)) =>
   some ((Aa.mk v3 v4 v7), 0)) N (uY ((p0.fe.length : Int)).toNat ((0 : Int)), 0))
def Fh (_ : Nat) (p0 : Aa) (p1 : Int) : Option Int :=
 (BB p0.fd p1).bind fun v1 =>
 (DQ (0 ≤ v1)).bind fun _ =>
 Bc (fun (v3 : Int) =>
  some v3)
 fun j3 =>
 (BB p0.fa p1).bind fun v4 =>
 AN ((decide (0 ≤ v4)))
  ((BB p0.fa p1).bind fun v6 =>
  (DQ (0 ≤ v6)).bind fun _ =>
  j3 (MG .u8 ((D7 .u8 1 v1)) ((D7 .u8 1 v6))))
  (j3 (D7 .u8 1 v1))
def Ez (N : Nat) (p0 : Ab) (p1 : Aa) (j7 : Unit → Option Int) : Nat → Int → Option Int
 | 0, _ => none
 | n7 + 1, v7 =>
  AN ((decide (v7 < (p0.fb.length : Int))))
   ((BB p0.fb v7).bind fun v10 =>
   Bc (fun (v11 : Bool) =>
    AN v11
     (some 7)
     ((BB p1.fd v7).bind fun v20 =>
     (BB p1.fa v7).bind fun v21 =>
     AN ((v20 == v21))
      (some 1)
      (Ez N p0 p1 j7 n7 (wI .i64 (v7 + 1)))))
   fun j11 =>
   (BB p1.fd v7).bind fun v12 =>
   AN ((decide (v12 < 0)))
    (j11 true)
    ((BB p1.fd v7).bind fun v14 =>
    AN ((decide (v10 ≤ v14)))
     (j11 true)
     ((BB p1.fa v7).bind fun v16 =>
     AN ((decide (v16 < (-1))))
      (j11 true)
      ((BB p1.fa v7).bind fun v18 =>
      j11 (decide (v10 ≤ v18))))))
   (j7 ())
def Ea (N : Nat) (p0 : Ab) (p1 : Aa) (j23 : Unit → Option Int) : Nat → Int → Option Int
 | 0, _ => none
 | n23 + 1, v23 =>
  AN ((decide (v23 < (p0.fe.length : Int))))
   ((BB p0.fe v23).bind fun v26 =>
   Bc (fun (v27 : Int × Int) =>
    Bc (fun (v33 : Bool) =>
     AN v33
      (some 1)
      (Ea N p0 p1 j23 n23 (wI .i64 (v23 + 1))))
    fun j33 =>
    (BB p1.fc v23).bind fun v34 =>
    AN (((DH .u8 v27.1 v34) != 0))
     (j33 true)
     ((BB p1.fc v23).bind fun v36 =>
     j33 ((DH .u8 v36 v27.2) != 0)))
   fun j27 =>
   (FN N v26).bind fun v28 =>
   AN v28
    ((Fh N p1 v26.fg).bind fun v30 =>
    (BB p0.fb v26.fg).bind fun v31 =>
    (DQ (0 ≤ v31)).bind fun _ =>
    j27 (v30, (wI .u8 ((D7 .u8 1 v31) - 1))))
    (j27 (0, 0)))
   (j23 ())
def E9 (N : Nat) (p0 : Ab) (p1 : Aa) : Option Int :=
 (CO N p0).bind fun v1 =>
 AN ((v1 != 0))
  (some v1)
  (Bc (fun (v3 : Bool) =>
   AN v3
    (some 6)
    (Ez N p0 p1 (fun (_ : Unit) =>
     Ea N p0 p1 (fun (_ : Unit) =>
      some 0) N 0) N 0))
  fun j3 =>
  AN (((p1.fd.length : Int) != (p0.fb.length : Int)))
   (j3 true)
   (AN (((p1.fa.length : Int) != (p0.fb.length : Int)))
    (j3 true)
    (j3 ((p1.fc.length : Int) != (p0.fe.length : Int)))))
def BD (_ : Nat) (p0 : List Int) : Option ((List Int)) :=
 (DQ ((([] : List Int)).length + p0.length ≤ DC)).bind fun _ =>
 some ((([] : List Int)) ++ p0)
def Ed (N : Nat) (p1 : Aa) (j3 : ((List Int)) → Option ((List Aa) × Int)) : Nat → ((List Int) × Int) → Option ((List Aa) × Int)
 | 0, _ => none
 | n3 + 1, v3 =>
  AN ((decide (v3.2 < (p1.fa.length : Int))))
   (Bc (fun (v6 : (List Int)) =>
    Ed N p1 j3 n3 (v6, (wI .i64 (v3.2 + 1))))
   fun j6 =>
   (BB p1.fa v3.2).bind fun v7 =>
   AN ((decide (0 ≤ v7)))
    ((DQ (v3.1.length + (([v3.2] : List Int)).length ≤ DC)).bind fun _ =>
    j6 (v3.1 ++ (([v3.2] : List Int))))
    (j6 v3.1))
   (j3 v3.1)
def Dk (N : Nat) (v4 : (List Int)) (v11 : (List Aa) × Int) (j17 : ((List Int)) → Option ((List Aa) × Int)) : Nat → ((List Int) × Int) → Option ((List Aa) × Int)
 | 0, _ => none
 | n17 + 1, v17 =>
  AN ((decide (v17.2 < (v4.length : Int))))
   (Bc (fun (v20 : (List Int)) =>
    Dk N v4 v11 j17 n17 (v20, (wI .i64 (v17.2 + 1))))
   fun j20 =>
   (BB v4 v17.2).bind fun v21 =>
   (DQ (0 ≤ v17.2)).bind fun _ =>
   AN (((F5 .i64 ((Fo .i64 v11.2 v17.2)) 1) == 1))
    ((BB v17.1 v21).bind fun _ =>
    j20 (v17.1.set ((v21).toNat) ((-1))))
    (j20 v17.1))
   (j17 v17.1)
def Dm (N : Nat) (p1 : Aa) (v4 : (List Int)) (j11 : ((List Aa)) → Option ((List Aa) × Int)) : Nat → ((List Aa) × Int) → Option ((List Aa) × Int)
 | 0, _ => none
 | n11 + 1, v11 =>
  AN ((decide (v11.2 < (D7 .i64 1 ((v4.length : Int))))))
   ((Bm N p1.fd).bind fun v14 =>
   (Bm N p1.fa).bind fun v15 =>
   (BD N p1.fc).bind fun v16 =>
   Dk N v4 v11 (fun (v18 : (List Int)) =>
    (DQ (v11.1.length + (([(Aa.mk v14 v18 v16)] : List Aa)).length ≤ DC)).bind fun _ =>
    Dm N p1 v4 j11 n11 (v11.1 ++ (([(Aa.mk v14 v18 v16)] : List Aa)), (wI .i64 (v11.2 + 1)))) N (v15, 0))
   (j11 v11.1)
def FP (N : Nat) (p0 : Ab) (p1 : Aa) : Option ((List Aa) × Int) :=
 (E9 N p0 p1).bind fun v1 =>
 AN ((v1 != 0))
  (some (([] : List Aa), v1))
  (Ed N p1 (fun (v4 : (List Int)) =>
   (DQ (0 ≤ (v4.length : Int))).bind fun _ =>
   Dm N p1 v4 (fun (v12 : (List Aa)) =>
    some (v12, 0)) N (([] : List Aa), 0)) N (([] : List Int), 0))
def Ce (N : Nat) (v1 : (List Ad) × Int) (v4 : AC) (v6 : Int) (v11 : (List Ad) × Int) (v17 : List Bool) (j18 : ((List Ad) × Bool) → Option ((List Ad))) : Nat → ((List Ad) × Bool × Int) → Option ((List Ad))
 | 0, _ => none
 | n18 + 1, v18 =>
  AN ((decide (v18.2.2 < (v17.length : Int))))
   (Bc (fun (v21 : (List Ad) × Bool) =>
    Ce N v1 v4 v6 v11 v17 j18 n18 (v21.1, v21.2, (wI .i64 (v18.2.2 + 1))))
   fun j21 =>
   (BB v17 v18.2.2).bind fun v22 =>
   (DQ (0 ≤ v18.2.2)).bind fun _ =>
   AN (((F5 .u8 ((Fo .u8 v6 v18.2.2)) 1) == 0))
    (j21 (v18.1, v18.2.1))
    (Bc (fun (v25 : Bool) =>
     Bc (fun (v27 : Bool) =>
      AN v27
       ((DQ (v18.1.length + (([(Ad.mk v1.2 v11.2 v18.2.2)] : List Ad)).length ≤ DC)).bind fun _ =>
       j21 (v18.1 ++ (([(Ad.mk v1.2 v11.2 v18.2.2)] : List Ad)), v25))
       (j21 (v18.1, v25)))
     fun j27 =>
     AN ((!v22))
      (j27 (!v4.fp))
      (j27 false))
    fun j25 =>
    AN v18.2.1
     (j25 true)
     (j25 v22)))
   (j18 (v18.1, v18.2.1))
def CC (N : Nat) (v1 : (List Ad) × Int) (v4 : AC) (v6 : Int) (v7 : Int) (j11 : ((List Ad)) → Option ((List Ad))) : Nat → ((List Ad) × Int) → Option ((List Ad))
 | 0, _ => none
 | n11 + 1, v11 =>
  AN ((decide (v11.2 < (v4.fq.length : Int))))
   (Bc (fun (v14 : (List Ad)) =>
    CC N v1 v4 v6 v7 j11 n11 (v14, (wI .i64 (v11.2 + 1))))
   fun j14 =>
   (DQ (0 ≤ v11.2)).bind fun _ =>
   AN (((F5 .u8 ((Fo .u8 v7 v11.2)) 1) == 0))
    (j14 v11.1)
    ((BB v4.fq v11.2).bind fun v17 =>
    Ce N v1 v4 v6 v11 v17 (fun (v19 : (List Ad) × Bool) =>
     Bc (fun (v31 : Bool) =>
      AN v31
       ((DQ (v19.1.length + (([(Ad.mk v1.2 v11.2 ((-1)))] : List Ad)).length ≤ DC)).bind fun _ =>
       j14 (v19.1 ++ (([(Ad.mk v1.2 v11.2 ((-1)))] : List Ad))))
       (j14 v19.1))
     fun j31 =>
     AN v4.fp
      (j31 (!v19.2))
      (j31 false)) N (v11.1, false, 0)))
   (j11 v11.1)
def DK (N : Nat) (p0 : Ab) (p1 : Aa) (j1 : ((List Ad)) → Option ((List Ad))) : Nat → ((List Ad) × Int) → Option ((List Ad))
 | 0, _ => none
 | n1 + 1, v1 =>
  AN ((decide (v1.2 < (p0.fe.length : Int))))
   ((BB p0.fe v1.2).bind fun v4 =>
   (Fh N p1 v4.fg).bind fun v5 =>
   (Fh N p1 v4.fk).bind fun v6 =>
   Bc (fun (v7 : Int) =>
    CC N v1 v4 v6 v7 (fun (v12 : (List Ad)) =>
     DK N p0 p1 j1 n1 (v12, (wI .i64 (v1.2 + 1)))) N (v1.1, 0))
   fun j7 =>
   (FN N v4).bind fun v8 =>
   AN v8
    ((BB p1.fc v1.2).bind fun v10 =>
    j7 v10)
    (j7 v5))
   (j1 v1.1)
def F3 (N : Nat) (p0 : Ab) (p1 : Aa) : Option ((List Ad)) :=
 DK N p0 p1 (fun (v2 : (List Ad)) =>
  some v2) N (([] : List Ad), 0)
def E3 (N : Nat) (p0 : Ab) (v1 : (List Aa) × Int) (j3 : Unit → Option (Aa × Ad × Int)) : Nat → Int → Option (Aa × Ad × Int)
 | 0, _ => none
 | n3 + 1, v3 =>
  AN ((decide (v3 < (v1.1.length : Int))))
   ((BB v1.1 v3).bind fun v6 =>
   (F3 N p0 v6).bind fun v7 =>
   AN ((decide (0 < (v7.length : Int))))
    ((BB v7 0).bind fun v9 =>
    some (v6, v9, 0))
    (E3 N p0 v1 j3 n3 (wI .i64 (v3 + 1))))
   (j3 ())
def FC (N : Nat) (p0 : Ab) (p1 : Aa) : Option (Aa × Ad × Int) :=
 (FP N p0 p1).bind fun v1 =>
 AN ((v1.2 != 0))
  (some ((Aa.mk (([] : List Int)) (([] : List Int)) (([] : List Int))), (Ad.mk 0 0 0), v1.2))
  (E3 N p0 v1 (fun (_ : Unit) =>
   some ((Aa.mk (([] : List Int)) (([] : List Int)) (([] : List Int))), (Ad.mk 0 0 0), 15)) N 0)
def DY (N : Nat) (p0 : Ab) (p1 : Aa) : Option (Bool × Int) :=
 (FC N p0 p1).bind fun v1 =>
 AN ((v1.2.2 == 0))
  (some (false, 0))
  (AN ((v1.2.2 == 15))
   (some (true, 0))
   (some (false, v1.2.2)))
def I1 (N : Nat) (p0 : Ab) : Option (Aa × Bool × Int) :=
 (GN N p0).bind fun v1 =>
 AN ((v1.2 != 0))
  (some ((Aa.mk (([] : List Int)) (([] : List Int)) (([] : List Int))), false, v1.2))
  ((DY N p0 v1.1).bind fun v3 =>
  some (v1.1, v3.1, v3.2))
def Hn (N : Nat) (p0 : Aa) (j1 : ((List Int)) → Option ByteArray) : Nat → ((List Int) × Int) → Option ByteArray
 | 0, _ => none
 | n1 + 1, v1 =>
  AN ((decide (v1.2 < (p0.fd.length : Int))))
   ((BB p0.fd v1.2).bind fun v4 =>
   (BB p0.fa v1.2).bind fun v5 =>
   (DQ (v1.1.length + (([(wI .u8 v4), (wI .u8 ((wI .i64 (v5 + 1))))] : List Int)).length ≤ DC)).bind fun _ =>
   Hn N p0 j1 n1 (v1.1 ++ (([(wI .u8 v4), (wI .u8 ((wI .i64 (v5 + 1))))] : List Int)), (wI .i64 (v1.2 + 1))))
   (j1 v1.1)
def Hq (N : Nat) (p0 : Aa) (j7 : ((List Int)) → Option ByteArray) : Nat → ((List Int) × Int) → Option ByteArray
 | 0, _ => none
 | n7 + 1, v7 =>
  AN ((decide (v7.2 < (p0.fc.length : Int))))
   ((BB p0.fc v7.2).bind fun v10 =>
   (DQ (v7.1.length + (([v10] : List Int)).length ≤ DC)).bind fun _ =>
   Hq N p0 j7 n7 (v7.1 ++ (([v10] : List Int)), (wI .i64 (v7.2 + 1))))
   (j7 v7.1)
def HY (N : Nat) (p0 : Aa) : Option ByteArray :=
 Hn N p0 (fun (v2 : (List Int)) =>
  Hq N p0 (fun (v8 : (List Int)) =>
   some ((Jy v8))) N (v2, 0)) N (([] : List Int), 0)
def ER (N : Nat) (v1 : (List Aj) × Int) (v4 : Int) (j5 : ((List Aj)) → Option ((List Aj))) : Nat → ((List Aj) × Int) → Option ((List Aj))
 | 0, _ => none
 | n5 + 1, v5 =>
  AN ((decide (v5.2 < v4)))
   ((DQ (v5.1.length + (([(Aj.mk 1 v1.2 v5.2)] : List Aj)).length ≤ DC)).bind fun _ =>
   ER N v1 v4 j5 n5 (v5.1 ++ (([(Aj.mk 1 v1.2 v5.2)] : List Aj)), (wI .i64 (v5.2 + 1))))
   (j5 v5.1)
def DA (N : Nat) (p0 : Ab) (j1 : ((List Aj)) → Option ((List Aj))) : Nat → ((List Aj) × Int) → Option ((List Aj))
 | 0, _ => none
 | n1 + 1, v1 =>
  AN ((decide (v1.2 < (p0.fb.length : Int))))
   ((BB p0.fb v1.2).bind fun v4 =>
   ER N v1 v4 (fun (v6 : (List Aj)) =>
    DA N p0 j1 n1 (v6, (wI .i64 (v1.2 + 1)))) N (v1.1, 0))
   (j1 v1.1)
def CB (N : Nat) (p0 : Ab) (j9 : ((List Aj)) → Option ((List Aj))) : Nat → ((List Aj) × Int) → Option ((List Aj))
 | 0, _ => none
 | n9 + 1, v9 =>
  AN ((decide (v9.2 < (p0.fb.length : Int))))
   ((DQ (v9.1.length + (([(Aj.mk 2 v9.2 0)] : List Aj)).length ≤ DC)).bind fun _ =>
   CB N p0 j9 n9 (v9.1 ++ (([(Aj.mk 2 v9.2 0)] : List Aj)), (wI .i64 (v9.2 + 1))))
   (j9 v9.1)
def BC (N : Nat) (p0 : Ab) (j13 : ((List Aj)) → Option ((List Aj))) : Nat → ((List Aj) × Int) → Option ((List Aj))
 | 0, _ => none
 | n13 + 1, v13 =>
  AN ((decide (v13.2 < (p0.fe.length : Int))))
   ((DQ (v13.1.length + (([(Aj.mk 3 v13.2 0)] : List Aj)).length ≤ DC)).bind fun _ =>
   BC N p0 j13 n13 (v13.1 ++ (([(Aj.mk 3 v13.2 0)] : List Aj)), (wI .i64 (v13.2 + 1))))
   (j13 v13.1)
def Ip (N : Nat) (p0 : Ab) : Option ((List Aj)) :=
 DA N p0 (fun (v2 : (List Aj)) =>
  CB N p0 (fun (v10 : (List Aj)) =>
   BC N p0 (fun (v14 : (List Aj)) =>
    some v14) N (v10, 0)) N (v2, 0)) N (([] : List Aj), 0)
def GF (N : Nat) (p0 : Aa) : Option Aa :=
 (Bm N p0.fd).bind fun v1 =>
 (Bm N p0.fa).bind fun v2 =>
 (BD N p0.fc).bind fun v3 =>
 some ((Aa.mk v1 v2 v3))
def FV (_ : Nat) (p0 : AC) : Option Bool :=
 Bc (fun (v1 : Bool) =>
  some v1)
 fun j1 =>
 AN ((p0.ff == 3))
  (j1 true)
  (j1 (p0.ff == 4))
def D8 (N : Nat) (p0 : Ab) (p2 : Aj) (j7 : ((List Int)) → Option (Bool × (List Int) × (List Int))) : Nat → ((List Int) × Int) → Option (Bool × (List Int) × (List Int))
 | 0, _ => none
 | n7 + 1, v7 =>
  AN ((decide (v7.2 < (p0.fe.length : Int))))
   (Bc (fun (v10 : (List Int)) =>
    D8 N p0 p2 j7 n7 (v10, (wI .i64 (v7.2 + 1))))
   fun j10 =>
   (BB p0.fe v7.2).bind fun v11 =>
   Bc (fun (v12 : Bool) =>
    AN v12
     ((BB v7.1 v7.2).bind fun v16 =>
     (DQ (0 ≤ p2.fm)).bind fun _ =>
     (BB v7.1 v7.2).bind fun _ =>
     j10 (v7.1.set ((v7.2).toNat) ((MG .u8 v16 ((D7 .u8 1 p2.fm))))))
     (j10 v7.1))
   fun j12 =>
   AN ((v11.fg == p2.fh))
    ((FV N v11).bind fun v14 =>
    j12 v14)
    (j12 false))
   (j7 v7.1)
def Ih (N : Nat) (p0 : Ab) (p1 : Aa) (p2 : Aj) : Option (Bool × (List Int) × (List Int)) :=
 Bc (fun (v1 : Bool) =>
  AN v1
   (some (false, p1.fa, p1.fc))
   ((BB p1.fa p2.fh).bind fun _ =>
   D8 N p0 p2 (fun (v8 : (List Int)) =>
    some (true, p1.fa.set ((p2.fh).toNat) p2.fm, v8)) N (p1.fc, 0)))
 fun j1 =>
 (BB p1.fa p2.fh).bind fun v2 =>
 AN ((decide (0 ≤ v2)))
  (j1 true)
  ((BB p1.fd p2.fh).bind fun v4 =>
  j1 (v4 == p2.fm))
def Gl (_ : Nat) (p0 : Aa) (p1 : Int) : Option Int :=
 (BB p0.fd p1).bind fun v1 =>
 (DQ (0 ≤ v1)).bind fun _ =>
 Bc (fun (v3 : Int) =>
  some v3)
 fun j3 =>
 (BB p0.fa p1).bind fun v4 =>
 AN ((decide (0 ≤ v4)))
  ((BB p0.fa p1).bind fun v6 =>
  (DQ (0 ≤ v6)).bind fun _ =>
  j3 (MG .u8 ((D7 .u8 1 v1)) ((D7 .u8 1 v6))))
  (j3 (D7 .u8 1 v1))
def Dj (_ : Nat) (p0 : Int) : Option Int :=
 (Xd ((⟨⟨(List.append (List.append [8, 0, 1, 0, 2, 0, 1, 0, 3, 0, 1, 0, 2, 0, 1, 0, 4, 0, 1, 0, 2, 0, 1, 0, 3, 0, 1, 0, 2, 0, 1, 0, 5, 0, 1, 0, 2, 0, 1, 0, 3, 0, 1, 0, 2, 0, 1, 0, 4, 0, 1, 0, 2, 0, 1, 0, 3, 0, 1, 0, 2, 0, 1, 0] [6, 0, 1, 0, 2, 0, 1, 0, 3, 0, 1, 0, 2, 0, 1, 0, 4, 0, 1, 0, 2, 0, 1, 0, 3, 0, 1, 0, 2, 0, 1, 0, 5, 0, 1, 0, 2, 0, 1, 0, 3, 0, 1, 0, 2, 0, 1, 0, 4, 0, 1, 0, 2, 0, 1, 0, 3, 0, 1, 0, 2, 0, 1, 0]) (List.append [7, 0, 1, 0, 2, 0, 1, 0, 3, 0, 1, 0, 2, 0, 1, 0, 4, 0, 1, 0, 2, 0, 1, 0, 3, 0, 1, 0, 2, 0, 1, 0, 5, 0, 1, 0, 2, 0, 1, 0, 3, 0, 1, 0, 2, 0, 1, 0, 4, 0, 1, 0, 2, 0, 1, 0, 3, 0, 1, 0, 2, 0, 1, 0] [6, 0, 1, 0, 2, 0, 1, 0, 3, 0, 1, 0, 2, 0, 1, 0, 4, 0, 1, 0, 2, 0, 1, 0, 3, 0, 1, 0, 2, 0, 1, 0, 5, 0, 1, 0, 2, 0, 1, 0, 3, 0, 1, 0, 2, 0, 1, 0, 4, 0, 1, 0, 2, 0, 1, 0, 3, 0, 1, 0, 2, 0, 1, 0]))⟩⟩ : ByteArray)) p0).bind fun v1 =>
 some ((wI .i64 v1))
def DR (N : Nat) (p0 : AC) (p2 : Int) (j1 : Unit → Option Bool) : Nat → Int → Option Bool
 | 0, _ => none
 | n1 + 1, v1 =>
  AN ((v1 != 0))
   ((Dj N v1).bind fun v4 =>
   (BB p0.fo v4).bind fun v5 =>
   (BB v5 p2).bind fun v6 =>
   AN ((!v6))
    (some false)
    (DR N p0 p2 j1 n1 (F5 .u8 v1 ((wI .u8 (v1 - 1))))))
   (j1 ())
def Ga (N : Nat) (p0 : AC) (p1 : Int) (p2 : Int) : Option Bool :=
 DR N p0 p2 (fun (_ : Unit) =>
  some true) N p1
def Hi (N : Nat) (p0 : Ab) (p1 : Aa) (p2 : Int) : Option (Bool × (List Int)) :=
 (BB p0.fe p2).bind fun v1 =>
 (FV N v1).bind fun v2 =>
 AN ((!v2))
  (some (false, p1.fc))
  ((Gl N p1 v1.fg).bind fun v4 =>
  (BB p1.fc p2).bind fun v5 =>
  Bc (fun (v6 : Bool) =>
   AN v6
    (some (false, p1.fc))
    ((BB p1.fc p2).bind fun _ =>
    some (true, p1.fc.set ((p2).toNat) v4)))
  fun j6 =>
  (BB p1.fc p2).bind fun v7 =>
  AN ((v7 == v4))
   (j6 true)
   (AN ((v1.ff == 4))
    ((BB p1.fd v1.fg).bind fun v10 =>
    (Ga N v1 ((DH .u8 v5 v4)) v10).bind fun v11 =>
    j6 (!v11))
    (j6 false)))
def FJ (N : Nat) (p0 : Ab) (p1 : Aa) (p2 : Aj) : Option (Aa × Bool) :=
 (GF N p1).bind fun v1 =>
 AN ((p2.ff == 1))
  ((Ih N p0 v1 p2).bind fun v3 =>
  some ((Aa.mk v1.fd v3.2.1 v3.2.2), v3.1))
  (AN ((p2.ff == 3))
   ((Hi N p0 v1 p2.fh).bind fun v5 =>
   some ((Aa.mk v1.fd v1.fa v5.2), v5.1))
   ((BB v1.fa p2.fh).bind fun v6 =>
   AN ((decide (v6 < 0)))
    (some (v1, false))
    ((BB v1.fa p2.fh).bind fun _ =>
    Bc (fun (v9 : (List Int)) =>
     some ((Aa.mk v9 (v1.fa.set ((p2.fh).toNat) ((-1))) v1.fc), true))
    fun j9 =>
    AN ((p2.ff == 2))
     ((BB v1.fd p2.fh).bind fun _ =>
     j9 (v1.fd.set ((p2.fh).toNat) v6))
     (j9 v1.fd))))
def DO (N : Nat) (p0 : Aj) (p1 : List Int) (p2 : List Int) (p3 : List Int) (p4 : List AC) (p5 : List Int) (p6 : List Int) (p7 : List Int) : Option Bool :=
 (FJ N ((Ab.mk p1 p2 p3 p4)) ((Aa.mk p5 p6 p7)) p0).bind fun v1 =>
 some ((!v1.2))
def A6 (N : Nat) (p0 : List Aj) (p1 : Aj → Option Bool) (j1 : Unit → Option Int) : Nat → Int → Option Int
 | 0, _ => none
 | n1 + 1, v1 =>
  AN ((decide (v1 < (p0.length : Int))))
   ((BB p0 v1).bind fun v4 =>
   (p1 v4).bind fun v5 =>
   AN v5
    (some v1)
    (A6 N p0 p1 j1 n1 (wI .i64 (v1 + 1))))
   (j1 ())
def B2 (N : Nat) (p0 : List Aj) (p1 : Aj → Option Bool) : Option Int :=
 A6 N p0 p1 (fun (_ : Unit) =>
  some ((-1))) N 0
def AX (N : Nat) (p1 : Aj → Option Bool) (j3 : ((List Aj) × Int) → Option (Nat × (List Aj))) : Nat → ((List Aj) × Int × Int) → Option (Nat × (List Aj))
 | 0, _ => none
 | n3 + 1, v3 =>
  AN ((decide (v3.2.2 < (v3.1.length : Int))))
   (Bc (fun (v6 : (List Aj) × Int) =>
    AX N p1 j3 n3 (v6.1, v6.2, (wI .i64 (v3.2.2 + 1))))
   fun j6 =>
   (BB v3.1 v3.2.2).bind fun v7 =>
   (p1 v7).bind fun v8 =>
   AN ((!v8))
    ((BB v3.1 v3.2.1).bind fun _ =>
    j6 (v3.1.set ((v3.2.1).toNat) v7, (wI .i64 (v3.2.1 + 1))))
    (j6 (v3.1, v3.2.1)))
   (j3 (v3.1, v3.2.1))
def BW (N : Nat) (p0 : List Aj) (p1 : Aj → Option Bool) : Option (Nat × (List Aj)) :=
 (B2 N p0 p1).bind fun v1 =>
 AN ((v1 == (-1)))
  (some (p0.length, p0))
  (AX N p1 (fun (v4 : (List Aj) × Int) =>
   (DQ ((0 : Int) ≤ v4.2 ∧ (v4.2).toNat ≤ v4.1.length ∧ v4.1.length ≤ v4.1.length)).bind fun _ =>
   (DQ ((0 : Int) ≤ v4.2 ∧ 0 ≤ (v4.2).toNat ∧ (v4.2).toNat ≤ (Gv v4.1 ((v4.2).toNat) (uY ((v4.1.length - (v4.2).toNat)) ((Aj.mk 0 0 0)))).length)).bind fun _ =>
   some ((v4.2).toNat, Gv v4.1 ((v4.2).toNat) (uY ((v4.1.length - (v4.2).toNat)) ((Aj.mk 0 0 0))))) N (p0, v1, (wI .i64 (v1 + 1))))
def E5 (N : Nat) (p0 : Ab) (p1 : Aa) : Option ((List Aj) × Int) :=
 (E9 N p0 p1).bind fun v1 =>
 AN ((v1 != 0))
  (some (([] : List Aj), v1))
  ((Ip N p0).bind fun v3 =>
  (BW N v3 ((fun (x : Aj) => DO N x p0.fb p0.fi p0.fj p0.fe p1.fd p1.fa p1.fc))).bind fun v4 =>
  (DQ (v4.1 ≤ v4.2.length)).bind fun _ =>
  some (v4.2.take v4.1, 0))
def Hh (_ : Nat) (p0 : Aj) : Option Bool :=
 Bc (fun (v1 : Bool) =>
  AN v1
   (some false)
   (Bc (fun (v5 : Bool) =>
    some v5)
   fun j5 =>
   AN ((p0.ff == 1))
    (j5 true)
    (j5 (p0.fm == 0))))
 fun j1 =>
 AN ((decide ((Uq p0.fh p0.fm) < 0)))
  (j1 true)
  (AN ((decide (p0.ff < 1)))
   (j1 true)
   (j1 (decide (4 < p0.ff))))
def Gz (_ : Nat) (p0 : Ab) (p1 : Aj) : Option Bool :=
 AN ((p1.ff == 3))
  (some ((decide (p1.fh < (p0.fe.length : Int)))))
  (Bc (fun (v2 : Bool) =>
   some v2)
  fun j2 =>
  AN ((decide (p1.fh < (p0.fb.length : Int))))
   (AN ((p1.ff != 1))
    (j2 true)
    ((BB p0.fb p1.fh).bind fun v5 =>
    j2 (decide (p1.fm < v5))))
   (j2 false))
def He (N : Nat) (p0 : Ab) (p1 : Aa) (p2 : Aj) : Option (Aa × Int) :=
 (Hh N p2).bind fun v1 =>
 AN ((!v1))
  (some ((Aa.mk (([] : List Int)) (([] : List Int)) (([] : List Int))), 1))
  ((Gz N p0 p2).bind fun v3 =>
  AN ((!v3))
   (some ((Aa.mk (([] : List Int)) (([] : List Int)) (([] : List Int))), 4))
   ((FJ N p0 p1 p2).bind fun v5 =>
   AN ((!v5.2))
    (some ((Aa.mk (([] : List Int)) (([] : List Int)) (([] : List Int))), 11))
    (some (v5.1, 0))))
def FO (N : Nat) (p0 : Ab) (p1 : Aa) (p2 : Aj) : Option (Aa × Int) :=
 (E9 N p0 p1).bind fun v1 =>
 AN ((v1 != 0))
  (some ((Aa.mk (([] : List Int)) (([] : List Int)) (([] : List Int))), v1))
  ((He N p0 p1 p2).bind fun v3 =>
  some (v3.1, v3.2))
def GK (N : Nat) (p0 : Ab) (p1 : Aa) (v1 : (List Aj) × Int) (j2 : ((List Aj) × (List Aa)) → Option ((List Aj) × (List Aa))) : Nat → ((List Aj) × (List Aa) × Int) → Option ((List Aj) × (List Aa))
 | 0, _ => none
 | n2 + 1, v2 =>
  AN ((decide (v2.2.2 < (v1.1.length : Int))))
   (Bc (fun (v5 : (List Aj) × (List Aa)) =>
    GK N p0 p1 v1 j2 n2 (v5.1, v5.2, (wI .i64 (v2.2.2 + 1))))
   fun j5 =>
   (BB v1.1 v2.2.2).bind fun v6 =>
   (FO N p0 p1 v6).bind fun v7 =>
   AN ((v7.2 != 0))
    (j5 (v2.1, v2.2.1))
    ((DY N p0 v7.1).bind fun v9 =>
    AN v9.1
     ((DQ (v2.1.length + (([v6] : List Aj)).length ≤ DC)).bind fun _ =>
     (DQ (v2.2.1.length + (([v7.1] : List Aa)).length ≤ DC)).bind fun _ =>
     j5 (v2.1 ++ (([v6] : List Aj)), v2.2.1 ++ (([v7.1] : List Aa))))
     (j5 (v2.1, v2.2.1))))
   (j2 (v2.1, v2.2.1))
def JP (N : Nat) (p0 : Ab) (p1 : Aa) : Option ((List Aj) × (List Aa)) :=
 (E5 N p0 p1).bind fun v1 =>
 GK N p0 p1 v1 (fun (v3 : (List Aj) × (List Aa)) =>
  some (v3.1, v3.2)) N (([] : List Aj), ([] : List Aa), 0)
def Fl (_ : Nat) (p0 : List Aa) (p1 : (Aa × Aa) → Option Int) : Option (List Aa) := RN p1 ON p0
def F2 (_ : Nat) (p0 : Int) : Option Bool :=
 some ((p0 != p0))
def Dv (N : Nat) (p0 : Int) (p1 : Int) : Option Int :=
 (F2 N p0).bind fun v1 =>
 (F2 N p1).bind fun v2 =>
 AN v1
  (AN v2
   (some 0)
   (some ((-1))))
  (AN v2
   (some 1)
   (AN ((decide (p0 < p1)))
    (some ((-1)))
    (AN ((decide (p1 < p0)))
     (some 1)
     (some 0))))
def Cv (N : Nat) (p0 : List Int) (p1 : List Int) (j1 : Unit → Option Int) : Nat → Int → Option Int
 | 0, _ => none
 | n1 + 1, v1 =>
  AN ((decide (v1 < (p0.length : Int))))
   ((BB p0 v1).bind fun v4 =>
   AN ((decide ((p1.length : Int) ≤ v1)))
    (some 1)
    ((BB p1 v1).bind fun v6 =>
    (Dv N v4 v6).bind fun v7 =>
    AN ((v7 != 0))
     (some v7)
     (Cv N p0 p1 j1 n1 (wI .i64 (v1 + 1)))))
   (j1 ())
def C4 (N : Nat) (p0 : List Int) (p1 : List Int) : Option Int :=
 Cv N p0 p1 (fun (_ : Unit) =>
  AN ((decide ((p0.length : Int) < (p1.length : Int))))
   (some ((-1)))
   (some 0)) N 0
def EV (_ : Nat) (p0 : Int) : Option Bool :=
 some ((p0 != p0))
def Ep (N : Nat) (p0 : Int) (p1 : Int) : Option Int :=
 (EV N p0).bind fun v1 =>
 (EV N p1).bind fun v2 =>
 AN v1
  (AN v2
   (some 0)
   (some ((-1))))
  (AN v2
   (some 1)
   (AN ((decide (p0 < p1)))
    (some ((-1)))
    (AN ((decide (p1 < p0)))
     (some 1)
     (some 0))))
def Bz (N : Nat) (p0 : List Int) (p1 : List Int) (j1 : Unit → Option Int) : Nat → Int → Option Int
 | 0, _ => none
 | n1 + 1, v1 =>
  AN ((decide (v1 < (p0.length : Int))))
   ((BB p0 v1).bind fun v4 =>
   AN ((decide ((p1.length : Int) ≤ v1)))
    (some 1)
    ((BB p1 v1).bind fun v6 =>
    (Ep N v4 v6).bind fun v7 =>
    AN ((v7 != 0))
     (some v7)
     (Bz N p0 p1 j1 n1 (wI .i64 (v1 + 1)))))
   (j1 ())
def Cr (N : Nat) (p0 : List Int) (p1 : List Int) : Option Int :=
 Bz N p0 p1 (fun (_ : Unit) =>
  AN ((decide ((p0.length : Int) < (p1.length : Int))))
   (some ((-1)))
   (some 0)) N 0
def Ff (N : Nat) (p0 : List Int) (j1 : Unit → Option Int) : Nat → Int → Option Int
 | 0, _ => none
 | n1 + 1, v1 =>
  AN ((decide (v1 < (p0.length : Int))))
   ((BB p0 v1).bind fun v4 =>
   AN ((v4 != 0))
    (some v4)
    (Ff N p0 j1 n1 (wI .i64 (v1 + 1))))
   (j1 ())
def Gm (N : Nat) (p0 : List Int) : Option Int :=
 Ff N p0 (fun (_ : Unit) =>
  some 0) N 0
def CD (N : Nat) (p0 : Aa) (p1 : Aa) : Option Int :=
 (C4 N p0.fd p1.fd).bind fun v1 =>
 (C4 N p0.fa p1.fa).bind fun v2 =>
 (Cr N p0.fc p1.fc).bind fun v3 =>
 (Gm N (([v1, v2, v3] : List Int))).bind fun v4 =>
 some v4
def FT (N : Nat) (v10 : (List Aj) × (List Aa)) (j11 : ((List Aa) × (List (ByteArray × Bool))) → Option ((List Aa) × Int)) : Nat → ((List Aa) × (List (ByteArray × Bool)) × Int) → Option ((List Aa) × Int)
 | 0, _ => none
 | n11 + 1, v11 =>
  AN ((decide (v11.2.2 < (v10.2.length : Int))))
   (Bc (fun (v14 : (List Aa) × (List (ByteArray × Bool))) =>
    FT N v10 j11 n11 (v14.1, v14.2, (wI .i64 (v11.2.2 + 1))))
   fun j14 =>
   (BB v10.2 v11.2.2).bind fun v15 =>
   (HY N v15).bind fun v16 =>
   AN ((!(((KA v16 v11.2.1).getD false))))
    ((HY N v15).bind fun v18 =>
    (DQ (v11.1.length + (([v15] : List Aa)).length ≤ DC)).bind fun _ =>
    j14 (v11.1 ++ (([v15] : List Aa)), MN v18 true v11.2.1))
    (j14 (v11.1, v11.2.1)))
   (j11 (v11.1, v11.2.1))
def Gk (N : Nat) (p0 : Ab) (j6 : ((List Aa)) → Option ((List Aa) × Int)) : Nat → ((List Aa) × (List (ByteArray × Bool)) × Int) → Option ((List Aa) × Int)
 | 0, _ => none
 | n6 + 1, v6 =>
  AN ((decide (v6.2.2 < (v6.1.length : Int))))
   ((BB v6.1 v6.2.2).bind fun v9 =>
   (JP N p0 v9).bind fun v10 =>
   FT N v10 (fun (v12 : (List Aa) × (List (ByteArray × Bool))) =>
    AN ((decide (20000 < (v12.1.length : Int))))
     (some (([] : List Aa), 3))
     (Gk N p0 j6 n6 (v12.1, v12.2, (wI .i64 (v6.2.2 + 1))))) N (v6.1, v6.2.1, 0))
   (j6 v6.1)
def IC (N : Nat) (p0 : Ab) : Option ((List Aa) × Int) :=
 (I1 N p0).bind fun v1 =>
 Bc (fun (v2 : Bool) =>
  AN v2
   (some (([] : List Aa), v1.2.2))
   ((HY N v1.1).bind fun v5 =>
   Gk N p0 (fun (v7 : (List Aa)) =>
    (Fl N v7 ((fun (x : Aa × Aa) => CD N x.1 x.2))).bind fun v21 =>
    some (v21, 0)) N (([v1.1] : List Aa), MN v5 true (([] : List (ByteArray × Bool))), 0)))
 fun j2 =>
 AN ((v1.2.2 != 0))
  (j2 true)
  (j2 (!v1.2.1))
def Ck (N : Nat) (p0 : List Int) (p1 : List Int) (j2 : Unit → Option Bool) : Nat → Int → Option Bool
 | 0, _ => none
 | n2 + 1, v2 =>
  AN ((decide (v2 < (p0.length : Int))))
   ((BB p0 v2).bind fun v5 =>
   (BB p1 v2).bind fun v6 =>
   AN ((v5 != v6))
    (some false)
    (Ck N p0 p1 j2 n2 (wI .i64 (v2 + 1))))
   (j2 ())
def Ec (N : Nat) (p0 : List Int) (p1 : List Int) : Option Bool :=
 AN (((p0.length : Int) != (p1.length : Int)))
  (some false)
  (Ck N p0 p1 (fun (_ : Unit) =>
   some true) N 0)
def Bk (N : Nat) (p0 : List Int) (p1 : Int → Option Bool) (j1 : Unit → Option Int) : Nat → Int → Option Int
 | 0, _ => none
 | n1 + 1, v1 =>
  AN ((decide (v1 < (p0.length : Int))))
   ((BB p0 v1).bind fun v4 =>
   (p1 v4).bind fun v5 =>
   AN v5
    (some v1)
    (Bk N p0 p1 j1 n1 (wI .i64 (v1 + 1))))
   (j1 ())
def Ef (N : Nat) (p0 : List Int) (p1 : Int → Option Bool) : Option Int :=
 Bk N p0 p1 (fun (_ : Unit) =>
  some ((-1))) N 0
def CS (N : Nat) (p0 : List Int) (p1 : Int → Option Bool) : Option Bool :=
 (Ef N p0 p1).bind fun v1 =>
 some ((decide (0 ≤ v1)))
def Hf (_ : Nat) (p0 : Int) : Option Bool :=
 some ((decide (0 ≤ p0)))
def HH (N : Nat) (p0 : Ab) (p1 : Aa) : Option Bool :=
 Bc (fun (v1 : Bool) =>
  some v1)
 fun j1 =>
 (E9 N p0 p1).bind fun v2 =>
 AN ((v2 == 0))
  ((Ec N p1.fd p0.fj).bind fun v4 =>
  AN v4
   ((CS N p1.fa ((fun (x : Int) => Hf N x))).bind fun v6 =>
   j1 (!v6))
   (j1 false))
  (j1 false)
def FE (N : Nat) (p0 : Aa) (p1 : List Int) (p2 : List Int) (p3 : List Int) (p4 : List AC) : Option Bool :=
 (HH N ((Ab.mk p1 p2 p3 p4)) p0).bind fun v1 =>
 some v1
def A9 (N : Nat) (p0 : List Aa) (p1 : Aa → Option Bool) (j1 : Unit → Option Int) : Nat → Int → Option Int
 | 0, _ => none
 | n1 + 1, v1 =>
  AN ((decide (v1 < (p0.length : Int))))
   ((BB p0 v1).bind fun v4 =>
   (p1 v4).bind fun v5 =>
   AN v5
    (some v1)
    (A9 N p0 p1 j1 n1 (wI .i64 (v1 + 1))))
   (j1 ())
def CW (N : Nat) (p0 : List Aa) (p1 : Aa → Option Bool) : Option Int :=
 A9 N p0 p1 (fun (_ : Unit) =>
  some ((-1))) N 0
def Bl (N : Nat) (p0 : List Aa) (p1 : Aa → Option Bool) : Option Bool :=
 (CW N p0 p1).bind fun v1 =>
 some ((decide (0 ≤ v1)))
def Iy (N : Nat) (p0 : Ab) : Option ((List Aa) × Int) :=
 (IC N p0).bind fun v1 =>
 AN ((v1.2 != 0))
  (some (([] : List Aa), v1.2))
  ((Bl N v1.1 ((fun (x : Aa) => FE N x p0.fb p0.fi p0.fj p0.fe))).bind fun v3 =>
  AN v3
   (some (([] : List Aa), 15))
   (some (v1.1, 0)))
def FD (N : Nat) (p0 : Ab) (p1 : Aa) (v1 : (List Aj) × Int) (j3 : ((List Cw)) → Option ((List Cw) × Int)) : Nat → ((List Cw) × Int) → Option ((List Cw) × Int)
 | 0, _ => none
 | n3 + 1, v3 =>
  AN ((decide (v3.2 < (v1.1.length : Int))))
   (Bc (fun (v6 : (List Cw)) =>
    FD N p0 p1 v1 j3 n3 (v6, (wI .i64 (v3.2 + 1))))
   fun j6 =>
   (BB v1.1 v3.2).bind fun v7 =>
   (FO N p0 p1 v7).bind fun v8 =>
   (FC N p0 v8.1).bind fun v9 =>
   AN ((v9.2.2 == 0))
    ((DQ (v3.1.length + (([(Cw.mk v7 v9.1 v9.2.1)] : List Cw)).length ≤ DC)).bind fun _ =>
    j6 (v3.1 ++ (([(Cw.mk v7 v9.1 v9.2.1)] : List Cw))))
    (j6 v3.1))
   (j3 v3.1)
def H4 (N : Nat) (p0 : Ab) (p1 : Aa) : Option ((List Cw) × Int) :=
 (E5 N p0 p1).bind fun v1 =>
 AN ((v1.2 != 0))
  (some (([] : List Cw), v1.2))
  (FD N p0 p1 v1 (fun (v4 : (List Cw)) =>
   some (v4, 0)) N (([] : List Cw), 0))
def zFS (N : Nat) (p0 : Ab) (p1 : List Aa) (j3 : ((List Cw)) → Option ((List Cw) × Int)) : Nat → ((List Cw) × Int) → Option ((List Cw) × Int)
 | 0, _ => none
 | n3 + 1, v3 =>
  AN ((decide (v3.2 < (p1.length : Int))))
   ((BB p1 v3.2).bind fun v6 =>
   (H4 N p0 v6).bind fun v7 =>
   AN ((v7.2 != 0))
    (some (([] : List Cw), v7.2))
    ((DQ (v3.1.length + v7.1.length ≤ DC)).bind fun _ =>
    zFS N p0 p1 j3 n3 (v3.1 ++ v7.1, (wI .i64 (v3.2 + 1)))))
   (j3 v3.1)
def GP (N : Nat) (p0 : Ab) (p1 : List Aa) : Option ((List Cw) × Int) :=
 (CO N p0).bind fun v1 =>
 AN ((v1 != 0))
  (some (([] : List Cw), v1))
  (zFS N p0 p1 (fun (v4 : (List Cw)) =>
   some (v4, 0)) N (([] : List Cw), 0))
def D4 (_ : Nat) (p0 : List Ad) (p1 : (Ad × Ad) → Option Int) : Option (List Ad) := RN p1 JH p0
def FU (N : Nat) (p0 : Ad) (p1 : Ad) : Option Int :=
 (Dv N p0.ft p1.ft).bind fun v1 =>
 (Dv N p0.fu p1.fu).bind fun v2 =>
 (Dv N p0.fv p1.fv).bind fun v3 =>
 (Gm N (([v1, v2, v3] : List Int))).bind fun v4 =>
 some v4
def BL (N : Nat) (p0 : List Ad) (v2 : Int) (j10 : ((List Ad) × Int) → Option (Nat × (List Ad))) : Nat → ((List Ad) × Int × Int) → Option (Nat × (List Ad))
 | 0, _ => none
 | n10 + 1, v10 =>
  AN ((decide (v10.2.2 < ((((p0.length - (v2).toNat)) : Nat) : Int))))
   (Bc (fun (v13 : (List Ad) × Int) =>
    BL N p0 v2 j10 n10 (v13.1, v13.2, (wI .i64 (v10.2.2 + 1))))
   fun j13 =>
   (DQ (((v2).toNat) + ((p0.length - (v2).toNat)) ≤ v10.1.length)).bind fun _ =>
   (BB (((v10.1.drop ((v2).toNat)).take ((p0.length - (v2).toNat)))) v10.2.2).bind fun v14 =>
   (BB (((v10.1.drop ((v2).toNat)).take ((p0.length - (v2).toNat)))) ((wI .i64 (v10.2.2 - 1)))).bind fun v16 =>
   AN ((!((v14.ft == v16.ft) && ((v14.fu == v16.fu) && ((v14.fv == v16.fv) && true)))))
    ((BB (((v10.1.drop ((v2).toNat)).take ((p0.length - (v2).toNat)))) v10.2.2).bind fun v18 =>
    (BB v10.1 v10.2.1).bind fun _ =>
    j13 (v10.1.set ((v10.2.1).toNat) v18, (wI .i64 (v10.2.1 + 1))))
    (j13 (v10.1, v10.2.1)))
   (j10 (v10.1, v10.2.1))
def BT (N : Nat) (p0 : List Ad) (j2 : Unit → Option (Nat × (List Ad))) : Nat → Int → Option (Nat × (List Ad))
 | 0, _ => none
 | n2 + 1, v2 =>
  AN ((decide (v2 < (p0.length : Int))))
   ((BB p0 v2).bind fun v5 =>
   (BB p0 ((wI .i64 (v2 - 1)))).bind fun v6 =>
   AN (((v5.ft == v6.ft) && ((v5.fu == v6.fu) && ((v5.fv == v6.fv) && true))))
    ((DQ ((0 : Int) ≤ v2 ∧ (v2).toNat ≤ p0.length ∧ p0.length ≤ p0.length)).bind fun _ =>
    BL N p0 v2 (fun (v11 : (List Ad) × Int) =>
     (DQ ((0 : Int) ≤ v11.2 ∧ (v11.2).toNat ≤ v11.1.length ∧ v11.1.length ≤ v11.1.length)).bind fun _ =>
     (DQ ((0 : Int) ≤ v11.2 ∧ 0 ≤ (v11.2).toNat ∧ (v11.2).toNat ≤ (Gv v11.1 ((v11.2).toNat) (uY ((v11.1.length - (v11.2).toNat)) ((Ad.mk 0 0 0)))).length)).bind fun _ =>
     some ((v11.2).toNat, Gv v11.1 ((v11.2).toNat) (uY ((v11.1.length - (v11.2).toNat)) ((Ad.mk 0 0 0))))) N (p0, v2, 1))
    (BT N p0 j2 n2 (wI .i64 (v2 + 1))))
   (j2 ())
def C0 (N : Nat) (p0 : List Ad) : Option (Nat × (List Ad)) :=
 AN ((decide ((p0.length : Int) < 2)))
  (some (p0.length, p0))
  (BT N p0 (fun (_ : Unit) =>
   some (p0.length, p0)) N 1)
def FB (N : Nat) (v1 : (List Cw) × Int) (j3 : ((List Ad)) → Option ((List Ad) × Int)) : Nat → ((List Ad) × Int) → Option ((List Ad) × Int)
 | 0, _ => none
 | n3 + 1, v3 =>
  AN ((decide (v3.2 < (v1.1.length : Int))))
   ((BB v1.1 v3.2).bind fun v6 =>
   (DQ (v3.1.length + (([(Ad.mk v6.fw.ft v6.fw.fu v6.fw.fv)] : List Ad)).length ≤ DC)).bind fun _ =>
   FB N v1 j3 n3 (v3.1 ++ (([(Ad.mk v6.fw.ft v6.fw.fu v6.fw.fv)] : List Ad)), (wI .i64 (v3.2 + 1))))
   (j3 v3.1)
def HU (N : Nat) (p0 : Ab) (p1 : List Aa) : Option ((List Ad) × Int) :=
 (GP N p0 p1).bind fun v1 =>
 AN ((v1.2 != 0))
  (some (([] : List Ad), v1.2))
  (FB N v1 (fun (v4 : (List Ad)) =>
   (D4 N v4 ((fun (x : Ad × Ad) => FU N x.1 x.2))).bind fun v8 =>
   (C0 N v8).bind fun v9 =>
   (DQ (v9.1 ≤ v9.2.length)).bind fun _ =>
   some (v9.2.take v9.1, 0)) N (([] : List Ad), 0))
def Fm (N : Nat) (p0 : Ab) (v8 : Aa) (j11 : Int → Option (Int × Aa × Int)) : Nat → (Int × Int) → Option (Int × Aa × Int)
 | 0, _ => none
 | n11 + 1, v11 =>
  AN ((decide (v11.2 < (p0.fj.length : Int))))
   (Bc (fun (v14 : Int) =>
    Fm N p0 v8 j11 n11 (v14, (wI .i64 (v11.2 + 1))))
   fun j14 =>
   (BB p0.fj v11.2).bind fun v15 =>
   Bc (fun (v16 : Bool) =>
    AN v16
     (j14 (wI .i64 (v11.1 + 1)))
     (j14 v11.1))
   fun j16 =>
   (BB v8.fd v11.2).bind fun v17 =>
   AN ((v17 == v15))
    ((BB v8.fa v11.2).bind fun v19 =>
    j16 (decide (v19 < 0)))
    (j16 false))
   (j11 v11.1)
def FH (N : Nat) (p0 : Ab) (p1 : List Aa) (j4 : (Int × Int) → Option (Int × Aa × Int)) : Nat → (Int × Int × Int) → Option (Int × Aa × Int)
 | 0, _ => none
 | n4 + 1, v4 =>
  AN ((decide (v4.2.2 < (p1.length : Int))))
   (Bc (fun (v7 : Int × Int) =>
    FH N p0 p1 j4 n4 (v7.1, v7.2, (wI .i64 (v4.2.2 + 1))))
   fun j7 =>
   (BB p1 v4.2.2).bind fun v8 =>
   (E9 N p0 v8).bind fun v9 =>
   AN ((v9 != 0))
    (some (0, (Aa.mk (([] : List Int)) (([] : List Int)) (([] : List Int))), v9))
    (Fm N p0 v8 (fun (v12 : Int) =>
     AN ((decide (v4.1 < v12)))
      (j7 (v12, v4.2.2))
      (j7 (v4.1, v4.2.1))) N (0, 0)))
   (j4 (v4.1, v4.2.1))
def HN (N : Nat) (p0 : Ab) (p1 : List Aa) : Option (Int × Aa × Int) :=
 (CO N p0).bind fun v1 =>
 AN ((v1 != 0))
  (some (0, (Aa.mk (([] : List Int)) (([] : List Int)) (([] : List Int))), v1))
  (AN (((p1.length : Int) == 0))
   (some (0, (Aa.mk (([] : List Int)) (([] : List Int)) (([] : List Int))), 10))
   (FH N p0 p1 (fun (v5 : Int × Int) =>
    (BB p1 v5.2).bind fun v22 =>
    (Bm N v22.fd).bind fun v23 =>
    (Bm N v22.fa).bind fun v24 =>
    (BD N v22.fc).bind fun v25 =>
    some (v5.1, (Aa.mk v23 v24 v25), 0)) N ((-1), 0, 0)))
def Du (N : Nat) (p0 : Aa) (p1 : Aa) : Option Bool :=
 (AY N p0 p1).bind fun v1 =>
 some ((v1 == 0))
def Fa (N : Nat) (p0 : List Aa) (p1 : List Aa) (j2 : Unit → Option Bool) : Nat → Int → Option Bool
 | 0, _ => none
 | n2 + 1, v2 =>
  AN ((decide (v2 < (p0.length : Int))))
   ((BB p0 v2).bind fun v5 =>
   (BB p1 v2).bind fun v6 =>
   (Du N v5 v6).bind fun v7 =>
   AN ((!v7))
    (some false)
    (Fa N p0 p1 j2 n2 (wI .i64 (v2 + 1))))
   (j2 ())
def GX (N : Nat) (p0 : List Aa) (p1 : List Aa) : Option Bool :=
 AN (((p0.length : Int) != (p1.length : Int)))
  (some false)
  (Fa N p0 p1 (fun (_ : Unit) =>
   some true) N 0)
def AE (N : Nat) (p0 : List Aa) (p1 : Aa) (p2 : (Aa × Aa) → Option Int) (j1 : Int → Option (Int × Bool)) : Nat → (Int × Int) → Option (Int × Bool)
 | 0, _ => none
 | n1 + 1, v1 =>
  AN ((decide (v1.1 < v1.2)))
   ((BB p0 ((wI .i64 ((Fo .u64 ((wI .u64 ((wI .i64 (v1.1 + v1.2))))) 1))))).bind fun v4 =>
   (p2 ((v4, p1))).bind fun v5 =>
   AN ((decide (v5 < 0)))
    (AE N p0 p1 p2 j1 n1 ((wI .i64 ((wI .i64 ((Fo .u64 ((wI .u64 ((wI .i64 (v1.1 + v1.2))))) 1))) + 1)), v1.2))
    (AE N p0 p1 p2 j1 n1 (v1.1, (wI .i64 ((Fo .u64 ((wI .u64 ((wI .i64 (v1.1 + v1.2))))) 1))))))
   (j1 v1.1)
def AQ (N : Nat) (p0 : List Aa) (p1 : Aa) (p2 : (Aa × Aa) → Option Int) : Option (Int × Bool) :=
 AE N p0 p1 p2 (fun (v2 : Int) =>
  Bc (fun (v7 : Bool) =>
   some (v2, v7))
  fun j7 =>
  AN ((decide (v2 < (p0.length : Int))))
   ((BB p0 v2).bind fun v9 =>
   (p2 ((v9, p1))).bind fun v10 =>
   j7 (v10 == 0))
   (j7 false)) N (0, (p0.length : Int))
def Fd (N : Nat) (p0 : List Aa) (p1 : Aa) : Option Bool :=
 (AQ N p0 p1 ((fun (x : Aa × Aa) => CD N x.1 x.2))).bind fun v1 =>
 some v1.2
def EI (N : Nat) (p0 : Ab) (p1 : List Aa) (j5 : Unit → Option Bool) : Nat → Int → Option Bool
 | 0, _ => none
 | n5 + 1, v5 =>
  AN ((decide (v5 < (p1.length : Int))))
   ((BB p1 v5).bind fun v8 =>
   Bc (fun (v9 : Bool) =>
    AN v9
     (some false)
     ((DY N p0 v8).bind fun v14 =>
     Bc (fun (v15 : Bool) =>
      AN v15
       (some false)
       (EI N p0 p1 j5 n5 (wI .i64 (v5 + 1))))
     fun j15 =>
     AN ((!v14.1))
      (j15 true)
      (AN ((v14.2 != 0))
       (j15 true)
       ((HH N p0 v8).bind fun v18 =>
       j15 v18))))
   fun j9 =>
   AN ((decide (0 < v5)))
    ((BB p1 ((wI .i64 (v5 - 1)))).bind fun v11 =>
    (CD N v11 v8).bind fun v12 =>
    j9 (decide (0 ≤ v12)))
    (j9 false))
   (j5 ())
def Ev (N : Nat) (p0 : Ab) (p1 : List Aa) (v25 : Aa) (v26 : (List Aj) × Int) (j27 : Unit → Option Bool) : Nat → Int → Option Bool
 | 0, _ => none
 | n27 + 1, v27 =>
  AN ((decide (v27 < (v26.1.length : Int))))
   ((BB v26.1 v27).bind fun v30 =>
   (FO N p0 v25 v30).bind fun v31 =>
   (DY N p0 v31.1).bind fun v32 =>
   Bc (fun (v33 : Bool) =>
    AN v33
     (some false)
     (Ev N p0 p1 v25 v26 j27 n27 (wI .i64 (v27 + 1))))
   fun j33 =>
   AN v32.1
    ((Fd N p1 v31.1).bind fun v35 =>
    j33 (!v35))
    (j33 false))
   (j27 ())
def Et (N : Nat) (p0 : Ab) (p1 : List Aa) (j22 : Unit → Option Bool) : Nat → Int → Option Bool
 | 0, _ => none
 | n22 + 1, v22 =>
  AN ((decide (v22 < (p1.length : Int))))
   ((BB p1 v22).bind fun v25 =>
   (E5 N p0 v25).bind fun v26 =>
   Ev N p0 p1 v25 v26 (fun (_ : Unit) =>
    Et N p0 p1 j22 n22 (wI .i64 (v22 + 1))) N 0)
   (j22 ())
def DZ (N : Nat) (p0 : Ab) (p1 : List Aa) : Option Bool :=
 (GN N p0).bind fun v1 =>
 AN ((v1.2 != 0))
  (some false)
  ((DY N p0 v1.1).bind fun v3 =>
  AN ((!v3.1))
   (some (((p1.length : Int) == 0)))
   (EI N p0 p1 (fun (_ : Unit) =>
    (Fd N p1 v1.1).bind fun v20 =>
    AN ((!v20))
     (some false)
     (Et N p0 p1 (fun (_ : Unit) =>
      some true) N 0)) N 0))
def D0 (N : Nat) (p0 : List Ad) (p1 : List Ad) (j2 : Unit → Option Bool) : Nat → Int → Option Bool
 | 0, _ => none
 | n2 + 1, v2 =>
  AN ((decide (v2 < (p0.length : Int))))
   ((BB p0 v2).bind fun v5 =>
   (BB p1 v2).bind fun v6 =>
   AN ((!((v5.ft == v6.ft) && ((v5.fu == v6.fu) && ((v5.fv == v6.fv) && true)))))
    (some false)
    (D0 N p0 p1 j2 n2 (wI .i64 (v2 + 1))))
   (j2 ())
def Ft (N : Nat) (p0 : List Ad) (p1 : List Ad) : Option Bool :=
 AN (((p0.length : Int) != (p1.length : Int)))
  (some false)
  (D0 N p0 p1 (fun (_ : Unit) =>
   some true) N 0)
def Eb (N : Nat) : Option Bool :=
 (B9 N).bind fun v1 =>
 (Iy N v1).bind fun v2 =>
 (B9 N).bind fun v3 =>
 (GP N v3 v2.1).bind fun v4 =>
 (B9 N).bind fun v5 =>
 (HU N v5 v2.1).bind fun v6 =>
 (B9 N).bind fun v7 =>
 (HN N v7 v2.1).bind fun v8 =>
 Bc (fun (v9 : Bool) =>
  Bc (fun (v13 : Bool) =>
   Bc (fun (v25 : Bool) =>
    some v25)
   fun j25 =>
   AN v13
    (AN (((v4.1.length : Int) == 1))
     ((BB v4.1 0).bind fun v28 =>
     AN (((v28.fA.ff == 1) && ((v28.fA.fh == 0) && ((v28.fA.fm == 1) && true))))
      ((BB v4.1 0).bind fun v30 =>
      AN (((v30.fw.ft == 0) && ((v30.fw.fu == 1) && ((v30.fw.fv == 0) && true))))
       ((Ft N v6.1 (([(Ad.mk 0 1 0)] : List Ad))).bind fun v32 =>
       AN v32
        (AN ((v8.1 == 0))
         ((Du N v8.2.1 ((Aa.mk (([0] : List Int)) (([(-1)] : List Int)) (([0] : List Int))))).bind fun v35 =>
         j25 v35)
         (j25 false))
        (j25 false))
       (j25 false))
      (j25 false))
     (j25 false))
    (j25 false))
  fun j13 =>
  AN v9
   ((GX N v2.1 (([(Aa.mk (([0] : List Int)) (([(-1)] : List Int)) (([0] : List Int)))] : List Aa))).bind fun v15 =>
   AN v15
    ((B9 N).bind fun v17 =>
    (DZ N v17 v2.1).bind fun v18 =>
    AN v18
     ((B9 N).bind fun v20 =>
     (DZ N v20 (([] : List Aa))).bind fun v21 =>
     AN ((!v21))
      ((B9 N).bind fun v23 =>
      (DZ N v23 (([(Aa.mk (([0] : List Int)) (([(-1)] : List Int)) (([0] : List Int))), (Aa.mk (([1] : List Int)) (([(-1)] : List Int)) (([0] : List Int)))] : List Aa))).bind fun v24 =>
      j13 (!v24))
      (j13 false))
     (j13 false))
    (j13 false))
   (j13 false))
 fun j9 =>
 AN ((v2.2 == 0))
  (AN ((v4.2 == 0))
   (AN ((v6.2 == 0))
    (j9 (v8.2.2 == 0))
    (j9 false))
   (j9 false))
  (j9 false)
def CL (_ : Nat) (p0 : List Aa) : Option ((List Aa)) :=
 (DQ ((([] : List Aa)).length + p0.length ≤ DC)).bind fun _ =>
 some ((([] : List Aa)) ++ p0)
def DL (_ : Nat) (p0 : List Int) (p1 : Int) : Option Int :=
 AN ((decide (p1 < (p0.length : Int))))
  ((BB p0 p1).bind fun v2 =>
  some ((wI .i64 v2)))
  (some 0)
def C2 (N : Nat) (p0 : Ab) (p1 : By) (j1 : ((List Int) × (List Int)) → Option Aa) : Nat → ((List Int) × (List Int) × Int) → Option Aa
 | 0, _ => none
 | n1 + 1, v1 =>
  AN ((decide (v1.2.2 < (p0.fb.length : Int))))
   ((BB p0.fb v1.2.2).bind fun v4 =>
   (DL N p1.fd v1.2.2).bind fun v5 =>
   (DQ (v4 ≠ 0)).bind fun _ =>
   Bc (fun (v7 : Int) =>
    (DQ (v1.1.length + (([(vF v5 v4)] : List Int)).length ≤ DC)).bind fun _ =>
    (DQ (v1.2.1.length + (([v7] : List Int)).length ≤ DC)).bind fun _ =>
    C2 N p0 p1 j1 n1 (v1.1 ++ (([(vF v5 v4)] : List Int)), v1.2.1 ++ (([v7] : List Int)), (wI .i64 (v1.2.2 + 1))))
   fun j7 =>
   (DL N p1.fa v1.2.2).bind fun v8 =>
   (DQ (v4 ≠ 0)).bind fun _ =>
   AN ((decide (0 < (vF v8 v4))))
    ((DQ (v4 ≠ 0)).bind fun _ =>
    j7 (vF ((wI .i64 ((vF v5 v4) + (vF v8 v4)))) v4))
    (j7 (-1)))
   (j1 (v1.1, v1.2.1))
def Bq (N : Nat) (p0 : Ab) (p1 : By) (v2 : (List Int) × (List Int)) (j14 : ((List Int)) → Option Aa) : Nat → ((List Int) × Int) → Option Aa
 | 0, _ => none
 | n14 + 1, v14 =>
  AN ((decide (v14.2 < (p0.fe.length : Int))))
   ((BB p0.fe v14.2).bind fun v17 =>
   Bc (fun (v18 : Int) =>
    (DQ (v14.1.length + (([v18] : List Int)).length ≤ DC)).bind fun _ =>
    Bq N p0 p1 v2 j14 n14 (v14.1 ++ (([v18] : List Int)), (wI .i64 (v14.2 + 1))))
   fun j18 =>
   (A5 N v17).bind fun v19 =>
   AN v19
    ((BB p0.fb v17.fg).bind fun v21 =>
    (DQ (0 ≤ v21)).bind fun _ =>
    (BQ N ((Aa.mk v2.1 v2.2 v14.1)) v17.fg).bind fun v23 =>
    (DL N p1.fc v14.2).bind fun v24 =>
    j18 (MG .u8 v23 ((F5 .u8 ((wI .u8 v24)) ((wI .u8 ((D7 .u8 1 v21) - 1)))))))
    (j18 0))
   (j14 v14.1)
def E1 (N : Nat) (p0 : Ab) (p1 : By) : Option Aa :=
 C2 N p0 p1 (fun (v2 : (List Int) × (List Int)) =>
  Bq N p0 p1 v2 (fun (v15 : (List Int)) =>
   some ((Aa.mk v2.1 v2.2 v15))) N (([] : List Int), 0)) N (([] : List Int), ([] : List Int), 0)
def Bw (_ : Nat) (p0 : List Aa) (p1 : Int) (p2 : List Aa) : Option (List Aa) :=
 (DQ (p2.length = 1 ∧ 0 ≤ p1 ∧ p1.toNat ≤ p0.length ∧ p0.length + 1 ≤ DC)).bind fun _ => some (p0.take p1.toNat ++ (p2 ++ p0.drop p1.toNat))
def B6 (_ : Nat) (p0 : List Aa) (p1 : Int) (p2 : Int) : Option (Nat × (List Aa)) :=
 (DQ ((0 : Int) ≤ p1 ∧ (p1).toNat ≤ (p2).toNat ∧ 0 ≤ p2 ∧ (p2).toNat ≤ ((p0.length : Int)).toNat ∧ 0 ≤ (p0.length : Int) ∧ ((p0.length : Int)).toNat ≤ p0.length)).bind fun _ =>
 AN ((p1 == p2))
  (some (p0.length, p0))
  ((DQ ((0 : Int) ≤ p1 ∧ 0 ≤ (p1).toNat ∧ (p1).toNat ≤ p0.length)).bind fun _ =>
  (DQ ((0 : Int) ≤ p2 ∧ (p2).toNat ≤ p0.length ∧ p0.length ≤ p0.length)).bind fun _ =>
  (DQ ((p1).toNat + (((p0.drop ((p2).toNat)).take ((p0.length - (p2).toNat)))).length ≤ p0.length)).bind fun _ =>
  (DQ ((0 : Int) ≤ (((((p1).toNat + (((p0.drop ((p2).toNat)).take ((p0.length - (p2).toNat)))).length)) : Nat) : Int) ∧ (0 : Int) ≤ (p0.length : Int) ∧ ((((((p1).toNat + (((p0.drop ((p2).toNat)).take ((p0.length - (p2).toNat)))).length)) : Nat) : Int)).toNat ≤ ((p0.length : Int)).toNat ∧ ((p0.length : Int)).toNat ≤ (Gv p0 (0 + ((p1).toNat)) (((p0.drop ((p2).toNat)).take ((p0.length - (p2).toNat))))).length)).bind fun _ =>
  some (((p1).toNat + (((p0.drop ((p2).toNat)).take ((p0.length - (p2).toNat)))).length), Gv (Gv p0 (0 + ((p1).toNat)) (((p0.drop ((p2).toNat)).take ((p0.length - (p2).toNat))))) (((((((p1).toNat + (((p0.drop ((p2).toNat)).take ((p0.length - (p2).toNat)))).length)) : Nat) : Int)).toNat) (uY ((((p0.length : Int)).toNat - ((((((p1).toNat + (((p0.drop ((p2).toNat)).take ((p0.length - (p2).toNat)))).length)) : Nat) : Int)).toNat)) ((Aa.mk (([] : List Int)) (([] : List Int)) (([] : List Int)))))))
def Bx (N : Nat) (j1 : ((List Aa)) → Option ((List Aa))) : Nat → ((List Aa) × Int × Int) → Option ((List Aa))
 | 0, _ => none
 | n1 + 1, v1 =>
  AN ((decide (v1.2.1 < v1.2.2)))
   ((BB v1.1 v1.2.2).bind fun v4 =>
   (BB v1.1 v1.2.1).bind fun v5 =>
   (BB v1.1 v1.2.1).bind fun _ =>
   (BB (v1.1.set ((v1.2.1).toNat) v4) v1.2.2).bind fun _ =>
   Bx N j1 n1 ((v1.1.set ((v1.2.1).toNat) v4).set ((v1.2.2).toNat) v5, (wI .i64 (v1.2.1 + 1)), (wI .i64 (v1.2.2 - 1))))
   (j1 v1.1)
def Cs (N : Nat) (p0 : List Aa) : Option ((List Aa)) :=
 Bx N (fun (v2 : (List Aa)) =>
  some v2) N (p0, 0, (wI .i64 ((p0.length : Int) - 1)))
def C6 (N : Nat) (p0 : Ab) (p1 : List Aa) (p2 : B4) : Option ((List Aa)) :=
 (CL N p1).bind fun v1 =>
 (E1 N p0 ((By.mk p2.fr.fd p2.fr.fa p2.fr.fc))).bind fun v2 =>
 Bc (fun (v3 : Int) =>
  Bc (fun (v6 : (List Aa)) =>
   some v6)
  fun j6 =>
  AN (((vF p2.ff 6) == 0))
   ((AQ N v1 v2 ((fun (x : Aa × Aa) => AY N x.1 x.2))).bind fun v8 =>
   AN ((!v8.2))
    ((Bw N v1 v8.1 (([v2] : List Aa))).bind fun v10 =>
    j6 v10)
    (j6 v1))
   (AN (((v1.length : Int) == 0))
    (j6 v1)
    (AN (((vF p2.ff 6) == 1))
     ((B6 N v1 v3 ((wI .i64 (v3 + 1)))).bind fun v13 =>
     (DQ (v13.1 ≤ v13.2.length)).bind fun _ =>
     j6 (v13.2.take v13.1))
     (AN (((vF p2.ff 6) == 2))
      ((BB v1 v3).bind fun v17 =>
      (Bw N v1 v3 (([v17] : List Aa))).bind fun v18 =>
      j6 v18)
      (AN (((vF p2.ff 6) == 3))
       ((BB v1 v3).bind fun _ =>
       j6 (v1.set ((v3).toNat) v2))
       (AN (((vF p2.ff 6) == 4))
        ((Cs N v1).bind fun v22 =>
        j6 v22)
        (j6 v1)))))))
 fun j3 =>
 AN ((decide (0 < (v1.length : Int))))
  ((DQ ((v1.length : Int) ≠ 0)).bind fun _ =>
  j3 (vF ((wI .i64 p2.fB)) ((v1.length : Int))))
  (j3 0)
def C7 (N : Nat) (p0 : Ab) (p1 : Aa) (j3 : Unit → Option Bool) : Nat → Int → Option Bool
 | 0, _ => none
 | n3 + 1, v3 =>
  AN ((decide (v3 < (p1.fd.length : Int))))
   (Bc (fun (v6 : Bool) =>
    AN v6
     (some false)
     (C7 N p0 p1 j3 n3 (wI .i64 (v3 + 1))))
   fun j6 =>
   (BB p1.fa v3).bind fun v7 =>
   AN ((decide (0 ≤ v7)))
    (j6 true)
    ((BB p1.fd v3).bind fun v9 =>
    (BB p0.fj v3).bind fun v10 =>
    j6 (v9 != v10)))
   (j3 ())
def DJ (N : Nat) (p0 : Ab) (p1 : Aa) : Option Bool :=
 (Dx N p0 p1).bind fun v1 =>
 AN ((v1 != 0))
  (some false)
  (C7 N p0 p1 (fun (_ : Unit) =>
   some true) N 0)
def BR (N : Nat) (p0 : Ab) (p1 : List Aa) (v5 : Int) (v25 : (List Aj)) (j26 : Unit → Option Bool) : Nat → Int → Option Bool
 | 0, _ => none
 | n26 + 1, v26 =>
  AN ((decide (v26 < (v25.length : Int))))
   ((BB p1 v5).bind fun v29 =>
   (BB v25 v26).bind fun v30 =>
   (Cz N p0 v29 v30).bind fun v31 =>
   (Dw N p1 v31.1).bind fun v32 =>
   Bc (fun (v33 : Bool) =>
    AN v33
     (some false)
     (BR N p0 p1 v5 v25 j26 n26 (wI .i64 (v26 + 1))))
   fun j33 =>
   AN ((!v32.2))
    ((BE N p0 v31.1).bind fun v35 =>
    j33 v35)
    (j33 false))
   (j26 ())
def B5 (N : Nat) (p0 : Ab) (p1 : List Aa) (j5 : Unit → Option Bool) : Nat → Int → Option Bool
 | 0, _ => none
 | n5 + 1, v5 =>
  AN ((decide (v5 < (p1.length : Int))))
   (Bc (fun (v8 : Bool) =>
    AN v8
     (some false)
     (Bc (fun (v14 : Bool) =>
      AN v14
       (some false)
       ((BB p1 v5).bind fun v24 =>
       (CE N p0 v24).bind fun v25 =>
       BR N p0 p1 v5 v25 (fun (_ : Unit) =>
        B5 N p0 p1 j5 n5 (wI .i64 (v5 + 1))) N 0))
     fun j14 =>
     (BB p1 v5).bind fun v15 =>
     (Dx N p0 v15).bind fun v16 =>
     AN ((v16 != 0))
      (j14 true)
      ((BB p1 v5).bind fun v18 =>
      (BE N p0 v18).bind fun v19 =>
      AN ((!v19))
       (j14 true)
       ((BB p1 v5).bind fun v21 =>
       (DJ N p0 v21).bind fun v22 =>
       j14 v22))))
   fun j8 =>
   AN ((decide (0 < v5)))
    ((BB p1 ((wI .i64 (v5 - 1)))).bind fun v10 =>
    (BB p1 v5).bind fun v11 =>
    (AY N v10 v11).bind fun v12 =>
    j8 (decide (0 ≤ v12)))
    (j8 false))
   (j5 ())
def D6 (N : Nat) (p0 : Ab) (p1 : List Aa) : Option Bool :=
 (D5 N p0).bind fun v1 =>
 AN ((v1.2 != 0))
  (some false)
  ((BE N p0 v1.1).bind fun v3 =>
  AN ((!v3))
   (some (((p1.length : Int) == 0)))
   (B5 N p0 p1 (fun (_ : Unit) =>
    (Dw N p1 v1.1).bind fun v37 =>
    some v37.2) N 0))
def B7 (N : Nat) (p0 : Aa) (p1 : List Int) (p2 : List Int) (p3 : List Int) : Option Bool :=
 (Du N p0 ((Aa.mk p1 p2 p3))).bind fun v1 =>
 some v1
def C3 (N : Nat) (p0 : Ab) (p1 : List Aa) (j1 : Unit → Option Bool) : Nat → Int → Option Bool
 | 0, _ => none
 | n1 + 1, v1 =>
  AN ((decide (v1 < (p1.length : Int))))
   ((BB p1 v1).bind fun v4 =>
   (DJ N p0 v4).bind fun v5 =>
   AN v5
    (some true)
    (C3 N p0 p1 j1 n1 (wI .i64 (v1 + 1))))
   (j1 ())
def Da (N : Nat) (p0 : Ab) (p1 : List Aa) : Option Bool :=
 C3 N p0 p1 (fun (_ : Unit) =>
  some false) N 0
def BO (N : Nat) (v1 : Ab × (List Aa) × Bool) (v7 : (List Aa)) (v8 : Bool) (j11 : Unit → Option Bool) : Nat → Int → Option Bool
 | 0, _ => none
 | n11 + 1, v11 =>
  AN ((decide (v11 < (v1.2.1.length : Int))))
   ((BB v1.2.1 v11).bind fun v14 =>
   Bc (fun (v15 : Bool) =>
    AN v15
     (some false)
     (BO N v1 v7 v8 j11 n11 (wI .i64 (v11 + 1))))
   fun j15 =>
   AN v8
    ((Bl N v7 ((fun (x : Aa) => B7 N x v14.fd v14.fa v14.fc))).bind fun v17 =>
    j15 (!v17))
    (j15 false))
   (j11 ())
def CQ (N : Nat) (p0 : BN) (p1 : B4) : Option Bool :=
 (FG N p0).bind fun v1 =>
 Bc (fun (v2 : Bool) =>
  AN v2
   ((Eb N).bind fun v6 =>
   some v6)
   ((C6 N v1.1 v1.2.1 ((B4.mk p1.ff p1.fB ((By.mk p1.fr.fd p1.fr.fa p1.fr.fc))))).bind fun v7 =>
   (DZ N v1.1 v7).bind fun v8 =>
   (D6 N v1.1 v7).bind fun v9 =>
   AN ((!(v8 == v9)))
    (some false)
    (BO N v1 v7 v8 (fun (_ : Unit) =>
     Bc (fun (v19 : Bool) =>
      some v19)
     fun j19 =>
     AN ((!v8))
      (j19 true)
      ((Da N v1.1 v1.2.1).bind fun v21 =>
      j19 (!v21))) N 0)))
 fun j2 =>
 (Eb N).bind fun v3 =>
 AN ((!v3))
  (j2 true)
  (j2 (!v1.2.2))
def Ls {α : Type} (w : α → Prop) (xs : List α) : Prop := ∀ x, x ∈ xs → w x
def JR (n : Int) : Prop := (Lit.int .u8 n).wf = true
def YB (n : Int) : Prop := (Lit.int .u16 n).wf = true
def H9 (x : Ho) : Prop := JR x.ff ∧ JR x.fg ∧ JR x.fk ∧ (fun _ => True) x.fp ∧ YB x.fC ∧ YB x.fD ∧ True
def FF (x : BN) : Prop := (Ls JR) x.fb ∧ (Ls JR) x.fi ∧ (Ls JR) x.fj ∧ (Ls H9) x.fy ∧ True
def HO (x : By) : Prop := (Ls JR) x.fd ∧ (Ls JR) x.fa ∧ (Ls JR) x.fc ∧ True
def Fy (x : B4) : Prop := JR x.ff ∧ JR x.fB ∧ HO x.fr ∧ True
open Go.RowKit
open Go.Proofs
abbrev MS (x : Ho) : List C := [.pure (.val (.int .u8 x.ff)), .pure (.val (.int .u8 x.fg)), .pure (.val (.int .u8 x.fk)), .pure (.val (.bool x.fp)), .pure (.val (.int .u16 x.fC)), .pure (.val (.int .u16 x.fD))]
abbrev CZ (x : BN) : List C := [sC (x.fb.map CF), sC (x.fi.map CF), sC (x.fj.map CF), sC (x.fy.map GH)]
abbrev EZ (x : By) : List C := [sC (x.fd.map CF), sC (x.fa.map CF), sC (x.fc.map CF)]
abbrev Gt (x : B4) : List C := [.pure (.val (.int .u8 x.ff)), .pure (.val (.int .u8 x.fB)), sC (x.fr.fd.map CF), sC (x.fr.fa.map CF), sC (x.fr.fc.map CF)]
abbrev Bs (x : AC) : List C := [iC x.ff, iC x.fg, iC x.fk, .pure (.val (.bool x.fp)), sC (x.fq.map (Mj eB)), sC (x.fo.map (Mj eB))]
abbrev Ae (x : Ab) : List C := [sC (x.fb.map Ao), sC (x.fi.map Ao), sC (x.fj.map Ao), sC (x.fe.map Bh)]
abbrev AA (x : Aa) : List C := [sC (x.fd.map Ao), sC (x.fa.map Ao), sC (x.fc.map CF)]
abbrev IM (x : Ad) : List C := [iC x.ft, iC x.fu, iC x.fv]
abbrev DI (x : Aj) : List C := [iC x.ff, iC x.fh, iC x.fm]
theorem Ax : Tryz.prog.follows .mixedOrders = true := by kernel_rfl
theorem wq {X : Io} {y : Code} {id : Nat} {ops : Array Oper} {dr : Bool} {Q : Exit → St → Prop} {st : St} {n : Nat} (hn : ops.size = n) (h : Bd uS X ops dr (fun st' => W uS X y Q st') n 0 st []) : W uS X (.seq (.region id ops dr) y) Q st := bC Ax hn h
theorem wp {X : Io} {y z : Code} {id : Nat} {ops : Array Oper} {dr : Bool} {Q : Exit → St → Prop} {st : St} {n : Nat} (hn : ops.size = n) (h : Bd uS X ops dr (fun st' => W uS X y (PI (W uS X z Q) Q) st') n 0 st []) : W uS X (.seq (.seq (.region id ops dr) y) z) Q st := AS (bC Ax hn h)
theorem YV : Fp uS 101 true = true := by kernel_rfl
theorem RH : Fp uS 22 false = true := by kernel_rfl
theorem Yc : Fp uS 23 false = true := by kernel_rfl
theorem ZS : Fp uS 25 true = true := by kernel_rfl
theorem A7 : Fp uS 26 false = true := by kernel_rfl
theorem Hz : Fp uS 27 false = true := by kernel_rfl
theorem Db : Fp uS 29 true = true := by kernel_rfl
theorem Cl : Fp uS 3 false = true := by kernel_rfl
theorem Ti : Fp uS 4 false = true := by kernel_rfl
theorem aM : Fp uS 41 true = true := by kernel_rfl
theorem GU : Fp uS 44 false = true := by kernel_rfl
theorem AZ : Fp uS 46 true = true := by kernel_rfl
theorem Xi : Fp uS 5 false = true := by kernel_rfl
theorem KP : Fp uS 66 true = true := by kernel_rfl
theorem KQ : Fp uS 67 false = true := by kernel_rfl
theorem HM : Fp uS 69 true = true := by kernel_rfl
theorem QS : Fp uS 70 false = true := by kernel_rfl
theorem aA : Fp uS 78 true = true := by kernel_rfl
theorem Ks : Fp uS 81 false = true := by kernel_rfl
theorem IA : Fp uS 84 true = true := by kernel_rfl
theorem aJ : Fp uS 86 true = true := by kernel_rfl
theorem Zf : Fp uS 99 false = true := by kernel_rfl
theorem bH : PR uS 4 = true := by kernel_rfl
theorem ZF : Qi uS 22 = true := by kernel_rfl
theorem LE : Fs uS 3 8 = true := by kernel_rfl
theorem XM : Fs uS 4 1 = true := by kernel_rfl
theorem Lp : Fs uS 46 72 = true := by kernel_rfl
theorem Zu : Fs uS 5 1 = true := by kernel_rfl
theorem Rj : Fs uS 66 24 = true := by kernel_rfl
theorem Zh : Fs uS 69 80 = true := by kernel_rfl
theorem Y1 : Fs uS 70 24 = true := by kernel_rfl
theorem PY : Fs uS 81 1 = true := by kernel_rfl
theorem Rh : Fs uS 84 24 = true := by kernel_rfl
theorem XF : Fs uS 86 120 = true := by kernel_rfl
theorem Ut : Cu uS 101 0 0 = true := by kernel_rfl
theorem UL : Cu uS 101 1 1 = true := by kernel_rfl
theorem UB : Cu uS 101 2 2 = true := by kernel_rfl
theorem Ve : Cu uS 101 3 3 = true := by kernel_rfl
theorem VB : Cu uS 101 4 4 = true := by kernel_rfl
theorem UN : Cu uS 101 5 5 = true := by kernel_rfl
theorem Qu : Cu uS 25 0 0 = true := by kernel_rfl
theorem WH : Cu uS 25 1 1 = true := by kernel_rfl
theorem W5 : Cu uS 25 2 2 = true := by kernel_rfl
theorem P4 : Cu uS 25 3 3 = true := by kernel_rfl
theorem Bt : Cu uS 29 0 0 = true := by kernel_rfl
theorem Hp : Cu uS 29 1 1 = true := by kernel_rfl
theorem Ig : Cu uS 29 2 2 = true := by kernel_rfl
theorem CY : Cu uS 29 3 3 = true := by kernel_rfl
theorem Wj : Cu uS 41 0 0 = true := by kernel_rfl
theorem WT : Cu uS 41 1 1 = true := by kernel_rfl
theorem WO : Cu uS 41 2 2 = true := by kernel_rfl
theorem Ct : Cu uS 46 0 0 = true := by kernel_rfl
theorem Bo : Cu uS 46 1 1 = true := by kernel_rfl
theorem Cx : Cu uS 46 2 2 = true := by kernel_rfl
theorem S8 : Cu uS 66 0 0 = true := by kernel_rfl
theorem S6 : Cu uS 66 1 1 = true := by kernel_rfl
theorem S3 : Cu uS 66 2 2 = true := by kernel_rfl
theorem Gw : Cu uS 69 0 0 = true := by kernel_rfl
theorem Dl : Cu uS 69 1 1 = true := by kernel_rfl
theorem IQ : Cu uS 69 2 2 = true := by kernel_rfl
theorem JF : Cu uS 69 3 3 = true := by kernel_rfl
theorem Ko : Cu uS 69 4 4 = true := by kernel_rfl
theorem Hm : Cu uS 69 5 5 = true := by kernel_rfl
theorem Wd : Cu uS 78 0 0 = true := by kernel_rfl
theorem Ww : Cu uS 78 1 1 = true := by kernel_rfl
theorem Wv : Cu uS 78 2 2 = true := by kernel_rfl
theorem Gf : Cu uS 84 0 0 = true := by kernel_rfl
theorem Fn : Cu uS 84 1 1 = true := by kernel_rfl
theorem Hk : Cu uS 84 2 2 = true := by kernel_rfl
theorem Wl : Cu uS 86 0 0 = true := by kernel_rfl
theorem S5 : Cu uS 86 2 6 = true := by kernel_rfl
theorem au : AF uS 10 = true := by kernel_rfl
theorem ZW : AF uS 100 = true := by kernel_rfl
theorem TI : AF uS 102 = true := by kernel_rfl
theorem Ze : AF uS 103 = true := by kernel_rfl
theorem Xy : AF uS 106 = true := by kernel_rfl
theorem V1 : AF uS 107 = true := by kernel_rfl
theorem VJ : AF uS 108 = true := by kernel_rfl
theorem Xn : AF uS 109 = true := by kernel_rfl
theorem Zx : AF uS 11 = true := by kernel_rfl
theorem ZC : AF uS 111 = true := by kernel_rfl
theorem Y2 : AF uS 112 = true := by kernel_rfl
theorem Zd : AF uS 113 = true := by kernel_rfl
theorem Tu : AF uS 114 = true := by kernel_rfl
theorem Xx : AF uS 115 = true := by kernel_rfl
theorem Zb : AF uS 119 = true := by kernel_rfl
theorem bn : AF uS 12 = true := by kernel_rfl
theorem YJ : AF uS 120 = true := by kernel_rfl
theorem ZM : AF uS 121 = true := by kernel_rfl
theorem Y3 : AF uS 122 = true := by kernel_rfl
theorem YW : AF uS 123 = true := by kernel_rfl
theorem ZJ : AF uS 124 = true := by kernel_rfl
theorem Y9 : AF uS 125 = true := by kernel_rfl
theorem ZG : AF uS 126 = true := by kernel_rfl
theorem ZI : AF uS 127 = true := by kernel_rfl
theorem Z3 : AF uS 129 = true := by kernel_rfl
theorem bv : AF uS 13 = true := by kernel_rfl
theorem YM : AF uS 130 = true := by kernel_rfl
theorem XD : AF uS 131 = true := by kernel_rfl
theorem aQ : AF uS 14 = true := by kernel_rfl
theorem ZA : AF uS 142 = true := by kernel_rfl
theorem Zy : AF uS 143 = true := by kernel_rfl
theorem WE : AF uS 15 = true := by kernel_rfl
theorem YP : AF uS 153 = true := by kernel_rfl
theorem ZQ : AF uS 154 = true := by kernel_rfl
theorem Xo : AF uS 155 = true := by kernel_rfl
theorem XJ : AF uS 156 = true := by kernel_rfl
theorem YZ : AF uS 157 = true := by kernel_rfl
theorem Zt : AF uS 158 = true := by kernel_rfl
theorem ZN : AF uS 159 = true := by kernel_rfl
theorem aj : AF uS 16 = true := by kernel_rfl
theorem ZU : AF uS 160 = true := by kernel_rfl
theorem Zr : AF uS 169 = true := by kernel_rfl
theorem bp : AF uS 17 = true := by kernel_rfl
theorem ZL : AF uS 170 = true := by kernel_rfl
theorem am : AF uS 18 = true := by kernel_rfl
theorem Zv : AF uS 21 = true := by kernel_rfl
theorem bj : AF uS 22 = true := by kernel_rfl
theorem ai : AF uS 24 = true := by kernel_rfl
theorem aS : AF uS 25 = true := by kernel_rfl
theorem Yy : AF uS 27 = true := by kernel_rfl
theorem bA : AF uS 29 = true := by kernel_rfl
theorem Zj : AF uS 30 = true := by kernel_rfl
theorem ZD : AF uS 35 = true := by kernel_rfl
theorem ag : AF uS 36 = true := by kernel_rfl
theorem bd : AF uS 37 = true := by kernel_rfl
theorem aT : AF uS 38 = true := by kernel_rfl
theorem Sz : AF uS 39 = true := by kernel_rfl
theorem aK : AF uS 40 = true := by kernel_rfl
theorem aC : AF uS 41 = true := by kernel_rfl
theorem ZO : AF uS 42 = true := by kernel_rfl
theorem Zm : AF uS 43 = true := by kernel_rfl
theorem YN : AF uS 44 = true := by kernel_rfl
theorem U1 : AF uS 45 = true := by kernel_rfl
theorem Yl : AF uS 46 = true := by kernel_rfl
theorem YO : AF uS 47 = true := by kernel_rfl
theorem Yu : AF uS 48 = true := by kernel_rfl
theorem Ya : AF uS 49 = true := by kernel_rfl
theorem ZT : AF uS 50 = true := by kernel_rfl
theorem O7 : AF uS 51 = true := by kernel_rfl
theorem Zi : AF uS 52 = true := by kernel_rfl
theorem Yf : AF uS 53 = true := by kernel_rfl
theorem TX : AF uS 54 = true := by kernel_rfl
theorem ZZ : AF uS 55 = true := by kernel_rfl
theorem Wp : AF uS 58 = true := by kernel_rfl
theorem aX : AF uS 59 = true := by kernel_rfl
theorem aW : AF uS 60 = true := by kernel_rfl
theorem Zk : AF uS 61 = true := by kernel_rfl
theorem Wu : AF uS 62 = true := by kernel_rfl
theorem ay : AF uS 63 = true := by kernel_rfl
theorem Uu : AF uS 65 = true := by kernel_rfl
theorem SK : AF uS 66 = true := by kernel_rfl
theorem Ys : AF uS 67 = true := by kernel_rfl
theorem Ur : AF uS 68 = true := by kernel_rfl
theorem Z6 : AF uS 70 = true := by kernel_rfl
theorem Vw : AF uS 71 = true := by kernel_rfl
theorem Z1 : AF uS 72 = true := by kernel_rfl
theorem XL : AF uS 73 = true := by kernel_rfl
theorem X6 : AF uS 74 = true := by kernel_rfl
theorem aV : AF uS 75 = true := by kernel_rfl
theorem bf : AF uS 76 = true := by kernel_rfl
theorem bB : AF uS 77 = true := by kernel_rfl
theorem Y6 : AF uS 78 = true := by kernel_rfl
theorem YT : AF uS 79 = true := by kernel_rfl
theorem aU : AF uS 80 = true := by kernel_rfl
theorem aq : AF uS 81 = true := by kernel_rfl
theorem XQ : AF uS 82 = true := by kernel_rfl
theorem aP : AF uS 83 = true := by kernel_rfl
theorem Yv : AF uS 84 = true := by kernel_rfl
theorem az : AF uS 85 = true := by kernel_rfl
theorem af : AF uS 86 = true := by kernel_rfl
theorem ae : AF uS 87 = true := by kernel_rfl
theorem bu : AF uS 88 = true := by kernel_rfl
theorem aI : AF uS 89 = true := by kernel_rfl
theorem al : AF uS 90 = true := by kernel_rfl
theorem X0 : AF uS 91 = true := by kernel_rfl
theorem Zs : AF uS 92 = true := by kernel_rfl
theorem ah : AF uS 93 = true := by kernel_rfl
theorem ax : AF uS 94 = true := by kernel_rfl
theorem bo : AF uS 95 = true := by kernel_rfl
theorem aF : AF uS 96 = true := by kernel_rfl
theorem ZE : AF uS 97 = true := by kernel_rfl
theorem aB : AF uS 98 = true := by kernel_rfl
theorem bm : AF uS 99 = true := by kernel_rfl
theorem Rc : NU uS 152 .u64 = true := by kernel_rfl
theorem SX : NU uS 179 .u32 = true := by kernel_rfl
theorem Xp : NU uS 181 .u64 = true := by kernel_rfl
theorem Vs : NU uS 3 .i64 = true := by kernel_rfl
theorem bE : NU uS 5 .u8 = true := by kernel_rfl
theorem aZ : NU uS 81 .u8 = true := by kernel_rfl
theorem X7 : Tryz.prog.underlying 9 = some .string := by kernel_rfl
theorem QH : Tryz.prog.underlying 134 = some (.map 9 4) := by kernel_rfl
theorem Z0 : IP uS 29 = some [(0, 1), (1, 1), (2, 1), (3, 1)] := by kernel_rfl
theorem Hu : IP uS 46 = some [(0, 1), (1, 1), (2, 1)] := by kernel_rfl
theorem SE : IP uS 66 = some [(0, 1), (1, 1), (2, 1)] := by kernel_rfl
theorem Zq : IP uS 69 = some [(0, 1), (1, 1), (2, 1), (3, 1), (4, 1), (5, 1)] := by kernel_rfl
theorem VX : IP uS 84 = some [(0, 1), (1, 1), (2, 1)] := by kernel_rfl
theorem bg : IP uS 86 = some [(0, 3), (3, 3), (6, 3)] := by kernel_rfl
theorem Tb : T7 uS 66 = some [0, 0, 0] := by kernel_rfl
theorem Zp : T7 uS 84 = some [0, 0, 0] := by kernel_rfl
theorem JW : sliceB uS 22 5 = true := by kernel_rfl
theorem VR : sliceB uS 23 101 = true := by kernel_rfl
theorem Ay : sliceB uS 26 3 = true := by kernel_rfl
theorem Ek : sliceB uS 27 69 = true := by kernel_rfl
theorem A0 : sliceB uS 30 46 = true := by kernel_rfl
theorem Df : sliceB uS 44 81 = true := by kernel_rfl
theorem Lw : sliceB uS 48 86 = true := by kernel_rfl
theorem EH : sliceB uS 55 66 = true := by kernel_rfl
theorem GR : sliceB uS 67 70 = true := by kernel_rfl
theorem Ha : sliceB uS 70 4 = true := by kernel_rfl
theorem E8 : sliceB uS 94 84 = true := by kernel_rfl
theorem TG : (Tryz.prog.underlying 152).isSome = true := by kernel_rfl
theorem TD : (Tryz.prog.underlying 179).isSome = true := by kernel_rfl
theorem XI : (Tryz.prog.underlying 181).isSome = true := by kernel_rfl
theorem YF : (Tryz.prog.underlying 3).isSome = true := by kernel_rfl
theorem XC : (Tryz.prog.underlying 5).isSome = true := by kernel_rfl
theorem ap : (Tryz.prog.underlying 81).isSome = true := by kernel_rfl
theorem Zw : PK uS 9 = true := by kernel_rfl
theorem VE : Hl uS 101 6 = true := by kernel_rfl
theorem Za : Hl uS 25 4 = true := by kernel_rfl
theorem R7 : Hl uS 26 1 = true := by kernel_rfl
theorem aG : Hl uS 27 1 = true := by kernel_rfl
theorem CM : Hl uS 29 4 = true := by kernel_rfl
theorem Do : Hl uS 3 1 = true := by kernel_rfl
theorem Rd : Hl uS 4 1 = true := by kernel_rfl
theorem ad : Hl uS 41 3 = true := by kernel_rfl
theorem Zn : Hl uS 44 1 = true := by kernel_rfl
theorem Az : Hl uS 46 3 = true := by kernel_rfl
theorem XT : Hl uS 5 1 = true := by kernel_rfl
theorem Fi : Hl uS 66 3 = true := by kernel_rfl
theorem ZK : Hl uS 67 1 = true := by kernel_rfl
theorem Ex : Hl uS 69 6 = true := by kernel_rfl
theorem NE : Hl uS 70 1 = true := by kernel_rfl
theorem bk : Hl uS 78 5 = true := by kernel_rfl
theorem FR : Hl uS 81 1 = true := by kernel_rfl
theorem E2 : Hl uS 84 3 = true := by kernel_rfl
theorem Rm : Hl uS 86 9 = true := by kernel_rfl
theorem Zl : EN uS 101 = some (.agg #[.int .u8 0, .int .u8 0, .int .u8 0, .bool false, .int .u16 0, .int .u16 0]) := by kernel_rfl
theorem R4 : EN uS 29 = some (.agg #[.slice none 0 0, .slice none 0 0, .slice none 0 0, .slice none 0 0]) := by kernel_rfl
theorem Kq : EN uS 3 = some (.int .i64 0) := by kernel_rfl
theorem WN : EN uS 4 = some (.bool false) := by kernel_rfl
theorem B1 : EN uS 46 = some (.agg #[.slice none 0 0, .slice none 0 0, .slice none 0 0]) := by kernel_rfl
theorem Z9 : EN uS 5 = some (.int .u8 0) := by kernel_rfl
theorem Jo : EN uS 66 = some (.agg #[.int .i64 0, .int .i64 0, .int .i64 0]) := by kernel_rfl
theorem Lj : EN uS 69 = some (.agg #[.int .i64 0, .int .i64 0, .int .i64 0, .bool false, .slice none 0 0, .slice none 0 0]) := by kernel_rfl
theorem Yt : EN uS 70 = some (.slice none 0 0) := by kernel_rfl
theorem M3 : EN uS 81 = some (.int .u8 0) := by kernel_rfl
theorem JQ : EN uS 84 = some (.agg #[.int .i64 0, .int .i64 0, .int .i64 0]) := by kernel_rfl
theorem U5 : EN uS 86 = some (.agg #[.int .i64 0, .int .i64 0, .int .i64 0, .slice none 0 0, .slice none 0 0, .slice none 0 0, .int .i64 0, .int .i64 0, .int .i64 0]) := by kernel_rfl
set_option maxRecDepth 10000
theorem Jg (N : Nat) (p0 : List Int) (p1 : Int) (r : Int) (h : Eu N p0 p1 = some r) : Ar uS 50 [pD (.sl (p0.map CF)), iD p1] [] (iD r) := by
 unfold Eu at h
 refine cw (n := 14) (rs := [.tmp 4]) Tryz.func50 fun w0 S0 => ?_
 refine wq rfl (qa rfl (Ac (wp rfl (qw 2 rfl (AL JW rfl (AV rfl (Ac ?_)))))))
 refine Bb h (fun h => ?_) fun h => ?_
 ·refine wq rfl (qw 2 rfl ?_)
  refine B3 h fun v2 a2 b2 h => qi JW XT a2 (Ag b2) rfl (qk Xi rfl (Iw XC Vs rfl (qe rfl ?_)))
  obtain rfl := sj h
  refine Af (sm [] [(4, iD ((wI .i64 v2)))] [] rfl rfl) (As ?_)
  exact ⟨⟨[_], tm, rfl⟩, tv⟩
 ·refine Ak (wq rfl (qe rfl ?_))
  obtain rfl := sj h
  refine Af (sm [] [(4, iD 0)] [] rfl rfl) (As ?_)
  exact ⟨⟨[_], tm, rfl⟩, tv⟩
theorem Ch (N : Nat) (p0 : AC) (r : Bool) (h : A5 N p0 = some r) : Ar uS 51 [.e (.agg (Bs p0))] [] (bD r) := by
 unfold A5 at h
 refine cw (n := 11) (rs := [.tmp 2]) Tryz.func51 fun w0 S0 => ?_
 refine wq rfl (qb rfl (qe rfl ?_))
 refine AR h (fun v1 => mk [(2, bD v1)] []) (fun j1 h => ?_) (fun v1 h => ?_)
 ·refine Ah Ax rfl (qf Gw rfl (ql Cl rfl (BY rfl (qm rfl ?_))))
  refine Eh 6 h rfl (fun h => ?_) fun h => ?_
  ·refine qw 3 rfl (qp rfl (qe rfl ?_))
   exact sn [] h
  ·refine qf Gw rfl (ql Cl rfl (BY rfl (qp rfl (qe rfl ?_))))
   exact sn [] h
 ·obtain rfl := sj h
  refine Af (sm [] [(2, bD v1)] [] rfl rfl) (As ?_)
  exact ⟨⟨[_], tm, rfl⟩, tv⟩
theorem Jl (N : Nat) (p0 : Int) (p1 : Int) (p2 : Int) (p3 : Bool) (r : (List (List Bool))) (h : Ew N p0 p1 p2 p3 = some r) : Ar uS 52 [iD p0, iD p1, pD (.val (.int .u16 p2)), bD p3] [(1, r.map (Mj eB))] (oD (.own 0)) := by
 unfold Ew at h
 refine cw (n := 47) (rs := [.tmp 8]) Tryz.func52 fun w0 S0 => ?_
 refine wq rfl (qa rfl (Ac (wq rfl (qa rfl (Ac (wp rfl (qe rfl ?_)))))))
 refine AH (L := Cy N p0 p1 p2 p3) h (fun v1 => mk [(0, iD p0), (1, iD p1), (2, pD (.val (.int .u16 p2))), (3, bD p3), (9, oD (.own 2001)), (10, iD v1.2)] [(2001, .vec 1 (v1.1.map (Mj eB)))]) (fun v2 => mk [(9, oD (.own 2002))] [(2002, .vec 1 (v2.map (Mj eB)))]) (fun _ _ => rfl) ((Bf 9 2010 1 rfl rfl rfl).trans (sm [(2001, 2010)] _ _ rfl rfl)) (fun j1 n1 v1 h => ?_) (fun v2 s h hs => ?_)
 ·unfold Cy at h
  refine wp rfl (qw 2 rfl (AV rfl (Ac ?_)))
  refine Bb h (fun h => ?_) fun h => ?_
  ·refine Ak (AS (AO (wq rfl (qa rfl (Ac (wp rfl (qe rfl ?_)))))))
   refine AH (L := CA N p1 p2 p3 v1) h (fun v4 => mk [(0, iD p0), (1, iD p1), (2, pD (.val (.int .u16 p2))), (3, bD p3), (9, oD (.own 2003)), (10, iD v1.2), (11, oD (.own 2004)), (12, iD v4.2)] [(2003, .vec 1 (v1.1.map (Mj eB))), (2004, .vec 1 (v4.1.map eB))]) (fun v5 => mk [(0, iD p0), (1, iD p1), (2, pD (.val (.int .u16 p2))), (3, bD p3), (9, oD (.own 2005)), (10, iD v1.2), (11, oD (.own 2006))] [(2005, .vec 1 (v1.1.map (Mj eB))), (2006, .vec 1 (v5.map eB))]) (fun _ _ => rfl) ((Bf 11 2009 1 rfl rfl rfl).trans (sm [(2003, 2001), (2004, 2009)] _ _ rfl rfl)) (fun j4 n4 v4 h => ?_) (fun v5 s h hs => ?_)
   ·unfold CA at h
    refine wp rfl (qw 2 rfl (AV rfl (Ac ?_)))
    refine Bb h (fun h => ?_) fun h => ?_
    ·refine Ak ?_
     refine AR h (fun v7 => mk [(0, iD p0), (1, iD p1), (2, pD (.val (.int .u16 p2))), (3, bD p3), (9, oD (.own 2007)), (10, iD v1.2), (11, oD (.own 2008)), (12, iD v4.2)] [(2007, .vec 1 (v1.1.map (Mj eB))), (2008, .vec 1 (v7.map eB))]) (fun j7 h => ?_) (fun v7 h => ?_)
     ·refine AO (Ah Ax rfl (qw 3 rfl ?_))
      refine Eh 25 h rfl (fun h => ?_) fun h => ?_
      ·refine qw 2 rfl (BY rfl (qp rfl (qm rfl ?_)))
       refine Eh 30 h rfl (fun h => ?_) fun h => ?_
       ·refine qw 8 rfl (qp rfl (DF Ha Rd WN rfl ?_))
        refine F4 h fun c10 h => Dp (f := eB) Ha Ha Rd XM WN c10 rfl (qe rfl ?_)
        exact sn [(2007, 2003), (2008, 41)] h
       ·refine qw 2 rfl (Np rfl (qm rfl (A4 rfl ?_)))
        refine F4 h fun c11 h => Jv rfl c11 (Jw rfl (by decide) (BY rfl (qp rfl (DF Ha Rd WN rfl ?_))))
        refine F4 h fun c12 h => Dp (f := eB) Ha Ha Rd XM WN c12 rfl (qe rfl ?_)
        exact sn [(2007, 2003), (2008, 41)] h
      ·refine qw 3 rfl (qp rfl (qw 3 rfl (Np rfl (qm rfl (A4 rfl ?_)))))
       refine F4 h fun c13 h => Jv rfl c13 (Jw rfl (by decide) (BY rfl (qp rfl (DF Ha Rd WN rfl ?_))))
       refine F4 h fun c14 h => Dp (f := eB) Ha Ha Rd XM WN c14 rfl (qe rfl ?_)
       exact sn [(2007, 2003), (2008, 41)] h
     ·refine Ah Ax rfl (qm rfl (A4 rfl (qe rfl ?_)))
      exact sn [(2003, 2007), (2004, 2008)] h
    ·refine AT ?_
     exact sn [(2005, 2003), (2006, 2004)] h
   ·refine Af hs (Ah Ax rfl (qw 2 rfl (CX (AU 2006 _ _ rfl rfl) (DF GR NE Yt rfl ?_))))
    refine F4 h fun c15 h => Dp (f := (Mj eB)) GR GR NE Y1 Yt c15 rfl (qa rfl (Ac (Ah Ax rfl (qm rfl (A4 rfl (qe rfl ?_))))))
    exact sn [(2001, 45)] h
  ·refine AT ?_
   exact sn [(2002, 2001)] h
 ·refine Af hs (wq rfl (qm rfl (qe rfl ?_)))
  obtain rfl := sj h
  refine Af (sm [(1000, 2002)] [(8, oD (.own 1000))] [(1000, .vec 1 (v2.map (Mj eB)))] rfl rfl) (As ?_)
  exact ⟨⟨[_], tm, rfl⟩, ⟨rfl, tv⟩⟩
theorem MQ (N : Nat) (p0 : BN) (r : Ab × Bool) (h : Fz N p0 = some r) : Ar uS 16 [.e (.agg (CZ p0))] [(1, r.1.fb.map Ao), (1, r.1.fi.map Ao), (1, r.1.fj.map Ao), (6, r.1.fe.map Bh)] (.tup [.agg [.own 0, .own 1, .own 2, .own 3], .one (.pure (.val (.bool r.2)))]) := by
 unfold Fz at h
 refine cw (n := 152) (rs := [.cell 2 29, .tmp 3]) Tryz.func16 fun w0 S0 => ?_
 refine wq rfl (qb rfl (qz R4 rfl (qa rfl (Ac (AS ?_)))))
 refine AR h (fun v1 => mk [(1, oD (.ptr 1 0)), (2, oD (.ptr 2 0)), (19, bD v1)] [(1, .box (CZ p0)), (2, .box [.pure (.nil0), .pure (.nil0), .pure (.nil0), .pure (.nil0)])]) (fun j1 h => ?_) (fun v1 h => ?_)
 ·refine Ah Ax rfl (qf Qu rfl (ql RH rfl (AL JW rfl (FW rfl (qm rfl ?_)))))
  refine Eh 14 h rfl (fun h => ?_) fun h => ?_
  ·refine qw 4 rfl (qp rfl (Ac ?_))
   exact sn [] h
  ·refine qf P4 rfl (ql Yc rfl (AL VR rfl (FW rfl (qp rfl (Ac ?_)))))
   exact sn [] h
 ·refine Bb h (fun h => ?_) fun h => ?_
  ·refine wq rfl (Br R4 Z0 rfl (qs CM rfl (qe rfl ?_)))
   obtain rfl := sj h
   refine Af ((Av 2 0 2001 1 _ rfl rfl rfl rfl).trans ((Av 2 1 2002 1 _ rfl rfl rfl rfl).trans ((Av 2 2 2003 1 _ rfl rfl rfl rfl).trans ((Av 2 3 2004 6 _ rfl rfl rfl rfl).trans (sm [(1000, 2001), (1001, 2002), (1002, 2003), (1003, 2004)] [(2, oD (.ptr 2 0)), (3, bD false)] [(2, .box [.own 1000, .own 1001, .own 1002, .own 1003]), (1000, .vec 1 ((([] : List Int)).map Ao)), (1001, .vec 1 ((([] : List Int)).map Ao)), (1002, .vec 1 ((([] : List Int)).map Ao)), (1003, .vec 6 ((([] : List AC)).map Bh))] rfl rfl))))) (As ?_)
   exact ⟨⟨[_, _], ⟨.cellN _ _ _ _ _ _ _ rfl rfl Db CM rfl rfl (IX rfl), tm⟩, rfl⟩, ⟨rfl, rfl, rfl, rfl, tv⟩⟩
  ·refine Ak (wq rfl (qz R4 rfl (Ac (wp rfl (qe rfl ?_)))))
   refine AH (L := C1 N p0) h (fun v4 => mk [(1, oD (.ptr 1 0)), (2, oD (.ptr 2 0)), (4, oD (.ptr 4 0)), (5, iD v4.2.2.2)] [(1, .box (CZ p0)), (2, .box [.pure (.nil0), .pure (.nil0), .pure (.nil0), .pure (.nil0)]), (4, .box [.own 2005, .own 2006, .own 2007, .pure (.nil0)]), (2005, .vec 1 (v4.1.map Ao)), (2006, .vec 1 (v4.2.1.map Ao)), (2007, .vec 1 (v4.2.2.1.map Ao))]) (fun v5 => mk [(1, oD (.ptr 1 0)), (2, oD (.ptr 2 0)), (4, oD (.ptr 4 0))] [(1, .box (CZ p0)), (2, .box [.pure (.nil0), .pure (.nil0), .pure (.nil0), .pure (.nil0)]), (4, .box [.own 2008, .own 2009, .own 2010, .pure (.nil0)]), (2008, .vec 1 (v5.1.map Ao)), (2009, .vec 1 (v5.2.1.map Ao)), (2010, .vec 1 (v5.2.2.map Ao))]) (fun _ _ => rfl) ((Av 4 0 2011 1 _ rfl rfl rfl rfl).trans ((Av 4 1 2012 1 _ rfl rfl rfl rfl).trans ((Av 4 2 2013 1 _ rfl rfl rfl rfl).trans (sm [(2005, 2011), (2006, 2012), (2007, 2013)] _ _ rfl rfl)))) (fun j4 n4 v4 h => ?_) (fun v5 s h hs => ?_)
   ·unfold C1 at h
    refine wp rfl (qm rfl (qf Qu rfl (ql RH rfl (AL JW rfl (AV rfl (Ac ?_))))))
    refine Bb h (fun h => ?_) fun h => ?_
    ·refine Ak (AS (AO (wq rfl (qf Qu rfl (ql RH rfl (qm rfl ?_))))))
     refine B3 h fun v7 a7 b7 h => qi JW XT a7 (Ag b7) rfl (qk Xi rfl (Jw rfl (by decide) (Iw XC Vs rfl (A4 rfl (qa rfl (Ac (wq rfl (qf Bt rfl (ql A7 rfl (qm rfl (DF Ay Do Kq rfl ?_)))))))))))
     refine F4 h fun c8 h => Dp (f := Ao) Ay Ay Do LE Kq c8 rfl (qf Bt rfl (qs R7 rfl (Ac (wq rfl (qf Hp rfl (ql A7 rfl (qf WH rfl (ql RH rfl (qm rfl ?_)))))))))
     refine BV h fun v9 a9 h => Aw [] (Jg N p0.fi v4.2.2.2 v9 a9) ZT rfl (qm rfl ?_)
     refine F4 h fun c10 h => Jw rfl c10 (DF Ay Do Kq rfl ?_)
     refine F4 h fun c11 h => Dp (f := Ao) Ay Ay Do LE Kq c11 rfl (qf Hp rfl (qs R7 rfl (AM (by kernel_rfl) (Ah Ax rfl (qf Ig rfl (ql A7 rfl (qf W5 rfl (ql RH rfl (qm rfl ?_)))))))))
     refine BV h fun v12 a12 h => Aw [] (Jg N p0.fj v4.2.2.2 v12 a12) ZT rfl (qm rfl ?_)
     refine F4 h fun c13 h => Jw rfl c13 (DF Ay Do Kq rfl ?_)
     refine F4 h fun c14 h => Dp (f := Ao) Ay Ay Do LE Kq c14 rfl (qf Ig rfl (qs R7 rfl (AM (by kernel_rfl) (Ah Ax rfl (qm rfl (A4 rfl (qe rfl ?_)))))))
     exact sn [(2005, 40), (2006, 51), (2007, 62)] h
    ·refine AT ?_
     exact sn [(2008, 2005), (2009, 2006), (2010, 2007)] h
   ·refine Af hs (wp rfl (qe rfl ?_))
    refine AH (L := BH N p0 v5) h (fun v15 => mk [(1, oD (.ptr 1 0)), (2, oD (.ptr 2 0)), (4, oD (.ptr 4 0)), (7, iD v15.2)] [(1, .box (CZ p0)), (2, .box [.pure (.nil0), .pure (.nil0), .pure (.nil0), .pure (.nil0)]), (4, .box [.own 2014, .own 2015, .own 2016, .own 2017]), (2014, .vec 1 (v5.1.map Ao)), (2015, .vec 1 (v5.2.1.map Ao)), (2016, .vec 1 (v5.2.2.map Ao)), (2017, .vec 6 (v15.1.map Bh))]) (fun v16 => mk [(2, oD (.ptr 2 0)), (4, oD (.ptr 4 0))] [(2, .box [.pure (.nil0), .pure (.nil0), .pure (.nil0), .pure (.nil0)]), (4, .box [.own 2018, .own 2019, .own 2020, .own 2021]), (2018, .vec 1 (v5.1.map Ao)), (2019, .vec 1 (v5.2.1.map Ao)), (2020, .vec 1 (v5.2.2.map Ao)), (2021, .vec 6 (v16.map Bh))]) (fun _ _ => rfl) ((Av 4 3 2039 6 _ rfl rfl rfl rfl).trans (sm [(2014, 2008), (2015, 2009), (2016, 2010), (2017, 2039)] _ _ rfl rfl)) (fun j15 n15 v15 h => ?_) (fun v16 s h hs => ?_)
    ·unfold BH at h
     refine AS ?_
     refine AR h (fun v17 => mk [(1, oD (.ptr 1 0)), (2, oD (.ptr 2 0)), (4, oD (.ptr 4 0)), (7, iD v15.2), (74, bD v17)] [(1, .box (CZ p0)), (2, .box [.pure (.nil0), .pure (.nil0), .pure (.nil0), .pure (.nil0)]), (4, .box [.own 2022, .own 2023, .own 2024, .own 2025]), (2022, .vec 1 (v5.1.map Ao)), (2023, .vec 1 (v5.2.1.map Ao)), (2024, .vec 1 (v5.2.2.map Ao)), (2025, .vec 6 (v15.1.map Bh))]) (fun j17 h => ?_) (fun v17 h => ?_)
     ·refine Ah Ax rfl (qm rfl (qf P4 rfl (ql Yc rfl (AL VR rfl (AV rfl (qm rfl ?_))))))
      refine Eh 69 h rfl (fun h => ?_) fun h => ?_
      ·refine qf Bt rfl (ql A7 rfl (D1 Ay rfl (FW rfl (qp rfl (Ac ?_)))))
       exact sn [(2022, 2014), (2023, 2015), (2024, 2016), (2025, 2017)] h
      ·refine qw 4 rfl (qp rfl (Ac ?_))
       exact sn [(2022, 2014), (2023, 2015), (2024, 2016), (2025, 2017)] h
     ·refine Bb h (fun h => ?_) fun h => ?_
      ·refine Ak (AS (AO (wq rfl (qf P4 rfl (ql Yc rfl (qm rfl ?_))))))
       refine B3 h fun v20 a20 b20 h => qi VR VE a20 (Ag b20) rfl (qK YV VE rfl (qz Zl rfl (qs VE rfl (Ac (wq rfl (qf Ut rfl (ql Xi rfl (Jw rfl (by decide) (Iw XC Vs rfl (A4 rfl (qf UL rfl (ql Xi rfl (Iw XC Vs rfl (qf Bt rfl (ql A7 rfl (D1 Ay rfl ?_))))))))))))))))
       refine F4 h fun c21 h => Jw rfl c21 (qf UB rfl (ql Xi rfl (Iw XC Vs rfl (qf Bt rfl (ql A7 rfl (D1 Ay rfl ?_))))))
       refine F4 h fun c22 h => Jw rfl c22 (Br Lj Zq rfl (qz Lj rfl (qs Ex rfl (AM (by kernel_rfl) ?_))))
       refine AR h (fun v23 => mk [(1, oD (.ptr 1 0)), (2, oD (.ptr 2 0)), (4, oD (.ptr 4 0)), (7, iD v15.2), (8, oD (.ptr 8 0)), (9, oD (.ptr 9 0))] [(1, .box (CZ p0)), (2, .box [.pure (.nil0), .pure (.nil0), .pure (.nil0), .pure (.nil0)]), (4, .box [.own 2026, .own 2027, .own 2028, .own 2029]), (8, .box (MS v20)), (9, .box [iC ((wI .i64 (1 + (wI .i64 ((vF v20.ff 4)))))), iC ((vF ((wI .i64 v20.fg)) ((v5.1.length : Int)))), iC ((vF ((wI .i64 v20.fk)) ((v5.1.length : Int)))), .pure (.val (.bool v23)), .pure (.nil0), .pure (.nil0)]), (2026, .vec 1 (v5.1.map Ao)), (2027, .vec 1 (v5.2.1.map Ao)), (2028, .vec 1 (v5.2.2.map Ao)), (2029, .vec 6 (v15.1.map Bh))]) (fun j23 h => ?_) (fun v23 h => ?_)
       ·refine Ah Ax rfl (qf Ve rfl (ql Ti rfl (qm rfl ?_)))
        refine Eh 104 h rfl (fun h => ?_) fun h => ?_
        ·refine qL HM Ex rfl ?_
         refine BV h fun v25 a25 h => Aw [] (Ch N ((AC.mk ((wI .i64 (1 + (wI .i64 ((vF v20.ff 4)))))) ((vF ((wI .i64 v20.fg)) ((v5.1.length : Int)))) ((vF ((wI .i64 v20.fk)) ((v5.1.length : Int)))) false (([] : List (List Bool))) (([] : List (List Bool))))) v25 a25) O7 rfl (Cm rfl (qp rfl (qf JF rfl (qs Rd rfl (Ac ?_)))))
         exact sn [(2026, 2022), (2027, 2023), (2028, 2024), (2029, 2025)] h
        ·refine qw 3 rfl (qp rfl (qf JF rfl (qs Rd rfl (Ac ?_))))
         exact sn [(2026, 2022), (2027, 2023), (2028, 2024), (2029, 2025)] h
       ·refine wq rfl (qf Bt rfl (ql A7 rfl (qf Dl rfl (ql Cl rfl ?_))))
        refine B3 h fun v26 a26 b26 h => qI Ay Do a26 (Ag b26) rfl (qj Cl (Ag b26) rfl (qf Bt rfl (ql A7 rfl (qf IQ rfl (ql Cl rfl ?_)))))
        refine B3 h fun v27 a27 b27 h => qI Ay Do a27 (Ag b27) rfl (qj Cl (Ag b27) rfl (qf VB rfl (ql Zf rfl ?_)))
        refine BV h fun v28 a28 h => Aw [2030] (Jl N v26 v27 v20.fC false v28 a28) Zi rfl (qf Ko rfl (qs ZK rfl (AM (by kernel_rfl) ?_)))
        refine AR h (fun v29 => mk [(1, oD (.ptr 1 0)), (2, oD (.ptr 2 0)), (4, oD (.ptr 4 0)), (7, iD v15.2), (9, oD (.ptr 9 0))] [(1, .box (CZ p0)), (2, .box [.pure (.nil0), .pure (.nil0), .pure (.nil0), .pure (.nil0)]), (4, .box [.own 2031, .own 2032, .own 2033, .own 2034]), (9, .box [iC ((wI .i64 (1 + (wI .i64 ((vF v20.ff 4)))))), iC ((vF ((wI .i64 v20.fg)) ((v5.1.length : Int)))), iC ((vF ((wI .i64 v20.fk)) ((v5.1.length : Int)))), .pure (.val (.bool v23)), .own 2035, .own 2036]), (2031, .vec 1 (v5.1.map Ao)), (2032, .vec 1 (v5.2.1.map Ao)), (2033, .vec 1 (v5.2.2.map Ao)), (2034, .vec 6 (v15.1.map Bh)), (2035, .vec 1 (v28.map (Mj eB))), (2036, .vec 1 (v29.map (Mj eB)))]) (fun j29 h => ?_) (fun v29 h => ?_)
        ·refine wq rfl (qf Gw rfl (ql Cl rfl (BY rfl (Ac ?_))))
         refine Bb h (fun h => ?_) fun h => ?_
         ·refine Ah Ax rfl (qf Bt rfl (ql A7 rfl (qf Dl rfl (ql Cl rfl ?_))))
          refine B3 h fun v31 a31 b31 h => qI Ay Do a31 (Ag b31) rfl (qj Cl (Ag b31) rfl (qf Bt rfl (ql A7 rfl (qf Dl rfl (ql Cl rfl ?_)))))
          refine B3 h fun v32 a32 b32 h => qI Ay Do a32 (Ag b32) rfl (qj Cl (Ag b32) rfl (qf UN rfl (ql Zf rfl ?_)))
          refine BV h fun v33 a33 h => Aw [2037] (Jl N v31 v32 v20.fD true v33 a33) Zi rfl (qf Hm rfl (qs ZK rfl (AM (by kernel_rfl) ?_)))
          exact sn [(2031, 2026), (2032, 2027), (2033, 2028), (2034, 2029), (2035, 2030), (2036, 2037)] h
         ·refine Ak ?_
          exact Y4 _ h ((Av 9 5 2038 1 _ rfl rfl rfl rfl).trans (sm [(2031, 2026), (2032, 2027), (2033, 2028), (2034, 2029), (2035, 2030), (2036, 2038)] _ _ rfl rfl))
        ·refine Ah Ax rfl (qf CY rfl (ql Hz rfl (qL HM Ex rfl (CX (AU 2035 _ _ rfl rfl) (CX (AU 2036 _ _ rfl rfl) (DF Ek Ex Lj rfl ?_))))))
         refine F4 h fun c34 h => Dp (f := Bh) Ek Ek Ex Zh Lj c34 rfl (qf CY rfl (qs aG rfl (Ac (Ah Ax rfl (qm rfl (A4 rfl (qe rfl ?_)))))))
         exact sn [(2014, 2031), (2015, 2032), (2016, 2033), (2017, 149)] h
      ·refine AT ?_
       exact sn [(2018, 2022), (2019, 2023), (2020, 2024), (2021, 2025)] h
    ·refine Af hs (wq rfl (qL Db CM rfl (qs CM rfl (qe rfl ?_))))
     obtain rfl := sj h
     refine Af (sm [(1000, 2018), (1001, 2019), (1002, 2020), (1003, 2021)] [(2, oD (.ptr 2 0)), (3, bD true)] [(2, .box [.own 1000, .own 1001, .own 1002, .own 1003]), (1000, .vec 1 (v5.1.map Ao)), (1001, .vec 1 (v5.2.1.map Ao)), (1002, .vec 1 (v5.2.2.map Ao)), (1003, .vec 6 (v16.map Bh))] rfl rfl) (As ?_)
     exact ⟨⟨[_, _], ⟨.cellN _ _ _ _ _ _ _ rfl rfl Db CM rfl rfl (IX rfl), tm⟩, rfl⟩, ⟨rfl, rfl, rfl, rfl, tv⟩⟩
theorem It (N : Nat) (p0 : List (List Bool)) (p1 : Int) (p2 : Int) (r : Bool) (h : DT N p0 p1 p2 = some r) : Ar uS 115 [pD (.sl (p0.map (Mj eB))), iD p1, iD p2] [] (bD r) := by
 unfold DT at h
 refine cw (n := 24) (rs := [.tmp 6]) Tryz.func115 fun w0 S0 => ?_
 refine wq rfl (qa rfl (Ac (wp rfl (qm rfl (AL GR rfl (qm rfl (Ci rfl (Ac ?_))))))))
 refine Bb h (fun h => ?_) fun h => ?_
 ·refine wq rfl (qe rfl ?_)
  obtain rfl := sj h
  refine Af (sm [] [(6, bD false)] [] rfl rfl) (As ?_)
  exact ⟨⟨[_], tm, rfl⟩, tv⟩
 ·refine Ak (wp rfl (qe rfl ?_))
  refine AH (L := CI N p0 p1 p2) h (fun v2 => mk [(0, pD (.sl (p0.map (Mj eB)))), (1, iD p1), (2, iD p2), (7, iD v2)] []) (fun v3 => mk [] []) (fun _ _ => rfl) (sm [] _ _ rfl rfl) (fun j2 n2 v2 h => ?_) (fun v3 s h hs => ?_)
  ·unfold CI at h
   refine wp rfl (qw 2 rfl (AV rfl (Ac ?_)))
   refine Bb h (fun h => ?_) fun h => ?_
   ·refine Ak (AS (AO (wq rfl (qw 2 rfl ?_))))
    refine B3 h fun v5 a5 b5 h => qi GR NE a5 (Ag b5) rfl (qk QS rfl (AL Ha rfl (qm rfl (Ci rfl (Ac ?_)))))
    refine Bb h (fun h => ?_) fun h => ?_
    ·refine wq rfl (qe rfl ?_)
     obtain rfl := sj h
     refine Af (sm [] [(6, bD false)] [] rfl rfl) (As ?_)
     exact ⟨⟨[_], tm, rfl⟩, tv⟩
    ·refine Ak (Ah Ax rfl (qm rfl (A4 rfl (qe rfl ?_))))
     exact sn [] h
   ·refine AT ?_
    exact sn [] h
  ·refine Af hs (wq rfl (qe rfl ?_))
   obtain rfl := sj h
   refine Af (sm [] [(6, bD true)] [] rfl rfl) (As ?_)
   exact ⟨⟨[_], tm, rfl⟩, tv⟩
theorem Li (N : Nat) (p0 : Ab) (p1 : AC) (r : Int) (h : EX N p0 p1 = some r) : Ar uS 76 [.e (.agg (Ae p0)), .e (.agg (Bs p1))] [] (iD r) := by
 unfold EX at h
 refine cw (n := 101) (rs := [.tmp 4]) Tryz.func76 fun w0 S0 => ?_
 refine wq rfl (qb rfl (qb rfl (qa rfl (Ac (AS ?_)))))
 refine AR h (fun v1 => mk [(2, oD (.ptr 2 0)), (3, oD (.ptr 3 0)), (22, bD v1)] [(2, .box (Ae p0)), (3, .box (Bs p1))]) (fun j1 h => ?_) (fun v1 h => ?_)
 ·refine Ah Ax rfl (qf Gw rfl (ql Cl rfl (AV rfl (qm rfl ?_))))
  refine Eh 10 h rfl (fun h => ?_) fun h => ?_
  ·refine qw 3 rfl (qp rfl (qw 4 rfl (qu rfl (qu rfl (qn rfl (qp rfl (Ac ?_)))))))
   exact sn [] h
  ·refine qf Gw rfl (ql Cl rfl (FW rfl (qp rfl (qm rfl ?_))))
   refine Eh 15 h rfl (fun h => ?_) fun h => ?_
   ·refine qw 3 rfl (qu rfl (qu rfl (qn rfl (qp rfl (Ac ?_)))))
    exact sn [] h
   ·refine qf JF rfl (ql Ti rfl (qm rfl ?_))
    refine Eh 18 h rfl (fun h => ?_) fun h => ?_
    ·refine qL HM Ex rfl ?_
     refine BV h fun v5 a5 h => Aw [] (Ch N p1 v5 a5) O7 rfl (qp rfl (qp rfl (Ac ?_)))
     exact sn [] h
    ·refine qw 2 rfl (qp rfl (qp rfl (Ac ?_)))
     exact sn [] h
 ·refine Bb h (fun h => ?_) fun h => ?_
  ·refine wq rfl (qe rfl ?_)
   obtain rfl := sj h
   refine Af (sm [] [(4, iD 1)] [] rfl rfl) (As ?_)
   exact ⟨⟨[_], tm, rfl⟩, tv⟩
  ·refine Ak (wq rfl (qf Bt rfl (ql A7 rfl (AL Ay rfl (qa rfl (Ac (AS ?_)))))))
   refine AR h (fun v7 => mk [(2, oD (.ptr 2 0)), (3, oD (.ptr 3 0)), (45, bD v7)] [(2, .box (Ae p0)), (3, .box (Bs p1))]) (fun j7 h => ?_) (fun v7 h => ?_)
   ·refine Ah Ax rfl (qf Dl rfl (ql Cl rfl (AV rfl (qm rfl ?_))))
    refine Eh 29 h rfl (fun h => ?_) fun h => ?_
    ·refine qw 4 rfl (qp rfl (qw 4 rfl (qp rfl (qw 5 rfl (qp rfl (Ac ?_))))))
     exact sn [] h
    ·refine qf Dl rfl (ql Cl rfl (qm rfl (Fb rfl (qp rfl (qm rfl ?_)))))
     refine Eh 35 h rfl (fun h => ?_) fun h => ?_
     ·refine qw 3 rfl (qp rfl (qw 5 rfl (qp rfl (Ac ?_))))
      exact sn [] h
     ·refine qf IQ rfl (ql Cl rfl (AV rfl (qp rfl (qm rfl ?_))))
      refine Eh 40 h rfl (fun h => ?_) fun h => ?_
      ·refine qw 4 rfl (qp rfl (Ac ?_))
       exact sn [] h
      ·refine qf IQ rfl (ql Cl rfl (qm rfl (Fb rfl (qp rfl (Ac ?_)))))
       exact sn [] h
   ·refine Bb h (fun h => ?_) fun h => ?_
    ·refine wq rfl (qe rfl ?_)
     obtain rfl := sj h
     refine Af (sm [] [(4, iD 4)] [] rfl rfl) (As ?_)
     exact ⟨⟨[_], tm, rfl⟩, tv⟩
    ·refine Ak (wp rfl (qf Ko rfl (ql KQ rfl (qf Bt rfl (ql A7 rfl (qf Dl rfl (ql Cl rfl ?_)))))))
     refine B3 h fun v12 a12 b12 h => qi Ay Do a12 (Ag b12) rfl (qk Cl rfl (qf Bt rfl (ql A7 rfl (qf IQ rfl (ql Cl rfl ?_)))))
     refine B3 h fun v13 a13 b13 h => qi Ay Do a13 (Ag b13) rfl (qk Cl rfl ?_)
     refine BV h fun v14 a14 h => Aw [] (It N p1.fq v12 v13 v14 a14) Xx rfl (Cm rfl (AM (by kernel_rfl) ?_))
     refine Bb h (fun h => ?_) fun h => ?_
     ·refine wq rfl (qe rfl ?_)
      obtain rfl := sj h
      refine Af (sm [] [(4, iD 6)] [] rfl rfl) (As ?_)
      exact ⟨⟨[_], tm, rfl⟩, tv⟩
     ·refine Ak (wp rfl (qf Gw rfl (ql Cl rfl (Ci rfl (Ac ?_)))))
      refine Bb h (fun h => ?_) fun h => ?_
      ·refine wp rfl (qf Hm rfl (ql KQ rfl (AL GR rfl (Ci rfl (Ac ?_)))))
       refine Bb h (fun h => ?_) fun h => ?_
       ·refine wq rfl (qe rfl ?_)
        obtain rfl := sj h
        refine Af (sm [] [(4, iD 6)] [] rfl rfl) (As ?_)
        exact ⟨⟨[_], tm, rfl⟩, tv⟩
       ·refine Ak (wq rfl (qe rfl ?_))
        obtain rfl := sj h
        refine Af (sm [] [(4, iD 0)] [] rfl rfl) (As ?_)
        exact ⟨⟨[_], tm, rfl⟩, tv⟩
      ·refine Ak (wp rfl (qf Hm rfl (ql KQ rfl (qf Bt rfl (ql A7 rfl (qf Dl rfl (ql Cl rfl ?_)))))))
       refine B3 h fun v18 a18 b18 h => qi Ay Do a18 (Ag b18) rfl (qk Cl rfl (qf Bt rfl (ql A7 rfl (qf Dl rfl (ql Cl rfl ?_)))))
       refine B3 h fun v19 a19 b19 h => qi Ay Do a19 (Ag b19) rfl (qk Cl rfl ?_)
       refine BV h fun v20 a20 h => Aw [] (It N p1.fo v18 v19 v20 a20) Xx rfl (Cm rfl (AM (by kernel_rfl) ?_))
       refine Bb h (fun h => ?_) fun h => ?_
       ·refine wq rfl (qe rfl ?_)
        obtain rfl := sj h
        refine Af (sm [] [(4, iD 6)] [] rfl rfl) (As ?_)
        exact ⟨⟨[_], tm, rfl⟩, tv⟩
       ·refine Ak (wp rfl (qe rfl ?_))
        refine AH (L := Cg N p1) h (fun v22 => mk [(3, oD (.ptr 3 0)), (6, iD v22)] [(3, .box (Bs p1))]) (fun v23 => mk [] []) (fun _ _ => rfl) (sm [] _ _ rfl rfl) (fun j22 n22 v22 h => ?_) (fun v23 s h hs => ?_)
        ·unfold Cg at h
         refine wp rfl (qm rfl (qf Hm rfl (ql KQ rfl (AL GR rfl (AV rfl (Ac ?_))))))
         refine Bb h (fun h => ?_) fun h => ?_
         ·refine Ak (AS (AO (wq rfl (qf Hm rfl (ql KQ rfl (qm rfl ?_))))))
          refine B3 h fun v25 a25 b25 h => qi GR NE a25 (Ag b25) rfl (qk QS rfl (qm rfl ?_))
          refine B3 h fun v26 a26 b26 h => qi Ha Rd a26 (Ag b26) rfl (qk Ti rfl (Cm rfl (Ac ?_)))
          refine Bb h (fun h => ?_) fun h => ?_
          ·refine wq rfl (qe rfl ?_)
           obtain rfl := sj h
           refine Af (sm [] [(4, iD 1)] [] rfl rfl) (As ?_)
           exact ⟨⟨[_], tm, rfl⟩, tv⟩
          ·refine Ak (Ah Ax rfl (qm rfl (A4 rfl (qe rfl ?_))))
           exact sn [] h
         ·refine AT ?_
          exact sn [] h
        ·refine Af hs (wq rfl (qe rfl ?_))
         obtain rfl := sj h
         refine Af (sm [] [(4, iD 0)] [] rfl rfl) (As ?_)
         exact ⟨⟨[_], tm, rfl⟩, tv⟩
theorem GC (N : Nat) (p0 : Ab) (r : Int) (h : CK N p0 = some r) : Ar uS 35 [.e (.agg (Ae p0))] [] (iD r) := by
 unfold CK at h
 refine cw (n := 102) (rs := [.tmp 2]) Tryz.func35 fun w0 S0 => ?_
 refine wq rfl (qb rfl (qa rfl (Ac (AS ?_))))
 refine AR h (fun v1 => mk [(1, oD (.ptr 1 0)), (16, bD v1)] [(1, .box (Ae p0))]) (fun j1 h => ?_) (fun v1 h => ?_)
 ·refine Ah Ax rfl (qf Bt rfl (ql A7 rfl (AL Ay rfl (FW rfl (qm rfl ?_)))))
  refine Eh 11 h rfl (fun h => ?_) fun h => ?_
  ·refine qw 4 rfl (qp rfl (Ac ?_))
   exact sn [] h
  ·refine qf CY rfl (ql Hz rfl (AL Ek rfl (FW rfl (qp rfl (Ac ?_)))))
   exact sn [] h
 ·refine Bb h (fun h => ?_) fun h => ?_
  ·refine wq rfl (qe rfl ?_)
   obtain rfl := sj h
   refine Af (sm [] [(2, iD 3)] [] rfl rfl) (As ?_)
   exact ⟨⟨[_], tm, rfl⟩, tv⟩
  ·refine Ak (AS ?_)
   refine AR h (fun v4 => mk [(1, oD (.ptr 1 0)), (32, bD v4)] [(1, .box (Ae p0))]) (fun j4 h => ?_) (fun v4 h => ?_)
   ·refine Ah Ax rfl (qf Hp rfl (ql A7 rfl (AL Ay rfl (qf Bt rfl (ql A7 rfl (AL Ay rfl (Ci rfl (qm rfl ?_))))))))
    refine Eh 24 h rfl (fun h => ?_) fun h => ?_
    ·refine qw 7 rfl (qp rfl (Ac ?_))
     exact sn [] h
    ·refine qf Ig rfl (ql A7 rfl (AL Ay rfl (qf Bt rfl (ql A7 rfl (AL Ay rfl (Ci rfl (qp rfl (Ac ?_))))))))
     exact sn [] h
   ·refine Bb h (fun h => ?_) fun h => ?_
    ·refine wq rfl (qe rfl ?_)
     obtain rfl := sj h
     refine Af (sm [] [(2, iD 6)] [] rfl rfl) (As ?_)
     exact ⟨⟨[_], tm, rfl⟩, tv⟩
    ·refine Ak (wp rfl (qe rfl ?_))
     refine AH (L := Bj N p0) h (fun v7 => mk [(1, oD (.ptr 1 0)), (3, iD v7)] [(1, .box (Ae p0))]) (fun v8 => mk [(1, oD (.ptr 1 0))] [(1, .box (Ae p0))]) (fun _ _ => rfl) (sm [] _ _ rfl rfl) (fun j7 n7 v7 h => ?_) (fun v8 s h hs => ?_)
     ·unfold Bj at h
      refine wp rfl (qm rfl (qf Bt rfl (ql A7 rfl (AL Ay rfl (AV rfl (Ac ?_))))))
      refine Bb h (fun h => ?_) fun h => ?_
      ·refine Ak (AS (AO (wq rfl (qf Bt rfl (ql A7 rfl (qm rfl ?_))))))
       refine B3 h fun v10 a10 b10 h => qi Ay Do a10 (Ag b10) rfl (qk Cl rfl (qe rfl ?_))
       refine AR h (fun v11 => mk [(1, oD (.ptr 1 0)), (3, iD v7), (84, bD v11)] [(1, .box (Ae p0))]) (fun j11 h => ?_) (fun v11 h => ?_)
       ·refine Ah Ax rfl (qm rfl (AV rfl (qm rfl ?_)))
        refine Eh 47 h rfl (fun h => ?_) fun h => ?_
        ·refine qw 2 rfl (qp rfl (qw 7 rfl (qp rfl (qw 8 rfl (qp rfl (qw 7 rfl (qp rfl (qw 8 rfl (qp rfl (Ac ?_))))))))))
         exact sn [] h
        ·refine qm rfl (FW rfl (qp rfl (qm rfl ?_)))
         refine Eh 51 h rfl (fun h => ?_) fun h => ?_
         ·refine qw 6 rfl (qp rfl (qw 8 rfl (qp rfl (qw 7 rfl (qp rfl (qw 8 rfl (qp rfl (Ac ?_))))))))
          exact sn [] h
         ·refine qf Hp rfl (ql A7 rfl (qm rfl ?_))
          refine B3 h fun v14 a14 b14 h => qi Ay Do a14 (Ag b14) rfl (qk Cl rfl (AV rfl (qp rfl (qm rfl ?_))))
          refine Eh 59 h rfl (fun h => ?_) fun h => ?_
          ·refine qw 7 rfl (qp rfl (qw 7 rfl (qp rfl (qw 8 rfl (qp rfl (Ac ?_))))))
           exact sn [] h
          ·refine qf Hp rfl (ql A7 rfl (qm rfl ?_))
           refine B3 h fun v16 a16 b16 h => qi Ay Do a16 (Ag b16) rfl (qk Cl rfl (qm rfl (Fb rfl (qp rfl (qm rfl ?_)))))
           refine Eh 68 h rfl (fun h => ?_) fun h => ?_
           ·refine qw 6 rfl (qp rfl (qw 8 rfl (qp rfl (Ac ?_))))
            exact sn [] h
           ·refine qf Ig rfl (ql A7 rfl (qm rfl ?_))
            refine B3 h fun v18 a18 b18 h => qi Ay Do a18 (Ag b18) rfl (qk Cl rfl (AV rfl (qp rfl (qm rfl ?_))))
            refine Eh 76 h rfl (fun h => ?_) fun h => ?_
            ·refine qw 7 rfl (qp rfl (Ac ?_))
             exact sn [] h
            ·refine qf Ig rfl (ql A7 rfl (qm rfl ?_))
             refine B3 h fun v20 a20 b20 h => qi Ay Do a20 (Ag b20) rfl (qk Cl rfl (qm rfl (Fb rfl (qp rfl (Ac ?_)))))
             exact sn [] h
       ·refine Bb h (fun h => ?_) fun h => ?_
        ·refine wq rfl (qe rfl ?_)
         obtain rfl := sj h
         refine Af (sm [] [(2, iD 7)] [] rfl rfl) (As ?_)
         exact ⟨⟨[_], tm, rfl⟩, tv⟩
        ·refine Ak (Ah Ax rfl (qm rfl (A4 rfl (qe rfl ?_))))
         exact sn [] h
      ·refine AT ?_
       exact sn [] h
     ·refine Af hs (wp rfl (qe rfl ?_))
      refine AH (L := Bg N p0) h (fun v22 => mk [(1, oD (.ptr 1 0)), (5, iD v22)] [(1, .box (Ae p0))]) (fun v23 => mk [] []) (fun _ _ => rfl) (sm [] _ _ rfl rfl) (fun j22 n22 v22 h => ?_) (fun v23 s h hs => ?_)
      ·unfold Bg at h
       refine wp rfl (qm rfl (qf CY rfl (ql Hz rfl (AL Ek rfl (AV rfl (Ac ?_))))))
       refine Bb h (fun h => ?_) fun h => ?_
       ·refine Ak (AS (AO (wq rfl (qL Db CM rfl (qf CY rfl (ql Hz rfl (qm rfl ?_)))))))
        refine B3 h fun v25 a25 b25 h => qi Ek Ex a25 (Ag b25) rfl (qK HM Ex rfl ?_)
        refine BV h fun v26 a26 h => Aw [] (Li N p0 v25 v26 a26) bf rfl (qa rfl (AM (by kernel_rfl) (wq rfl (qm rfl (Ci rfl (Ac ?_))))))
        refine Bb h (fun h => ?_) fun h => ?_
        ·refine wq rfl (qm rfl (qe rfl ?_))
         obtain rfl := sj h
         refine Af (sm [] [(2, iD v26)] [] rfl rfl) (As ?_)
         exact ⟨⟨[_], tm, rfl⟩, tv⟩
        ·refine Ak (Ah Ax rfl (qm rfl (A4 rfl (qe rfl ?_))))
         exact sn [] h
       ·refine AT ?_
        exact sn [] h
      ·refine Af hs (wq rfl (qe rfl ?_))
       obtain rfl := sj h
       refine Af (sm [] [(2, iD 0)] [] rfl rfl) (As ?_)
       exact ⟨⟨[_], tm, rfl⟩, tv⟩
theorem IL (N : Nat) (p0 : Ab) (r : Aa × Int) (h : D5 N p0 = some r) : Ar uS 70 [.e (.agg (Ae p0))] [(1, r.1.fd.map Ao), (1, r.1.fa.map Ao), (1, r.1.fc.map CF)] (.tup [.agg [.own 0, .own 1, .own 2], .one (iC r.2)]) := by
 unfold D5 at h
 refine cw (n := 68) (rs := [.cell 2 46, .tmp 3]) Tryz.func70 fun w0 S0 => ?_
 refine wq rfl (qb rfl (qz B1 rfl (qa rfl (Ac (wp rfl (qL Db CM rfl ?_))))))
 refine BV h fun v1 a1 h => Aw [] (GC N p0 v1 a1) ZD rfl (qa rfl (Ac (wq rfl (qm rfl (Ci rfl (Ac ?_))))))
 refine Bb h (fun h => ?_) fun h => ?_
 ·refine wq rfl (Br B1 Hu rfl (qm rfl (qs Az rfl (qe rfl ?_))))
  obtain rfl := sj h
  refine Af ((Av 2 0 2001 1 _ rfl rfl rfl rfl).trans ((Av 2 1 2002 1 _ rfl rfl rfl rfl).trans ((Av 2 2 2003 1 _ rfl rfl rfl rfl).trans (sm [(1000, 2001), (1001, 2002), (1002, 2003)] [(2, oD (.ptr 2 0)), (3, iD v1)] [(2, .box [.own 1000, .own 1001, .own 1002]), (1000, .vec 1 ((([] : List Int)).map Ao)), (1001, .vec 1 ((([] : List Int)).map Ao)), (1002, .vec 1 ((([] : List Int)).map CF))] rfl rfl)))) (As ?_)
  exact ⟨⟨[_, _], ⟨.cellN _ _ _ _ _ _ _ rfl rfl AZ Az rfl rfl (IX rfl), tm⟩, rfl⟩, ⟨rfl, rfl, rfl, tv⟩⟩
 ·refine Ak (wq rfl (qz B1 rfl (Ac (wp rfl (qe rfl ?_)))))
  refine AH (L := Co N p0) h (fun v3 => mk [(1, oD (.ptr 1 0)), (2, oD (.ptr 2 0)), (5, oD (.ptr 5 0)), (6, iD v3.2.2)] [(1, .box (Ae p0)), (2, .box [.pure (.nil0), .pure (.nil0), .pure (.nil0)]), (5, .box [.own 2004, .own 2005, .pure (.nil0)]), (2004, .vec 1 (v3.1.map Ao)), (2005, .vec 1 (v3.2.1.map Ao))]) (fun v4 => mk [(1, oD (.ptr 1 0)), (2, oD (.ptr 2 0)), (5, oD (.ptr 5 0))] [(1, .box (Ae p0)), (2, .box [.pure (.nil0), .pure (.nil0), .pure (.nil0)]), (5, .box [.own 2006, .own 2007, .pure (.nil0)]), (2006, .vec 1 (v4.1.map Ao)), (2007, .vec 1 (v4.2.map Ao))]) (fun _ _ => rfl) ((Av 5 0 2008 1 _ rfl rfl rfl rfl).trans ((Av 5 1 2009 1 _ rfl rfl rfl rfl).trans (sm [(2004, 2008), (2005, 2009)] _ _ rfl rfl))) (fun j3 n3 v3 h => ?_) (fun v4 s h hs => ?_)
  ·unfold Co at h
   refine wp rfl (qm rfl (qf Bt rfl (ql A7 rfl (AL Ay rfl (AV rfl (Ac ?_))))))
   refine Bb h (fun h => ?_) fun h => ?_
   ·refine Ak (AS (AO (wq rfl (qf Ct rfl (ql A7 rfl (qf Hp rfl (ql A7 rfl (qm rfl ?_))))))))
    refine B3 h fun v6 a6 b6 h => qi Ay Do a6 (Ag b6) rfl (qk Cl rfl (DF Ay Do Kq rfl ?_))
    refine F4 h fun c7 h => Dp (f := Ao) Ay Ay Do LE Kq c7 rfl (qf Ct rfl (qs R7 rfl (AM (by kernel_rfl) (Ah Ax rfl (qf Bo rfl (ql A7 rfl (DF Ay Do Kq rfl ?_)))))))
    refine F4 h fun c8 h => Dp (f := Ao) Ay Ay Do LE Kq c8 rfl (qf Bo rfl (qs R7 rfl (Ac (Ah Ax rfl (qm rfl (A4 rfl (qe rfl ?_)))))))
    exact sn [(2004, 30), (2005, 35)] h
   ·refine AT ?_
    exact sn [(2006, 2004), (2007, 2005)] h
  ·refine Af hs (wp rfl (qe rfl ?_))
   refine AH (L := Bn N p0) h (fun v9 => mk [(1, oD (.ptr 1 0)), (2, oD (.ptr 2 0)), (5, oD (.ptr 5 0)), (7, iD v9.2)] [(1, .box (Ae p0)), (2, .box [.pure (.nil0), .pure (.nil0), .pure (.nil0)]), (5, .box [.own 2010, .own 2011, .own 2012]), (2010, .vec 1 (v4.1.map Ao)), (2011, .vec 1 (v4.2.map Ao)), (2012, .vec 1 (v9.1.map CF))]) (fun v10 => mk [(2, oD (.ptr 2 0)), (5, oD (.ptr 5 0))] [(2, .box [.pure (.nil0), .pure (.nil0), .pure (.nil0)]), (5, .box [.own 2013, .own 2014, .own 2015]), (2013, .vec 1 (v4.1.map Ao)), (2014, .vec 1 (v4.2.map Ao)), (2015, .vec 1 (v10.map CF))]) (fun _ _ => rfl) ((Av 5 2 2019 1 _ rfl rfl rfl rfl).trans (sm [(2010, 2006), (2011, 2007), (2012, 2019)] _ _ rfl rfl)) (fun j9 n9 v9 h => ?_) (fun v10 s h hs => ?_)
   ·unfold Bn at h
    refine wp rfl (qm rfl (qf CY rfl (ql Hz rfl (AL Ek rfl (AV rfl (Ac ?_))))))
    refine Bb h (fun h => ?_) fun h => ?_
    ·refine Ak (AS (AO (wq rfl (qe rfl ?_))))
     refine AR h (fun v12 => mk [(1, oD (.ptr 1 0)), (2, oD (.ptr 2 0)), (5, oD (.ptr 5 0)), (7, iD v9.2), (8, pD (.val (.int .u8 v12)))] [(1, .box (Ae p0)), (2, .box [.pure (.nil0), .pure (.nil0), .pure (.nil0)]), (5, .box [.own 2016, .own 2017, .own 2018]), (2016, .vec 1 (v4.1.map Ao)), (2017, .vec 1 (v4.2.map Ao)), (2018, .vec 1 (v9.1.map CF))]) (fun j12 h => ?_) (fun v12 h => ?_)
     ·refine wq rfl (qf CY rfl (ql Hz rfl (qm rfl ?_)))
      refine B3 h fun v13 a13 b13 h => qi Ek Ex a13 (Ag b13) rfl (qK HM Ex rfl ?_)
      refine BV h fun v14 a14 h => Aw [] (Ch N v13 v14 a14) O7 rfl (Ac ?_)
      refine Bb h (fun h => ?_) fun h => ?_
      ·refine Ah Ax rfl (qf Hp rfl (ql A7 rfl (qf CY rfl (ql Hz rfl (qm rfl ?_)))))
       refine B3 h fun v16 a16 b16 h => qi Ek Ex a16 (Ag b16) rfl (qg Dl rfl (qk Cl rfl ?_))
       refine B3 h fun v17 a17 b17 h => qi Ay Do a17 (Ag b17) rfl (qk Cl rfl ?_)
       refine F4 h fun c18 h => Jm rfl c18 (qa rfl (AM (by kernel_rfl) ?_))
       exact sn [(2016, 2010), (2017, 2011), (2018, 2012)] h
      ·refine Ak ?_
       exact sn [(2016, 2010), (2017, 2011), (2018, 2012)] h
     ·refine Ah Ax rfl (qf Cx rfl (ql GU rfl (qm rfl (DF Df FR M3 rfl ?_))))
      refine F4 h fun c19 h => Dp (f := CF) Df Df FR PY M3 c19 rfl (qf Cx rfl (qs Zn rfl (Ac (Ah Ax rfl (qm rfl (A4 rfl (qe rfl ?_)))))))
      exact sn [(2010, 2016), (2011, 2017), (2012, 65)] h
    ·refine AT ?_
     exact sn [(2013, 2010), (2014, 2011), (2015, 2012)] h
   ·refine Af hs (wq rfl (qL AZ Az rfl (qs Az rfl (qe rfl ?_))))
    obtain rfl := sj h
    refine Af (sm [(1000, 2013), (1001, 2014), (1002, 2015)] [(2, oD (.ptr 2 0)), (3, iD 0)] [(2, .box [.own 1000, .own 1001, .own 1002]), (1000, .vec 1 (v4.1.map Ao)), (1001, .vec 1 (v4.2.map Ao)), (1002, .vec 1 (v10.map CF))] rfl rfl) (As ?_)
    exact ⟨⟨[_, _], ⟨.cellN _ _ _ _ _ _ _ rfl rfl AZ Az rfl rfl (IX rfl), tm⟩, rfl⟩, ⟨rfl, rfl, rfl, tv⟩⟩
theorem KG (N : Nat) (p0 : Aa) (r : Aa) (h : EF N p0 = some r) : Ar uS 142 [.e (.agg (AA p0))] [(1, r.fd.map Ao), (1, r.fa.map Ao), (1, r.fc.map CF)] (.e (.agg [.own 0, .own 1, .own 2])) := by
 unfold EF at h
 refine cw (n := 16) (rs := [.cell 2 46]) Tryz.func142 fun w0 S0 => ?_
 refine wq rfl (qb rfl (qz B1 rfl (Ac (wq rfl (DF Ay Do Kq rfl (qf Ct rfl (ql A7 rfl ?_)))))))
 refine F4 h fun c1 h => I0 (f := Ao) Ay Ay Do LE Kq (fun _ => rfl) c1 rfl (DF Ay Do Kq rfl (qf Bo rfl (ql A7 rfl ?_)))
 refine F4 h fun c2 h => I0 (f := Ao) Ay Ay Do LE Kq (fun _ => rfl) c2 rfl (DF Df FR M3 rfl (qf Cx rfl (ql GU rfl ?_)))
 refine F4 h fun c3 h => I0 (f := CF) Df Df FR PY M3 (fun _ => rfl) c3 rfl (Br B1 Hu rfl (qs Az rfl (AM (by kernel_rfl) ?_)))
 obtain rfl := sj h
 refine Af (sm [(1000, 6), (1001, 10), (1002, 14)] [(2, oD (.ptr 2 0))] [(2, .box [.own 1000, .own 1001, .own 1002]), (1000, .vec 1 (((([] : List Int)) ++ p0.fd).map Ao)), (1001, .vec 1 (((([] : List Int)) ++ p0.fa).map Ao)), (1002, .vec 1 (((([] : List Int)) ++ p0.fc).map CF))] rfl rfl) (As ?_)
 exact ⟨⟨[_], ⟨.cellN _ _ _ _ _ _ _ rfl rfl AZ Az rfl rfl (IX rfl), tv⟩, rfl⟩, ⟨rfl, rfl, rfl, tv⟩⟩
theorem L6 (N : Nat) (p0 : Aa) (r : (List Aa)) (h : EK N p0 = some r) : Ar uS 111 [.e (.agg (AA p0))] [(3, r.map Al)] (oD (.own 0)) := by
 unfold EK at h
 refine cw (n := 62) (rs := [.tmp 2]) Tryz.func111 fun w0 S0 => ?_
 refine wq rfl (qb rfl (qa rfl (Ac (wq rfl (qa rfl (Ac (wp rfl (qe rfl ?_))))))))
 refine AH (L := CN N p0) h (fun v1 => mk [(1, oD (.ptr 1 0)), (3, iD v1.1), (4, iD v1.2)] [(1, .box (AA p0))]) (fun v2 => mk [(1, oD (.ptr 1 0)), (3, iD v2)] [(1, .box (AA p0))]) (fun _ _ => rfl) (sm [] _ _ rfl rfl) (fun j1 n1 v1 h => ?_) (fun v2 s h hs => ?_)
 ·unfold CN at h
  refine wp rfl (qm rfl (qf Bo rfl (ql A7 rfl (AL Ay rfl (AV rfl (Ac ?_))))))
  refine Bb h (fun h => ?_) fun h => ?_
  ·refine Ak ?_
   refine AR h (fun v4 => mk [(1, oD (.ptr 1 0)), (3, iD v4), (4, iD v1.2)] [(1, .box (AA p0))]) (fun j4 h => ?_) (fun v4 h => ?_)
   ·refine AO (wq rfl (qf Bo rfl (ql A7 rfl (qm rfl ?_))))
    refine B3 h fun v5 a5 b5 h => qi Ay Do a5 (Ag b5) rfl (qk Cl rfl (Fb rfl (Ac ?_)))
    refine Bb h (fun h => ?_) fun h => ?_
    ·refine Ah Ax rfl (qm rfl (A4 rfl (qe rfl ?_)))
     exact sn [] h
    ·refine Ak ?_
     exact sn [] h
   ·refine Ah Ax rfl (qm rfl (A4 rfl (qe rfl ?_)))
    exact sn [] h
  ·refine AT ?_
   exact sn [] h
 ·refine Af hs (wq rfl (qa rfl (Ac (wp rfl (qe rfl ?_)))))
  refine AH (L := BJ N p0 v2) h (fun v7 => mk [(1, oD (.ptr 1 0)), (3, iD v2), (5, oD (.own 2001)), (6, iD v7.2)] [(1, .box (AA p0)), (2001, .vec 3 (v7.1.map Al))]) (fun v8 => mk [(5, oD (.own 2002))] [(2002, .vec 3 (v8.map Al))]) (fun _ _ => rfl) ((Bf 5 2022 3 rfl rfl rfl).trans (sm [(2001, 2022)] _ _ rfl rfl)) (fun j7 n7 v7 h => ?_) (fun v8 s h hs => ?_)
  ·unfold BJ at h
   refine wp rfl (qw 2 rfl ?_)
   refine F4 h fun c9 h => Jm rfl c9 (AV rfl (Ac ?_))
   refine Bb h (fun h => ?_) fun h => ?_
   ·refine Ak (AS (AO (wq rfl (qL AZ Az rfl ?_))))
    refine BV h fun v11 a11 h => Aw [2003, 2004, 2005] (KG N p0 v11 a11) ZA rfl (qz B1 rfl (qs Az rfl (Ac (wq rfl (qa rfl (Ac (wp rfl (qe rfl ?_))))))))
    refine AH (L := Ca N p0 v7) h (fun v12 => mk [(1, oD (.ptr 1 0)), (3, iD v2), (5, oD (.own 2009)), (6, iD v7.2), (7, oD (.ptr 7 0)), (8, iD v12.2.1), (9, iD v12.2.2)] [(1, .box (AA p0)), (7, .box [.own 2006, .own 2007, .own 2008]), (2006, .vec 1 (v11.fd.map Ao)), (2007, .vec 1 (v12.1.map Ao)), (2008, .vec 1 (v11.fc.map CF)), (2009, .vec 3 (v7.1.map Al))]) (fun v13 => mk [(1, oD (.ptr 1 0)), (3, iD v2), (5, oD (.own 2013)), (6, iD v7.2), (7, oD (.ptr 7 0))] [(1, .box (AA p0)), (7, .box [.own 2010, .own 2011, .own 2012]), (2010, .vec 1 (v11.fd.map Ao)), (2011, .vec 1 (v13.map Ao)), (2012, .vec 1 (v11.fc.map CF)), (2013, .vec 3 (v7.1.map Al))]) (fun _ _ => rfl) (sm [(2006, 2003), (2007, 2004), (2008, 2005), (2009, 2001)] _ _ rfl rfl) (fun j12 n12 v12 h => ?_) (fun v13 s h hs => ?_)
    ·unfold Ca at h
     refine wp rfl (qm rfl (qf Bo rfl (ql A7 rfl (AL Ay rfl (AV rfl (Ac ?_))))))
     refine Bb h (fun h => ?_) fun h => ?_
     ·refine Ak ?_
      refine AR h (fun v15 => mk [(1, oD (.ptr 1 0)), (3, iD v2), (5, oD (.own 2017)), (6, iD v7.2), (7, oD (.ptr 7 0)), (8, iD v15.2), (9, iD v12.2.2)] [(1, .box (AA p0)), (7, .box [.own 2014, .own 2015, .own 2016]), (2014, .vec 1 (v11.fd.map Ao)), (2015, .vec 1 (v15.1.map Ao)), (2016, .vec 1 (v11.fc.map CF)), (2017, .vec 3 (v7.1.map Al))]) (fun j15 h => ?_) (fun v15 h => ?_)
      ·refine AO (wp rfl (qf Bo rfl (ql A7 rfl (qm rfl ?_))))
       refine B3 h fun v16 a16 b16 h => qi Ay Do a16 (Ag b16) rfl (qk Cl rfl (AV rfl (Ac ?_)))
       refine Bb h (fun h => ?_) fun h => ?_
       ·refine AT ?_
        exact sn [(2014, 2006), (2015, 2007), (2016, 2008), (2017, 2009)] h
       ·refine Ak ?_
        refine AR h (fun v18 => mk [(1, oD (.ptr 1 0)), (3, iD v2), (5, oD (.own 2021)), (6, iD v7.2), (7, oD (.ptr 7 0)), (8, iD v12.2.1), (9, iD v12.2.2)] [(1, .box (AA p0)), (7, .box [.own 2018, .own 2019, .own 2020]), (2018, .vec 1 (v11.fd.map Ao)), (2019, .vec 1 (v18.map Ao)), (2020, .vec 1 (v11.fc.map CF)), (2021, .vec 3 (v7.1.map Al))]) (fun j18 h => ?_) (fun v18 h => ?_)
        ·refine wq rfl (qw 2 rfl ?_)
         refine F4 h fun c19 h => Jv rfl c19 (Jw rfl (by decide) (BY rfl (Ac ?_)))
         refine Bb h (fun h => ?_) fun h => ?_
         ·refine Ah Ax rfl (qf Bo rfl (ql A7 rfl (qm rfl ?_)))
          refine B3 h fun v21 a21 b21 h => qI Ay Do a21 (Ag b21) rfl ?_
          refine Em rfl rfl rfl rfl (Ag b21) rfl Do rfl (IU rfl) (Ei Ao v12.1 _ ((-1))) ?_
          refine Ac ?_
          exact sn [(2018, 2006), (2019, 2007), (2020, 2008), (2021, 2009)] h
         ·refine Ak ?_
          exact sn [(2018, 2006), (2019, 2007), (2020, 2008), (2021, 2009)] h
        ·refine Ah Ax rfl (qm rfl (A4 rfl (qe rfl ?_)))
         exact sn [(2014, 2018), (2015, 2019), (2016, 2020), (2017, 2021)] h
      ·refine Ah Ax rfl (qm rfl (A4 rfl (qe rfl ?_)))
       exact sn [(2006, 2014), (2007, 2015), (2008, 2016), (2009, 2017)] h
     ·refine AT ?_
      exact sn [(2010, 2006), (2011, 2007), (2012, 2008), (2013, 2009)] h
    ·refine Af hs (Ah Ax rfl (qm rfl (qL AZ Az rfl (CX (AU 2010 _ _ rfl rfl) (CX (AU 2011 _ _ rfl rfl) (CX (AU 2012 _ _ rfl rfl) (DF A0 Az B1 rfl ?_)))))))
     refine F4 h fun c22 h => Dp (f := Al) A0 A0 Az Lp B1 c22 rfl (qa rfl (Ac (Ah Ax rfl (qm rfl (A4 rfl (qe rfl ?_))))))
     exact sn [(2001, 60)] h
   ·refine AT ?_
    exact sn [(2002, 2001)] h
  ·refine Af hs (wq rfl (qm rfl (qe rfl ?_)))
   obtain rfl := sj h
   refine Af (sm [(1000, 2002)] [(2, oD (.own 1000))] [(1000, .vec 3 (v8.map Al))] rfl rfl) (As ?_)
   exact ⟨⟨[_], tm, rfl⟩, ⟨rfl, tv⟩⟩
theorem DU (N : Nat) (p0 : Aa) (p1 : Int) (r : Int) (h : BQ N p0 p1 = some r) : Ar uS 54 [.e (.agg (AA p0)), iD p1] [] (pD (.val (.int .u8 r))) := by
 unfold BQ at h
 refine cw (n := 27) (rs := [.tmp 4]) Tryz.func54 fun w0 S0 => ?_
 refine wq rfl (qb rfl (qa rfl (Ac (wq rfl (qf Ct rfl (ql A7 rfl (qm rfl ?_)))))))
 refine B3 h fun v1 a1 b1 h => qi Ay Do a1 (Ag b1) rfl (qk Cl rfl ?_)
 refine F4 h fun c2 h => Jm rfl c2 (qe rfl ?_)
 refine AR h (fun v3 => mk [(5, pD (.val (.int .u8 v3)))] []) (fun j3 h => ?_) (fun v3 h => ?_)
 ·refine wq rfl (qf Bo rfl (ql A7 rfl (qm rfl ?_)))
  refine B3 h fun v4 a4 b4 h => qi Ay Do a4 (Ag b4) rfl (qk Cl rfl (Fb rfl (Ac ?_)))
  refine Bb h (fun h => ?_) fun h => ?_
  ·refine Ah Ax rfl (qm rfl (qf Bo rfl (ql A7 rfl (qm rfl ?_))))
   refine B3 h fun v6 a6 b6 h => qi Ay Do a6 (Ag b6) rfl (qk Cl rfl ?_)
   refine F4 h fun c7 h => Jm rfl c7 (TN rfl (qe rfl ?_))
   exact sn [] h
  ·refine Ak ?_
   exact sn [] h
 ·refine wq rfl (qm rfl (qe rfl ?_))
  obtain rfl := sj h
  refine Af (sm [] [(4, pD (.val (.int .u8 v3)))] [] rfl rfl) (As ?_)
  exact ⟨⟨[_], tm, rfl⟩, tv⟩
theorem Gu (N : Nat) (p0 : Int) (p1 : Int) (r : Bool) (h : CH N p0 p1 = some r) : Ar uS 114 [pD (.val (.int .u8 p0)), iD p1] [] (bD r) := by
 unfold CH at h
 refine cw (n := 10) (rs := [.tmp 4]) Tryz.func114 fun w0 S0 => ?_
 refine wq rfl (qa rfl (Ac (wq rfl (qw 2 rfl ?_))))
 refine F4 h fun c1 h => Jv rfl c1 (Mu rfl (BY rfl (qe rfl ?_)))
 obtain rfl := sj h
 refine Af (sm [] [(4, bD (((F5 .u8 ((Fo .u8 p0 p1)) 1) == 1)))] [] rfl rfl) (As ?_)
 exact ⟨⟨[_], tm, rfl⟩, tv⟩
theorem Lh (N : Nat) (p0 : Ab) (p1 : Aa) (r : (List Ad)) (h : EW N p0 p1 = some r) : Ar uS 129 [.e (.agg (Ae p0)), .e (.agg (AA p1))] [(3, r.map Aq)] (oD (.own 0)) := by
 unfold EW at h
 refine cw (n := 111) (rs := [.tmp 4]) Tryz.func129 fun w0 S0 => ?_
 refine wq rfl (qb rfl (qb rfl (qa rfl (Ac (wq rfl (qa rfl (Ac (wp rfl (qe rfl ?_)))))))))
 refine AH (L := CR N p0 p1) h (fun v1 => mk [(2, oD (.ptr 2 0)), (3, oD (.ptr 3 0)), (5, oD (.own 2001)), (6, iD v1.2)] [(2, .box (Ae p0)), (3, .box (AA p1)), (2001, .vec 3 (v1.1.map Aq))]) (fun v2 => mk [(5, oD (.own 2002))] [(2002, .vec 3 (v2.map Aq))]) (fun _ _ => rfl) ((Bf 5 2013 3 rfl rfl rfl).trans (sm [(2001, 2013)] _ _ rfl rfl)) (fun j1 n1 v1 h => ?_) (fun v2 s h hs => ?_)
 ·unfold CR at h
  refine wp rfl (qm rfl (qf CY rfl (ql Hz rfl (AL Ek rfl (AV rfl (Ac ?_))))))
  refine Bb h (fun h => ?_) fun h => ?_
  ·refine Ak (AS (AO (wq rfl (qf CY rfl (ql Hz rfl (qm rfl ?_))))))
   refine B3 h fun v4 a4 b4 h => qi Ek Ex a4 (Ag b4) rfl (qK HM Ex rfl (qz Lj rfl (qs Ex rfl (Ac (wq rfl (qL AZ Az rfl (qf Dl rfl (ql Cl rfl ?_))))))))
   refine BV h fun v5 a5 h => Aw [] (DU N p1 v4.fg v5 a5) TX rfl (qe rfl ?_)
   refine AR h (fun v6 => mk [(2, oD (.ptr 2 0)), (3, oD (.ptr 3 0)), (5, oD (.own 2003)), (6, iD v1.2), (7, oD (.ptr 7 0)), (8, pD (.val (.int .u8 v6)))] [(2, .box (Ae p0)), (3, .box (AA p1)), (7, .box (Bs v4)), (2003, .vec 3 (v1.1.map Aq))]) (fun j6 h => ?_) (fun v6 h => ?_)
   ·refine wq rfl (qL HM Ex rfl ?_)
    refine BV h fun v7 a7 h => Aw [] (Ch N v4 v7 a7) O7 rfl (Ac ?_)
    refine Bb h (fun h => ?_) fun h => ?_
    ·refine Ah Ax rfl (qf Cx rfl (ql GU rfl (qm rfl ?_)))
     refine B3 h fun v9 a9 b9 h => qi Df FR a9 (Ag b9) rfl (qk Ks rfl (qe rfl ?_))
     exact sn [(2003, 2001)] h
    ·refine Ak ?_
     exact sn [(2003, 2001)] h
   ·refine wq rfl (qe rfl ?_)
    refine AH (L := BS N p0 p1 v1 v4 v6) h (fun v10 => mk [(2, oD (.ptr 2 0)), (3, oD (.ptr 3 0)), (5, oD (.own 2004)), (6, iD v1.2), (7, oD (.ptr 7 0)), (8, pD (.val (.int .u8 v6))), (9, iD v10.2)] [(2, .box (Ae p0)), (3, .box (AA p1)), (7, .box (Bs v4)), (2004, .vec 3 (v10.1.map Aq))]) (fun v11 => mk [(2, oD (.ptr 2 0)), (3, oD (.ptr 3 0)), (5, oD (.own 2005)), (6, iD v1.2)] [(2, .box (Ae p0)), (3, .box (AA p1)), (2005, .vec 3 (v11.map Aq))]) (fun _ _ => rfl) (sm [(2004, 2003)] _ _ rfl rfl) (fun j10 n10 v10 h => ?_) (fun v11 s h hs => ?_)
    ·unfold BS at h
     refine wp rfl (qm rfl (qf Bt rfl (ql A7 rfl (qf Dl rfl (ql Cl rfl ?_)))))
     refine B3 h fun v12 a12 b12 h => qi Ay Do a12 (Ag b12) rfl (qk Cl rfl (AV rfl (Ac ?_)))
     refine Bb h (fun h => ?_) fun h => ?_
     ·refine Ak ?_
      refine AR h (fun v14 => mk [(2, oD (.ptr 2 0)), (3, oD (.ptr 3 0)), (5, oD (.own 2006)), (6, iD v1.2), (7, oD (.ptr 7 0)), (8, pD (.val (.int .u8 v6))), (9, iD v10.2)] [(2, .box (Ae p0)), (3, .box (AA p1)), (7, .box (Bs v4)), (2006, .vec 3 (v14.map Aq))]) (fun j14 h => ?_) (fun v14 h => ?_)
      ·refine AO (wp rfl (qw 2 rfl ?_))
       refine BV h fun v15 a15 h => Aw [] (Gu N v6 v10.2 v15 a15) Tu rfl (Cm rfl (Ac ?_))
       refine Bb h (fun h => ?_) fun h => ?_
       ·refine AT ?_
        exact sn [(2006, 2004)] h
       ·refine Ak (wq rfl (qa rfl (Ac (wp rfl (qe rfl ?_)))))
        refine AH (L := Bu N p0 p1 v1 v4 v10) h (fun v17 => mk [(2, oD (.ptr 2 0)), (3, oD (.ptr 3 0)), (5, oD (.own 2007)), (6, iD v1.2), (7, oD (.ptr 7 0)), (8, pD (.val (.int .u8 v6))), (9, iD v10.2), (10, bD v17.2.1), (11, iD v17.2.2)] [(2, .box (Ae p0)), (3, .box (AA p1)), (7, .box (Bs v4)), (2007, .vec 3 (v17.1.map Aq))]) (fun v18 => mk [(2, oD (.ptr 2 0)), (3, oD (.ptr 3 0)), (5, oD (.own 2008)), (6, iD v1.2), (7, oD (.ptr 7 0)), (8, pD (.val (.int .u8 v6))), (9, iD v10.2), (10, bD v18.2)] [(2, .box (Ae p0)), (3, .box (AA p1)), (7, .box (Bs v4)), (2008, .vec 3 (v18.1.map Aq))]) (fun _ _ => rfl) (sm [(2007, 2004)] _ _ rfl rfl) (fun j17 n17 v17 h => ?_) (fun v18 s h hs => ?_)
        ·unfold Bu at h
         refine wp rfl (qm rfl (qf Bt rfl (ql A7 rfl (qf IQ rfl (ql Cl rfl ?_)))))
         refine B3 h fun v19 a19 b19 h => qi Ay Do a19 (Ag b19) rfl (qk Cl rfl (AV rfl (Ac ?_)))
         refine Bb h (fun h => ?_) fun h => ?_
         ·refine Ak ?_
          refine AR h (fun v21 => mk [(2, oD (.ptr 2 0)), (3, oD (.ptr 3 0)), (5, oD (.own 2009)), (6, iD v1.2), (7, oD (.ptr 7 0)), (8, pD (.val (.int .u8 v6))), (9, iD v10.2), (10, bD v21.2), (11, iD v17.2.2)] [(2, .box (Ae p0)), (3, .box (AA p1)), (7, .box (Bs v4)), (2009, .vec 3 (v21.1.map Aq))]) (fun j21 h => ?_) (fun v21 h => ?_)
          ·refine AO (wp rfl (qL AZ Az rfl (qf IQ rfl (ql Cl rfl ?_))))
           refine BV h fun v22 a22 h => Aw [] (DU N p1 v4.fk v22 a22) TX rfl (qm rfl ?_)
           refine BV h fun v23 a23 h => Aw [] (Gu N v22 v17.2.2 v23 a23) Tu rfl (Cm rfl (Ac ?_))
           refine Bb h (fun h => ?_) fun h => ?_
           ·refine AT ?_
            exact sn [(2009, 2007)] h
           ·refine Ak ?_
            refine AR h (fun v25 => mk [(2, oD (.ptr 2 0)), (3, oD (.ptr 3 0)), (5, oD (.own 2010)), (6, iD v1.2), (7, oD (.ptr 7 0)), (8, pD (.val (.int .u8 v6))), (9, iD v10.2), (10, bD v25), (11, iD v17.2.2)] [(2, .box (Ae p0)), (3, .box (AA p1)), (7, .box (Bs v4)), (2010, .vec 3 (v17.1.map Aq))]) (fun j25 h => ?_) (fun v25 h => ?_)
            ·refine Ah Ax rfl (qw 2 rfl ?_)
             refine Eh 67 h rfl (fun h => ?_) fun h => ?_
             ·refine qw 8 rfl (qp rfl (qe rfl ?_))
              exact sn [(2010, 2007)] h
             ·refine qf Ko rfl (ql KQ rfl (qm rfl ?_))
              refine B3 h fun v27 a27 b27 h => qi GR NE a27 (Ag b27) rfl (qk QS rfl (qm rfl ?_))
              refine B3 h fun v28 a28 b28 h => qi Ha Rd a28 (Ag b28) rfl (qk Ti rfl (qp rfl (qe rfl ?_)))
              exact sn [(2010, 2007)] h
            ·refine AR h (fun v29 => mk [(2, oD (.ptr 2 0)), (3, oD (.ptr 3 0)), (5, oD (.own 2011)), (6, iD v1.2), (7, oD (.ptr 7 0)), (8, pD (.val (.int .u8 v6))), (9, iD v10.2), (10, bD v25), (11, iD v17.2.2), (90, bD v29)] [(2, .box (Ae p0)), (3, .box (AA p1)), (7, .box (Bs v4)), (2011, .vec 3 (v17.1.map Aq))]) (fun j29 h => ?_) (fun v29 h => ?_)
             ·refine Ah Ax rfl (qf JF rfl (ql Ti rfl (Cm rfl (qm rfl ?_))))
              refine Eh 80 h rfl (fun h => ?_) fun h => ?_
              ·refine qf Ko rfl (ql KQ rfl (qm rfl ?_))
               refine B3 h fun v31 a31 b31 h => qi GR NE a31 (Ag b31) rfl (qk QS rfl (qm rfl ?_))
               refine B3 h fun v32 a32 b32 h => qi Ha Rd a32 (Ag b32) rfl (qk Ti rfl (Cm rfl (qp rfl (Ac ?_))))
               exact sn [(2011, 2010)] h
              ·refine qw 9 rfl (qp rfl (Ac ?_))
               exact sn [(2011, 2010)] h
             ·refine Bb h (fun h => ?_) fun h => ?_
              ·refine Ah Ax rfl (qw 4 rfl (Br Jo SE rfl (DF EH Fi Jo rfl ?_)))
               refine F4 h fun c34 h => Dp (f := Aq) EH EH Fi Rj Jo c34 rfl (qe rfl ?_)
               exact sn [(2009, 97)] h
              ·refine Ak ?_
               exact sn [(2009, 2011)] h
          ·refine Ah Ax rfl (qm rfl (A4 rfl (qe rfl ?_)))
           exact sn [(2007, 2009)] h
         ·refine AT ?_
          exact sn [(2008, 2007)] h
        ·refine Af hs ?_
         refine AR h (fun v35 => mk [(2, oD (.ptr 2 0)), (3, oD (.ptr 3 0)), (5, oD (.own 2012)), (6, iD v1.2), (7, oD (.ptr 7 0)), (8, pD (.val (.int .u8 v6))), (9, iD v10.2), (103, bD v35)] [(2, .box (Ae p0)), (3, .box (AA p1)), (7, .box (Bs v4)), (2012, .vec 3 (v18.1.map Aq))]) (fun j35 h => ?_) (fun v35 h => ?_)
         ·refine Ah Ax rfl (qf JF rfl (ql Ti rfl (qm rfl ?_)))
          refine Eh 100 h rfl (fun h => ?_) fun h => ?_
          ·refine qm rfl (Cm rfl (qp rfl (Ac ?_)))
           exact sn [(2012, 2008)] h
          ·refine qw 2 rfl (qp rfl (Ac ?_))
           exact sn [(2012, 2008)] h
         ·refine Bb h (fun h => ?_) fun h => ?_
          ·refine Ah Ax rfl (qw 3 rfl (Br Jo SE rfl (DF EH Fi Jo rfl ?_)))
           refine F4 h fun c38 h => Dp (f := Aq) EH EH Fi Rj Jo c38 rfl (qe rfl ?_)
           exact sn [(2006, 109)] h
          ·refine Ak ?_
           exact sn [(2006, 2012)] h
      ·refine Ah Ax rfl (qm rfl (A4 rfl (qe rfl ?_)))
       exact sn [(2004, 2006)] h
     ·refine AT ?_
      exact sn [(2005, 2004)] h
    ·refine Af hs (Ah Ax rfl (qm rfl (A4 rfl (qe rfl ?_))))
     exact sn [(2001, 2005)] h
  ·refine AT ?_
   exact sn [(2002, 2001)] h
 ·refine Af hs (wq rfl (qm rfl (qe rfl ?_)))
  obtain rfl := sj h
  refine Af (sm [(1000, 2002)] [(4, oD (.own 1000))] [(1000, .vec 3 (v2.map Aq))] rfl rfl) (As ?_)
  exact ⟨⟨[_], tm, rfl⟩, ⟨rfl, tv⟩⟩
theorem KE (N : Nat) (p0 : Ab) (p1 : Aa) (r : Bool) (h : EE N p0 p1 = some r) : Ar uS 112 [.e (.agg (Ae p0)), .e (.agg (AA p1))] [] (bD r) := by
 unfold EE at h
 refine cw (n := 10) (rs := [.tmp 4]) Tryz.func112 fun w0 S0 => ?_
 refine wq rfl (qb rfl (qb rfl (qa rfl (Ac (wq rfl (qL Db CM rfl (qL AZ Az rfl ?_)))))))
 refine BV h fun v1 a1 h => Aw [2001] (Lh N p0 p1 v1 a1) Z3 rfl (D1 EH rfl (BY rfl (qe rfl ?_)))
 obtain rfl := sj h
 refine Af (sm [] [(4, bD (((v1.length : Int) == 0)))] [] rfl rfl) (As ?_)
 exact ⟨⟨[_], tm, rfl⟩, tv⟩
theorem El (N : Nat) (p0 : Ab) (p1 : Aa) (r : Bool) (h : BE N p0 p1 = some r) : Ar uS 71 [.e (.agg (Ae p0)), .e (.agg (AA p1))] [] (bD r) := by
 unfold BE at h
 refine cw (n := 22) (rs := [.tmp 4]) Tryz.func71 fun w0 S0 => ?_
 refine wq rfl (qb rfl (qb rfl (qa rfl (Ac (wq rfl (qL AZ Az rfl ?_))))))
 refine BV h fun v1 a1 h => Aw [2001] (L6 N p1 v1 a1) ZC rfl (qa rfl (Ac (wp rfl (qe rfl ?_))))
 refine AH (L := Cj N p0 v1) h (fun v2 => mk [(2, oD (.ptr 2 0)), (5, oD (.own 2002)), (6, iD v2)] [(2, .box (Ae p0)), (2002, .vec 3 (v1.map Al))]) (fun v3 => mk [] []) (fun _ _ => rfl) (sm [(2002, 2001)] _ _ rfl rfl) (fun j2 n2 v2 h => ?_) (fun v3 s h hs => ?_)
 ·unfold Cj at h
  refine wp rfl (qw 2 rfl (D1 A0 rfl (AV rfl (Ac ?_))))
  refine Bb h (fun h => ?_) fun h => ?_
  ·refine Ak (AS (AO (wq rfl (qL Db CM rfl (qw 2 rfl ?_)))))
   refine B3 h fun v5 a5 b5 h => qI A0 Az a5 (Ag b5) rfl (qJ AZ Az (Ag b5) rfl ?_)
   refine BV h fun v6 a6 h => Aw [] (KE N p0 v5 v6 a6) Y2 rfl (Cm rfl (AM (by kernel_rfl) ?_))
   refine Bb h (fun h => ?_) fun h => ?_
   ·refine wq rfl (qe rfl ?_)
    obtain rfl := sj h
    refine Af (sm [] [(4, bD false)] [] rfl rfl) (As ?_)
    exact ⟨⟨[_], tm, rfl⟩, tv⟩
   ·refine Ak (Ah Ax rfl (qm rfl (A4 rfl (qe rfl ?_))))
    exact sn [] h
  ·refine AT ?_
   exact sn [] h
 ·refine Af hs (wq rfl (qe rfl ?_))
  obtain rfl := sj h
  refine Af (sm [] [(4, bD true)] [] rfl rfl) (As ?_)
  exact ⟨⟨[_], tm, rfl⟩, tv⟩
theorem GS (N : Nat) (p0 : Ab) (p1 : Aa) (r : Int) (h : Dx N p0 p1 = some r) : Ar uS 82 [.e (.agg (Ae p0)), .e (.agg (AA p1))] [] (iD r) := by
 unfold Dx at h
 refine cw (n := 154) (rs := [.tmp 4]) Tryz.func82 fun w0 S0 => ?_
 refine wq rfl (qb rfl (qb rfl (qa rfl (Ac (wp rfl (qL Db CM rfl ?_))))))
 refine BV h fun v1 a1 h => Aw [] (GC N p0 v1 a1) ZD rfl (qa rfl (Ac (wq rfl (qm rfl (Ci rfl (Ac ?_))))))
 refine Bb h (fun h => ?_) fun h => ?_
 ·refine wq rfl (qm rfl (qe rfl ?_))
  obtain rfl := sj h
  refine Af (sm [] [(4, iD v1)] [] rfl rfl) (As ?_)
  exact ⟨⟨[_], tm, rfl⟩, tv⟩
 ·refine Ak (wq rfl (qf Bt rfl (ql A7 rfl (AL Ay rfl (qa rfl (Ac (AS ?_)))))))
  refine AR h (fun v3 => mk [(2, oD (.ptr 2 0)), (3, oD (.ptr 3 0)), (6, iD ((p0.fb.length : Int))), (39, bD v3)] [(2, .box (Ae p0)), (3, .box (AA p1))]) (fun j3 h => ?_) (fun v3 h => ?_)
  ·refine Ah Ax rfl (qf Ct rfl (ql A7 rfl (AL Ay rfl (qm rfl (Ci rfl (qm rfl ?_))))))
   refine Eh 24 h rfl (fun h => ?_) fun h => ?_
   ·refine qw 5 rfl (qp rfl (qw 8 rfl (qp rfl (Ac ?_))))
    exact sn [] h
   ·refine qf Bo rfl (ql A7 rfl (AL Ay rfl (qm rfl (Ci rfl (qp rfl (qm rfl ?_))))))
    refine Eh 31 h rfl (fun h => ?_) fun h => ?_
    ·refine qw 7 rfl (qp rfl (Ac ?_))
     exact sn [] h
    ·refine qf Cx rfl (ql GU rfl (AL Df rfl (qf CY rfl (ql Hz rfl (AL Ek rfl (Ci rfl (qp rfl (Ac ?_))))))))
     exact sn [] h
  ·refine Bb h (fun h => ?_) fun h => ?_
   ·refine wq rfl (qe rfl ?_)
    obtain rfl := sj h
    refine Af (sm [] [(4, iD 6)] [] rfl rfl) (As ?_)
    exact ⟨⟨[_], tm, rfl⟩, tv⟩
   ·refine Ak (wp rfl (qe rfl ?_))
    refine AH (L := Cn N p0 p1) h (fun v7 => mk [(2, oD (.ptr 2 0)), (3, oD (.ptr 3 0)), (6, iD ((p0.fb.length : Int))), (7, iD v7)] [(2, .box (Ae p0)), (3, .box (AA p1))]) (fun v8 => mk [(2, oD (.ptr 2 0)), (3, oD (.ptr 3 0))] [(2, .box (Ae p0)), (3, .box (AA p1))]) (fun _ _ => rfl) (sm [] _ _ rfl rfl) (fun j7 n7 v7 h => ?_) (fun v8 s h hs => ?_)
    ·unfold Cn at h
     refine wp rfl (qw 2 rfl (AV rfl (Ac ?_)))
     refine Bb h (fun h => ?_) fun h => ?_
     ·refine Ak (AS (AO (AS ?_)))
      refine AR h (fun v10 => mk [(2, oD (.ptr 2 0)), (3, oD (.ptr 3 0)), (6, iD ((p0.fb.length : Int))), (7, iD v7), (84, bD v10)] [(2, .box (Ae p0)), (3, .box (AA p1))]) (fun j10 h => ?_) (fun v10 h => ?_)
      ·refine Ah Ax rfl (qf Ct rfl (ql A7 rfl (qm rfl ?_)))
       refine B3 h fun v11 a11 b11 h => qi Ay Do a11 (Ag b11) rfl (qk Cl rfl (AV rfl (qm rfl ?_)))
       refine Eh 51 h rfl (fun h => ?_) fun h => ?_
       ·refine qw 11 rfl (qp rfl (qw 7 rfl (qp rfl (qw 12 rfl (qp rfl (AM (by kernel_rfl) ?_))))))
        exact sn [] h
       ·refine qf Ct rfl (ql A7 rfl (qm rfl ?_))
        refine B3 h fun v13 a13 b13 h => qi Ay Do a13 (Ag b13) rfl (qk Cl rfl (qf Bt rfl (ql A7 rfl (qm rfl ?_))))
        refine B3 h fun v14 a14 b14 h => qi Ay Do a14 (Ag b14) rfl (qk Cl rfl (Fb rfl (qp rfl (qm rfl ?_))))
        refine Eh 64 h rfl (fun h => ?_) fun h => ?_
        ·refine qw 6 rfl (qp rfl (qw 12 rfl (qp rfl (AM (by kernel_rfl) ?_))))
         exact sn [] h
        ·refine qf Bo rfl (ql A7 rfl (qm rfl ?_))
         refine B3 h fun v16 a16 b16 h => qi Ay Do a16 (Ag b16) rfl (qk Cl rfl (AV rfl (qp rfl (qm rfl ?_))))
         refine Eh 72 h rfl (fun h => ?_) fun h => ?_
         ·refine qw 11 rfl (qp rfl (AM (by kernel_rfl) ?_))
          exact sn [] h
         ·refine qf Bo rfl (ql A7 rfl (qm rfl ?_))
          refine B3 h fun v18 a18 b18 h => qi Ay Do a18 (Ag b18) rfl (qk Cl rfl (qf Bt rfl (ql A7 rfl (qm rfl ?_))))
          refine B3 h fun v19 a19 b19 h => qi Ay Do a19 (Ag b19) rfl (qk Cl rfl (Fb rfl (qp rfl (AM (by kernel_rfl) ?_))))
          exact sn [] h
      ·refine Bb h (fun h => ?_) fun h => ?_
       ·refine wq rfl (qe rfl ?_)
        obtain rfl := sj h
        refine Af (sm [] [(4, iD 7)] [] rfl rfl) (As ?_)
        exact ⟨⟨[_], tm, rfl⟩, tv⟩
       ·refine Ak (wq rfl (qf Ct rfl (ql A7 rfl (qm rfl ?_))))
        refine B3 h fun v21 a21 b21 h => qi Ay Do a21 (Ag b21) rfl (qk Cl rfl (qf Bo rfl (ql A7 rfl (qm rfl ?_))))
        refine B3 h fun v22 a22 b22 h => qi Ay Do a22 (Ag b22) rfl (qk Cl rfl (BY rfl (AM (by kernel_rfl) ?_)))
        refine Bb h (fun h => ?_) fun h => ?_
        ·refine wq rfl (qe rfl ?_)
         obtain rfl := sj h
         refine Af (sm [] [(4, iD 1)] [] rfl rfl) (As ?_)
         exact ⟨⟨[_], tm, rfl⟩, tv⟩
        ·refine Ak (Ah Ax rfl (qm rfl (A4 rfl (qe rfl ?_))))
         exact sn [] h
     ·refine AT ?_
      exact sn [] h
    ·refine Af hs (wp rfl (qe rfl ?_))
     refine AH (L := Cd N p0 p1) h (fun v24 => mk [(2, oD (.ptr 2 0)), (3, oD (.ptr 3 0)), (8, iD v24)] [(2, .box (Ae p0)), (3, .box (AA p1))]) (fun v25 => mk [] []) (fun _ _ => rfl) (sm [] _ _ rfl rfl) (fun j24 n24 v24 h => ?_) (fun v25 s h hs => ?_)
     ·unfold Cd at h
      refine wp rfl (qm rfl (qf CY rfl (ql Hz rfl (AL Ek rfl (AV rfl (Ac ?_))))))
      refine Bb h (fun h => ?_) fun h => ?_
      ·refine Ak (AS (AO (wq rfl (qf CY rfl (ql Hz rfl (qm rfl ?_))))))
       refine B3 h fun v27 a27 b27 h => qi Ek Ex a27 (Ag b27) rfl (qK HM Ex rfl (qz Lj rfl (qs Ex rfl (Ac (wq rfl (qf Bt rfl (ql A7 rfl (qf Dl rfl (ql Cl rfl ?_)))))))))
       refine B3 h fun v28 a28 b28 h => qi Ay Do a28 (Ag b28) rfl (qk Cl rfl ?_)
       refine F4 h fun c29 h => Jm rfl c29 (Lr rfl (qe rfl ?_))
       refine AR h (fun v30 => mk [(2, oD (.ptr 2 0)), (3, oD (.ptr 3 0)), (8, iD v24), (153, bD v30)] [(2, .box (Ae p0)), (3, .box (AA p1))]) (fun j30 h => ?_) (fun v30 h => ?_)
       ·refine Ah Ax rfl (qL HM Ex rfl ?_)
        refine BV h fun v31 a31 h => Aw [] (Ch N v27 v31 a31) O7 rfl (Cm rfl (qm rfl ?_))
        refine Eh 119 h rfl (fun h => ?_) fun h => ?_
        ·refine qf Cx rfl (ql GU rfl (qm rfl ?_))
         refine B3 h fun v33 a33 b33 h => qi Df FR a33 (Ag b33) rfl (qk Ks rfl (Ci rfl (qp rfl (qm rfl ?_))))
         refine Eh 127 h rfl (fun h => ?_) fun h => ?_
         ·refine qw 3 rfl (qu rfl (qu rfl (qu rfl (qu rfl (qu rfl (qu rfl (qu rfl (qu rfl (qu rfl (qu rfl (qu rfl (qu rfl (qu rfl (qu rfl (qu rfl (qu rfl (qu rfl (qu rfl (qu rfl (qu rfl (qu rfl (qn rfl (qp rfl (AM (by kernel_rfl) ?_))))))))))))))))))))))))
          exact sn [] h
         ·refine qL HM Ex rfl ?_
          refine BV h fun v35 a35 h => Aw [] (Ch N v27 v35 a35) O7 rfl (qm rfl ?_)
          refine Eh 130 h rfl (fun h => ?_) fun h => ?_
          ·refine qf Cx rfl (ql GU rfl (qm rfl ?_))
           refine B3 h fun v37 a37 b37 h => qi Df FR a37 (Ag b37) rfl (qk Ks rfl (qm rfl (I7 rfl (Ci rfl (qm rfl ?_)))))
           refine Eh 139 h rfl (fun h => ?_) fun h => ?_
           ·refine qw 11 rfl (qp rfl (qp rfl (qp rfl (AM (by kernel_rfl) ?_))))
            exact sn [] h
           ·refine qL AZ Az rfl (qf Dl rfl (ql Cl rfl ?_))
            refine BV h fun v39 a39 h => Aw [] (DU N p1 v27.fg v39 a39) TX rfl (qf Cx rfl (ql GU rfl (qm rfl ?_)))
            refine B3 h fun v40 a40 b40 h => qi Df FR a40 (Ag b40) rfl (qk Ks rfl (I7 rfl (Ci rfl (qp rfl (qp rfl (qp rfl (AM (by kernel_rfl) ?_)))))))
            exact sn [] h
          ·refine qw 9 rfl (qu rfl (qu rfl (qu rfl (qu rfl (qu rfl (qu rfl (qu rfl (qu rfl (qu rfl (qu rfl (qu rfl (qn rfl (qp rfl (qp rfl (AM (by kernel_rfl) ?_)))))))))))))))
           exact sn [] h
        ·refine qw 6 rfl (qp rfl (qm rfl (qL HM Ex rfl ?_)))
         refine BV h fun v41 a41 h => Aw [] (Ch N v27 v41 a41) O7 rfl (qm rfl ?_)
         refine Eh 130 h rfl (fun h => ?_) fun h => ?_
         ·refine qf Cx rfl (ql GU rfl (qm rfl ?_))
          refine B3 h fun v43 a43 b43 h => qi Df FR a43 (Ag b43) rfl (qk Ks rfl (qm rfl (I7 rfl (Ci rfl (qm rfl ?_)))))
          refine Eh 139 h rfl (fun h => ?_) fun h => ?_
          ·refine qw 11 rfl (qp rfl (qp rfl (qp rfl (AM (by kernel_rfl) ?_))))
           exact sn [] h
          ·refine qL AZ Az rfl (qf Dl rfl (ql Cl rfl ?_))
           refine BV h fun v45 a45 h => Aw [] (DU N p1 v27.fg v45 a45) TX rfl (qf Cx rfl (ql GU rfl (qm rfl ?_)))
           refine B3 h fun v46 a46 b46 h => qi Df FR a46 (Ag b46) rfl (qk Ks rfl (I7 rfl (Ci rfl (qp rfl (qp rfl (qp rfl (AM (by kernel_rfl) ?_)))))))
           exact sn [] h
         ·refine qw 9 rfl (qu rfl (qu rfl (qu rfl (qu rfl (qu rfl (qu rfl (qu rfl (qu rfl (qu rfl (qu rfl (qu rfl (qn rfl (qp rfl (qp rfl (AM (by kernel_rfl) ?_)))))))))))))))
          exact sn [] h
       ·refine Bb h (fun h => ?_) fun h => ?_
        ·refine wq rfl (qe rfl ?_)
         obtain rfl := sj h
         refine Af (sm [] [(4, iD 1)] [] rfl rfl) (As ?_)
         exact ⟨⟨[_], tm, rfl⟩, tv⟩
        ·refine Ak (Ah Ax rfl (qm rfl (A4 rfl (qe rfl ?_))))
         exact sn [] h
      ·refine AT ?_
       exact sn [] h
     ·refine Af hs (wq rfl (qe rfl ?_))
      obtain rfl := sj h
      refine Af (sm [] [(4, iD 0)] [] rfl rfl) (As ?_)
      exact ⟨⟨[_], tm, rfl⟩, tv⟩
theorem Lf (N : Nat) (p0 : Aj) (r : Bool) (h : EQ N p0 = some r) : Ar uS 143 [.e (.agg (DI p0))] [] (bD r) := by
 unfold EQ at h
 refine cw (n := 31) (rs := [.tmp 2]) Tryz.func143 fun w0 S0 => ?_
 refine wq rfl (qb rfl (qe rfl ?_))
 refine AR h (fun v1 => mk [(2, bD v1)] []) (fun j1 h => ?_) (fun v1 h => ?_)
 ·refine Ah Ax rfl (qf Gf rfl (ql Cl rfl (Fb rfl (qm rfl ?_))))
  refine Eh 6 h rfl (fun h => ?_) fun h => ?_
  ·refine qf Gf rfl (ql Cl rfl (XA rfl (qp rfl (qm rfl ?_))))
   refine Eh 11 h rfl (fun h => ?_) fun h => ?_
   ·refine qf Fn rfl (ql Cl rfl (Fb rfl (qp rfl (qm rfl ?_))))
    refine Eh 16 h rfl (fun h => ?_) fun h => ?_
    ·refine qf Hk rfl (ql Cl rfl (Fb rfl (qp rfl (qm rfl ?_))))
     refine Eh 21 h rfl (fun h => ?_) fun h => ?_
     ·refine qf Gf rfl (ql Cl rfl (BY rfl (qm rfl ?_)))
      refine Eh 25 h rfl (fun h => ?_) fun h => ?_
      ·refine qw 3 rfl (qp rfl (qp rfl (qe rfl ?_)))
       exact sn [] h
      ·refine qf Hk rfl (ql Cl rfl (BY rfl (qp rfl (qp rfl (qe rfl ?_)))))
       exact sn [] h
     ·refine qw 4 rfl (qu rfl (qu rfl (qu rfl (qn rfl (qp rfl (qe rfl ?_))))))
      exact sn [] h
    ·refine qw 3 rfl (qp rfl (qw 5 rfl (qu rfl (qu rfl (qu rfl (qn rfl (qp rfl (qe rfl ?_))))))))
     exact sn [] h
   ·refine qw 3 rfl (qp rfl (qw 4 rfl (qp rfl (qw 5 rfl (qu rfl (qu rfl (qu rfl (qn rfl (qp rfl (qe rfl ?_))))))))))
    exact sn [] h
  ·refine qw 3 rfl (qp rfl (qw 4 rfl (qp rfl (qw 4 rfl (qp rfl (qw 5 rfl (qu rfl (qu rfl (qu rfl (qn rfl (qp rfl (qe rfl ?_))))))))))))
   exact sn [] h
 ·obtain rfl := sj h
  refine Af (sm [] [(2, bD v1)] [] rfl rfl) (As ?_)
  exact ⟨⟨[_], tm, rfl⟩, tv⟩
end Go.Lift
