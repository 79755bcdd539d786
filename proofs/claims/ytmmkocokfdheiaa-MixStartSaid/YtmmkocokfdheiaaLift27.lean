/- Lemmas for MixStartSaid, which YtmmkocokfdheiaaFin10 proves. -/
/- The rules for parts of own slices at typed lists. No condition. -/
import Derived.Test.YtmmkocokfdheiaaLift26
namespace Go.Lift
open Go.RowKit
variable {P : Program} {X : Ctx} {ops : Array Oper}
theorem dstV_own {α : Type} (f : α → List T) (b e : Nat) (xs : List α) : DstV (.e (.one (.own b))) b e (xs.map f) 0 xs.length := by
  have := DstV.own b e (xs.map f)
  rwa [List.length_map] at this
theorem dstV_view {α : Type} (f : α → List T) (b e lo len : Nat) (xs : List α) (h : lo + len ≤ xs.length) : DstV (.e (.one (.view b e lo len))) b e (xs.map f) lo len := .view b e _ lo len (by simpa using h)
theorem srcW_view {α : Type} (f : α → List T) (b e lo len : Nat) (xs : List α) (h : lo + len ≤ xs.length) : SrcW (.e (.one (.view b e lo len))) [(b, .vec e (xs.map f))] e (((xs.drop lo).take len).map f) := by
  have := SrcW.view b e (xs.map f) lo len (by simpa using h)
  rwa [← List.map_drop, ← List.map_take] at this
theorem srcW_sl {α : Type} (f : α → List T) (e : Nat) (xs : List α) (h : ∀ x, (f x).length = e) : SrcW (one (.sl (xs.map f))) [] e (xs.map f) := .of (.sl _ _ (map_rows h xs))
section run
variable {dr : Bool} {Q : St → Prop} {r i : Nat} {st : St} {log : List (Nat × Loc)} {o : Oper} {gs : List (Operand × D)}
theorem rt_slice {α : Type} (f : α → List T) (xs : List α) {x : Operand} {t el s e l h b lo0 len lo1 len1 : Nat} {lo hi : Option Operand} {rl rh : List (Operand × D)} {d : D} (hat : At st.env ops i X.n (.slice t x lo hi none) s gs)
    (hx : opd st.env x = some d) (hD : DstV d b e (xs.map f) lo0 len) (hb : st.bx b = some (.vec e (xs.map f))) (ht : sliceB P t el = true) (he : szB P el e = true) (hlo : Bnd lo 0 l rl) (hhi : Bnd hi len h rh) (h1 : preR st.env rl) (h2 : preR st.env rh) (hlh : l ≤ h) (hhl : lo0 + h ≤ xs.length) (e1 : lo0 + l = lo1) (e2 : h - l = len1)
    (next : Run P X ops dr Q r (i + 1) (Loc.upd ⟨gs ++ ((x, d) :: (rl ++ rh)), [(b, .vec e (xs.map f))], some s, some (.e (.one (.view b e lo1 len1))), [], []⟩ st) ((i, ⟨gs ++ ((x, d) :: (rl ++ rh)), [(b, .vec e (xs.map f))], some s, some (.e (.one (.view b e lo1 len1))), [], []⟩) :: log)) : Run P X ops dr Q (r + 1) i st log := by
  subst e1; subst e2
  exact r_sliceV hat hx hD hb ht he hlo hhi h1 h2 hlh (by simpa using hhl) next
theorem rt_copy {α : Type} (f : α → List T) (xs ys : List α) {x y : Operand} {t t2 el s e b lo len : Nat} {d d2 : D} {rb2 : List (Nat × Blk)} (hat : At st.env ops i X.n (.call ⟨.builtin .copy, #[x, y], #[t, t2]⟩) s gs)
    (hx : opd st.env x = some d) (hD : DstV d b e (xs.map f) lo len) (hb : st.bx b = some (.vec e (xs.map f))) (hy : opd st.env y = some d2) (hS : SrcW d2 rb2 e (ys.map f)) (hb2 : preB st.bx rb2) (ht : sliceB P t el = true) (he : szB P el e = true)
    (next : Run P X ops dr Q r (i + 1) (Loc.upd ⟨gs ++ [(x, d), (y, d2)], (b, .vec e (xs.map f)) :: rb2, some s, some (vD (.int .i64 ((Nat.min ys.length len : Nat) : Int))), [(b, .vec e ((spl xs lo (ys.take (Nat.min ys.length len))).map f))], []⟩ st) ((i, ⟨gs ++ [(x, d), (y, d2)], (b, .vec e (xs.map f)) :: rb2, some s, some (vD (.int .i64 ((Nat.min ys.length len : Nat) : Int))), [(b, .vec e ((spl xs lo (ys.take (Nat.min ys.length len))).map f))], []⟩) :: log)) : Run P X ops dr Q (r + 1) i st log := by
  have hl : (ys.map f).length = ys.length := List.length_map _
  refine r_copy hat hx hD hb hy hS hb2 ht he (rows' := (spl xs lo (ys.take (Nat.min ys.length len))).map f) ?_ ?_
  · rw [hl, ← List.map_take, spl_map]
  · rw [hl]; exact next
end run
def allE2 (f : Nat → Nat) (env : Nat → Option D) : List (Nat × D) → Prop
  | [] => True
  | (s, d) :: ps => env s = some (d.ren f) ∧ allE2 f env ps
def allB2 (f : Nat → Nat) (bx : Nat → Option Blk) : List (Nat × Blk) → Prop
  | [] => True
  | (b, k) :: ps => bx (f b) = some (k.ren f) ∧ allB2 f bx ps
def namesB : List (Nat × Blk) → List Nat
  | [] => []
  | (b, _) :: ps => b :: namesB ps
def lentOk (f : Nat → Nat) : List Nat → Bool
  | [] => true
  | b :: bs => (if isLent b then f b == b else !isLent (f b)) && lentOk f bs
def inB (b : Nat) : List Nat → Bool
  | [] => false
  | c :: cs => c == b || inB b cs
def shutD (ns : List Nat) : List (Nat × D) → Bool
  | [] => true
  | (_, d) :: ps => (d.names.all fun b => inB b ns) && shutD ns ps
def shutK (ns : List Nat) : List (Nat × Blk) → Bool
  | [] => true
  | (_, d) :: ps => (d.names.all fun b => inB b ns) && shutK ns ps
theorem allE2_ok {f : Nat → Nat} {env : Nat → Option D} : ∀ {el : List (Nat × D)}, allE2 f env el → allE f env el
  | [], _ => trivial
  | (_, _) :: _, h => ⟨h.1, allE2_ok h.2⟩
theorem allB2_ok {f : Nat → Nat} {bx : Nat → Option Blk} : ∀ {bl : List (Nat × Blk)}, allB2 f bx bl → allB f bx bl
  | [], _ => trivial
  | (_, _) :: _, h => ⟨h.1, allB2_ok h.2⟩
theorem namesB_eq : ∀ bl : List (Nat × Blk), namesB bl = bl.map (·.1)
  | [] => rfl
  | (b, k) :: ps => by simp [namesB, namesB_eq ps]
theorem lentOk_eq {f : Nat → Nat} : ∀ bl : List (Nat × Blk), lentOk f (namesB bl) = bl.all fun p => if isLent p.1 then f p.1 == p.1 else !isLent (f p.1)
  | [] => rfl
  | (b, k) :: ps => by simp only [namesB, lentOk, List.all_cons, lentOk_eq ps]
theorem inB_eq {b : Nat} : ∀ bl : List (Nat × Blk), inB b (namesB bl) = bl.any fun q => q.1 == b
  | [] => rfl
  | (c, k) :: ps => by simp only [namesB, inB, List.any_cons, inB_eq ps]
theorem shutD_eq (bl : List (Nat × Blk)) : ∀ el : List (Nat × D), shutD (namesB bl) el = el.all fun p => p.2.names.all fun b => bl.any fun q => q.1 == b
  | [] => rfl
  | (s, d) :: ps => by simp only [shutD, List.all_cons, shutD_eq bl ps, inB_eq]
theorem shutK_eq (bl : List (Nat × Blk)) : ∀ el : List (Nat × Blk), shutK (namesB bl) el = el.all fun p => p.2.names.all fun b => bl.any fun q => q.1 == b
  | [] => rfl
  | (s, d) :: ps => by simp only [shutK, List.all_cons, shutK_eq bl ps, inB_eq]
theorem sees_mkL {st : St} (f : Nat → Nat) (el : List (Nat × D)) (bl : List (Nat × Blk)) (he : allE2 f st.env el) (hb : allB2 f st.bx bl) (hi : (nodupB ((namesB bl).map f) && lentOk f (namesB bl)) = true) (hs : (shutD (namesB bl) el && shutK (namesB bl) bl) = true) : Sees P X st (mk el bl) := by
  refine sees_mk f el bl (allE2_ok he) (allB2_ok hb) ?_ ?_
  · rw [lentOk_eq, namesB_eq] at hi; exact hi
  · rw [shutD_eq, shutK_eq] at hs; exact hs
end Go.Lift
