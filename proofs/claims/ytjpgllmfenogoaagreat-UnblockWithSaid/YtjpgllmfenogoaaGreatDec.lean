/- Lemmas for UnblockWithSaid, which YtjpgllmfenogoaaGreatFinU6 proves. -/
import Derived.Test.YtjpgllmfenogoaaGreatCode4
namespace Go.Lift
open Go.RowKit
open Go.Proofs
theorem Mx : PJ Tryz.prog 3 Aj Mu := R9 (k := .i64) (by kernel_rfl) (fun _ => rfl)
theorem PQ : PJ Tryz.prog 26 (CL Aj) (Pp Mu) := Iy (el := 3) (by kernel_rfl) Mx (fun _ => rfl)
theorem S6 : PJ Tryz.prog 4 eB (fun _ => True) := QY (by kernel_rfl) (fun _ => rfl)
theorem TG : PJ Tryz.prog 77 (CL eB) (Pp (fun _ => True)) := Iy (el := 4) (by kernel_rfl) S6 (fun _ => rfl)
theorem Rb : PJ Tryz.prog 74 (CL (CL eB)) (Pp (Pp (fun _ => True))) := Iy (el := 77) (by kernel_rfl) TG (fun _ => rfl)
theorem T0 : GV Tryz.prog 76 = some [3, 3, 3, 4, 74, 74] := by kernel_rfl
theorem Ts : PJ Tryz.prog 76 Ak Le := by
 intro d ts h
 obtain ⟨d, h⟩ := Kq T0 h
 obtain ⟨a0, _, rfl, h0, a1, _, rfl, h1, a2, _, rfl, h2, a3, _, rfl, h3, a4, _, rfl, h4, a5, _, rfl, h5, rfl⟩ := h
 obtain ⟨x0, rfl, w0⟩ := Mx d _ h0
 obtain ⟨x1, rfl, w1⟩ := Mx d _ h1
 obtain ⟨x2, rfl, w2⟩ := Mx d _ h2
 obtain ⟨x3, rfl, w3⟩ := S6 d _ h3
 obtain ⟨x4, rfl, w4⟩ := Rb d _ h4
 obtain ⟨x5, rfl, w5⟩ := Rb d _ h5
 exact ⟨⟨x0, x1, x2, x3, x4, x5⟩, rfl, w0, w1, w2, w3, w4, w5, trivial⟩
theorem To : PJ Tryz.prog 27 (CL Ak) (Pp Le) := Iy (el := 76) (by kernel_rfl) Ts (fun _ => rfl)
theorem S1 : GV Tryz.prog 29 = some [26, 26, 26, 27] := by kernel_rfl
theorem Tt : PJ Tryz.prog 29 Or Ju := by
 intro d ts h
 obtain ⟨d, h⟩ := Kq S1 h
 obtain ⟨a0, _, rfl, h0, a1, _, rfl, h1, a2, _, rfl, h2, a3, _, rfl, h3, rfl⟩ := h
 obtain ⟨x0, rfl, w0⟩ := PQ d _ h0
 obtain ⟨x1, rfl, w1⟩ := PQ d _ h1
 obtain ⟨x2, rfl, w2⟩ := PQ d _ h2
 obtain ⟨x3, rfl, w3⟩ := To d _ h3
 exact ⟨⟨x0, x1, x2, x3⟩, rfl, w0, w1, w2, w3, trivial⟩
theorem UZ : GV Tryz.prog 45 = some [3, 3, 3] := by kernel_rfl
theorem Tr : PJ Tryz.prog 45 Ac HE := by
 intro d ts h
 obtain ⟨d, h⟩ := Kq UZ h
 obtain ⟨a0, _, rfl, h0, a1, _, rfl, h1, a2, _, rfl, h2, rfl⟩ := h
 obtain ⟨x0, rfl, w0⟩ := Mx d _ h0
 obtain ⟨x1, rfl, w1⟩ := Mx d _ h1
 obtain ⟨x2, rfl, w2⟩ := Mx d _ h2
 exact ⟨⟨x0, x1, x2⟩, rfl, w0, w1, w2, trivial⟩
theorem Tq : PJ Tryz.prog 33 (CL Ac) (Pp HE) := Iy (el := 45) (by kernel_rfl) Tr (fun _ => rfl)
theorem SC (N d : Nat) (plain : ∀ (x0 : Ah) (x1 : List Ab), Ju x0 → (Pp HE) x1 → Ct N x0 x1 = some true) : ∀ Ds, I6 Tryz.prog d [29, 33] Ds → Az Tryz.prog 6 Ds [] (.e (.one (.pure (.val (.bool true))))) := by
 intro Ds h
 obtain ⟨u0, Ds0, rfl, f0, g0⟩ := Kv h
 obtain ⟨x0, rfl, w0⟩ := Tt _ _ f0
 rw [PG S1]
 obtain ⟨u1, Ds1, rfl, f1, g1⟩ := Kv g0
 obtain ⟨x1, rfl, w1⟩ := Tq _ _ f1
 rw [Sp (by kernel_rfl)]
 obtain rfl := Pf g1
 exact H4 N x0 x1 true (plain x0 x1 w0 w1)
end Go.Lift
