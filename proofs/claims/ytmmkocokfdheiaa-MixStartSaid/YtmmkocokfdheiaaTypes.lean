/- Lemmas for MixStartSaid, which YtmmkocokfdheiaaFin10 proves. -/
/- The types of the shallow programs, and how a value of each lies in cells. Written by a program (gen.py). -/
import Derived.Test.YtmmkocokfdheiaaLift27
namespace Go.Lift
def eI64 (n : Int) : List T := [.val (.int .i64 n)]
def eU8 (n : Int) : List T := [.val (.int .u8 n)]
abbrev tB (b : Bool) : T := .val (.bool b)
def eB (b : Bool) : List T := [.val (.bool b)]
def eSl {α : Type} (f : α → List T) (xs : List α) : List T := [.sl (xs.map f)]
theorem injB : Inj eB := ⟨by intro x y h; simpa [eB] using h⟩
theorem injSl {α : Type} {f : α → List T} (h : Inj f) : Inj (eSl f) := ⟨by intro x y hx; simp only [eSl, List.cons.injEq, T.sl.injEq, and_true] at hx; exact inj_map h.inj _ _ hx⟩
structure ApiTable where
  fKind : Int
  fFrom : Int
  fTo : Int
  fAware : Bool
  fOK : List (List Bool)
  fRewrite : List (List Bool)
def eApiTable (x : ApiTable) : List T := [.val (.int .i64 x.fKind), .val (.int .i64 x.fFrom), .val (.int .i64 x.fTo), .val (.bool x.fAware), .sl (x.fOK.map (eSl eB)), .sl (x.fRewrite.map (eSl eB))]
structure ApiProblem where
  fVersions : List Int
  fNow : List Int
  fTarget : List Int
  fTables : List ApiTable
def eApiProblem (x : ApiProblem) : List T := [.sl (x.fVersions.map eI64), .sl (x.fNow.map eI64), .sl (x.fTarget.map eI64), .sl (x.fTables.map eApiTable)]
structure ApiMix where
  fBase : List Int
  fNext : List Int
  fHeld : List Int
def eApiMix (x : ApiMix) : List T := [.sl (x.fBase.map eI64), .sl (x.fNext.map eI64), .sl (x.fHeld.map eU8)]
structure ApiConflict where
  fTable : Int
  fWriter : Int
  fReader : Int
def eApiConflict (x : ApiConflict) : List T := [.val (.int .i64 x.fTable), .val (.int .i64 x.fWriter), .val (.int .i64 x.fReader)]
end Go.Lift
