/- Lemmas for MixValidSaid, which YtmmkocokfdheiaaFin7 proves. -/
/- The types of the shallow programs, and how a value of each lies in cells. Written by a program (gen.py). -/
import Derived.Test.YtmmkocokfdheiaaLift21
namespace Go.Lift
def eI64 (n : Int) : List T := [.val (.int .i64 n)]
def eU8 (n : Int) : List T := [.val (.int .u8 n)]
def eU16 (n : Int) : List T := [.val (.int .u16 n)]
def eI32 (n : Int) : List T := [.val (.int .i32 n)]
def eU32 (n : Int) : List T := [.val (.int .u32 n)]
def eU64 (n : Int) : List T := [.val (.int .u64 n)]
abbrev tI64 (n : Int) : T := .val (.int .i64 n)
abbrev tU8 (n : Int) : T := .val (.int .u8 n)
abbrev tU16 (n : Int) : T := .val (.int .u16 n)
abbrev tI32 (n : Int) : T := .val (.int .i32 n)
abbrev tU32 (n : Int) : T := .val (.int .u32 n)
abbrev tU64 (n : Int) : T := .val (.int .u64 n)
abbrev tB (b : Bool) : T := .val (.bool b)
abbrev tS (b : ByteArray) : T := .val (.string b)
def eB (b : Bool) : List T := [.val (.bool b)]
def eS (s : ByteArray) : List T := [.val (.string s)]
def eSl {α : Type} (f : α → List T) (xs : List α) : List T := [.sl (xs.map f)]
theorem injI64 : Inj eI64 := ⟨by intro x y h; simpa [eI64] using h⟩
theorem injU8 : Inj eU8 := ⟨by intro x y h; simpa [eU8] using h⟩
theorem injU16 : Inj eU16 := ⟨by intro x y h; simpa [eU16] using h⟩
theorem injI32 : Inj eI32 := ⟨by intro x y h; simpa [eI32] using h⟩
theorem injU32 : Inj eU32 := ⟨by intro x y h; simpa [eU32] using h⟩
theorem injU64 : Inj eU64 := ⟨by intro x y h; simpa [eU64] using h⟩
theorem injB : Inj eB := ⟨by intro x y h; simpa [eB] using h⟩
theorem injS : Inj eS := ⟨by intro x y h; simpa [eS] using h⟩
theorem injSl {α : Type} {f : α → List T} (h : Inj f) : Inj (eSl f) := ⟨by intro x y hx; simp only [eSl, List.cons.injEq, T.sl.injEq, and_true] at hx; exact inj_map h.inj _ _ hx⟩
structure Sheaveref35Link where
  fKind : Int
  fFrom : Int
  fTo : Int
  fAware : Bool
  fBad : Int
  fLost : Int
def eSheaveref35Link (x : Sheaveref35Link) : List T := [.val (.int .u8 x.fKind), .val (.int .u8 x.fFrom), .val (.int .u8 x.fTo), .val (.bool x.fAware), .val (.int .u16 x.fBad), .val (.int .u16 x.fLost)]
structure Sheaveref35Draft where
  fVersions : List Int
  fNow : List Int
  fTarget : List Int
  fLinks : List Sheaveref35Link
def eSheaveref35Draft (x : Sheaveref35Draft) : List T := [.sl (x.fVersions.map eU8), .sl (x.fNow.map eU8), .sl (x.fTarget.map eU8), .sl (x.fLinks.map eSheaveref35Link)]
structure Sheaveref36Draft where
  fBase : List Int
  fNext : List Int
  fHeld : List Int
def eSheaveref36Draft (x : Sheaveref36Draft) : List T := [.sl (x.fBase.map eU8), .sl (x.fNext.map eU8), .sl (x.fHeld.map eU8)]
structure ApiTable where
  fKind : Int
  fFrom : Int
  fTo : Int
  fAware : Bool
  fOK : List (List Bool)
  fRewrite : List (List Bool)
def eApiTable (x : ApiTable) : List T := [.val (.int .i64 x.fKind), .val (.int .i64 x.fFrom), .val (.int .i64 x.fTo), .val (.bool x.fAware), .sl (x.fOK.map (eSl eB)), .sl (x.fRewrite.map (eSl eB))]
structure ApiProblem where
  fVersions : List Int
  fNow : List Int
  fTarget : List Int
  fTables : List ApiTable
def eApiProblem (x : ApiProblem) : List T := [.sl (x.fVersions.map eI64), .sl (x.fNow.map eI64), .sl (x.fTarget.map eI64), .sl (x.fTables.map eApiTable)]
structure ApiMix where
  fBase : List Int
  fNext : List Int
  fHeld : List Int
def eApiMix (x : ApiMix) : List T := [.sl (x.fBase.map eI64), .sl (x.fNext.map eI64), .sl (x.fHeld.map eU8)]
structure ApiConflict where
  fTable : Int
  fWriter : Int
  fReader : Int
def eApiConflict (x : ApiConflict) : List T := [.val (.int .i64 x.fTable), .val (.int .i64 x.fWriter), .val (.int .i64 x.fReader)]
end Go.Lift
