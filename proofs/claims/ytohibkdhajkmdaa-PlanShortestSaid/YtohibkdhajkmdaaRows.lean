/-
  No cell of these rows narrows 'for every input' (looked for: loops, veiled, ifaces, maps, wideKeys, modest, calm, conditions, laid).
  DERIVED. THE GIVEN ROWS OF THIS SEAT. 8 by the template 'for every input the law returns true; each argument reads behind the call as it read before'; 0 by the template 'total and deterministic' (their statements: YtohibkdhajkmdaaTotals.lean).
  GIVEN WITH THE SEED: the statements are not yours to turn. If you find one false, say at which input.
  Laid BY PROGRAM, IN A SANDBOX (cutbox-rows.mjs): the forced cells as the released guide's own fill.sh prints them over the translation 3bbf4a1cf332d685… (all of the seat's roots in one cut). By AI agents, Wed Nov 11 2026. No macro, syntax, notation, axiom, sorry.
-/
import Derived.Test.YtohibkdhajkmdaaChecked
import GoSem.Claim
import GoSem.ClaimJoined
import GoSem.ClaimMapViews
import Derived.JoinedTies
import Derived.KernelRfl
namespace Go.Proofs.Ytohibkdhajkmdaa
/- THE CELL 'sum', in the pinned program and in every row, IS THE sha256 OF THE DUMP (.gsa) THAT YtohibkdhajkmdaaProg.lean LOADS. Nothing in Lean hashes anything: it is a label: what it is worth is what the hold of that sum in a sandbox is worth. -/
noncomputable def Try.pinned : Pinned := { name := "ytohibkdhajkmdaa", sum := "3bbf4a1cf332d6855e9778ad0a8c2bc6a3233a9203bfad130ec8736201a5339b", checked := Try.checked }
namespace Rows
def none {H : Type} : Left H := { results := [], args := [] }

/-- 'sheavelaw39.PlanFind': WHATEVER THE INPUT: true; the input reads as it did. -/
def planFindSpec : ChangeSpec := { name := "planFind", fn := fun _ => fun
  | [d] => { results := [.lit (.bool true)], args := [d] }
  | _ => none }
def planFindRow : OpenClaim := { program := "ytohibkdhajkmdaa", sum := "3bbf4a1cf332d6855e9778ad0a8c2bc6a3233a9203bfad130ec8736201a5339b", func := "sheave/sheavelaw39.PlanFind", spec := "planFind", unfollowed := true, recurses := true, apart := false }
def PlanFindSaid : Prop := planFindRow.holds Try.pinned (OpenSpec.ofChange planFindSpec)

/-- ITS FALSE NEIGHBOUR: 'it returns false'. Refute it at one input. -/
def planFindWrong : ChangeSpec := { name := "planFind", fn := fun _ => fun
  | [d] => { results := [.lit (.bool false)], args := [d] }
  | _ => none }
def PlanFindWrongFalsely : Prop := planFindRow.holds Try.pinned (OpenSpec.ofChange planFindWrong)

/-- 'sheavelaw39.PlanCheck': WHATEVER THE INPUT: true; the input reads as it did. -/
def planCheckSpec : ChangeSpec := { name := "planCheck", fn := fun _ => fun
  | [d1, d2] => { results := [.lit (.bool true)], args := [d1, d2] }
  | _ => none }
def planCheckRow : OpenClaim := { program := "ytohibkdhajkmdaa", sum := "3bbf4a1cf332d6855e9778ad0a8c2bc6a3233a9203bfad130ec8736201a5339b", func := "sheave/sheavelaw39.PlanCheck", spec := "planCheck", unfollowed := true, recurses := true, apart := false }
def PlanCheckSaid : Prop := planCheckRow.holds Try.pinned (OpenSpec.ofChange planCheckSpec)

/-- ITS FALSE NEIGHBOUR: 'it returns false'. Refute it at one input. -/
def planCheckWrong : ChangeSpec := { name := "planCheck", fn := fun _ => fun
  | [d1, d2] => { results := [.lit (.bool false)], args := [d1, d2] }
  | _ => none }
def PlanCheckWrongFalsely : Prop := planCheckRow.holds Try.pinned (OpenSpec.ofChange planCheckWrong)

/-- 'sheavelaw39.PlanFailure': WHATEVER THE INPUT: true; the input reads as it did. -/
def planFailureSpec : ChangeSpec := { name := "planFailure", fn := fun _ => fun
  | [d1, d2] => { results := [.lit (.bool true)], args := [d1, d2] }
  | _ => none }
def planFailureRow : OpenClaim := { program := "ytohibkdhajkmdaa", sum := "3bbf4a1cf332d6855e9778ad0a8c2bc6a3233a9203bfad130ec8736201a5339b", func := "sheave/sheavelaw39.PlanFailure", spec := "planFailure", unfollowed := true, recurses := true, apart := false }
def PlanFailureSaid : Prop := planFailureRow.holds Try.pinned (OpenSpec.ofChange planFailureSpec)

/-- ITS FALSE NEIGHBOUR: 'it returns false'. Refute it at one input. -/
def planFailureWrong : ChangeSpec := { name := "planFailure", fn := fun _ => fun
  | [d1, d2] => { results := [.lit (.bool false)], args := [d1, d2] }
  | _ => none }
def PlanFailureWrongFalsely : Prop := planFailureRow.holds Try.pinned (OpenSpec.ofChange planFailureWrong)

/-- 'sheavelaw39.PlanShortest': WHATEVER THE INPUT: true; the input reads as it did. -/
def planShortestSpec : ChangeSpec := { name := "planShortest", fn := fun _ => fun
  | [d1, d2] => { results := [.lit (.bool true)], args := [d1, d2] }
  | _ => none }
def planShortestRow : OpenClaim := { program := "ytohibkdhajkmdaa", sum := "3bbf4a1cf332d6855e9778ad0a8c2bc6a3233a9203bfad130ec8736201a5339b", func := "sheave/sheavelaw39.PlanShortest", spec := "planShortest", unfollowed := true, recurses := true, apart := false }
def PlanShortestSaid : Prop := planShortestRow.holds Try.pinned (OpenSpec.ofChange planShortestSpec)

/-- ITS FALSE NEIGHBOUR: 'it returns false'. Refute it at one input. -/
def planShortestWrong : ChangeSpec := { name := "planShortest", fn := fun _ => fun
  | [d1, d2] => { results := [.lit (.bool false)], args := [d1, d2] }
  | _ => none }
def PlanShortestWrongFalsely : Prop := planShortestRow.holds Try.pinned (OpenSpec.ofChange planShortestWrong)

/-- 'sheavelaw39.PlanFrom': WHATEVER THE INPUT: true; the input reads as it did. -/
def planFromSpec : ChangeSpec := { name := "planFrom", fn := fun _ => fun
  | [d1, d2] => { results := [.lit (.bool true)], args := [d1, d2] }
  | _ => none }
def planFromRow : OpenClaim := { program := "ytohibkdhajkmdaa", sum := "3bbf4a1cf332d6855e9778ad0a8c2bc6a3233a9203bfad130ec8736201a5339b", func := "sheave/sheavelaw39.PlanFrom", spec := "planFrom", unfollowed := true, recurses := true, apart := false }
def PlanFromSaid : Prop := planFromRow.holds Try.pinned (OpenSpec.ofChange planFromSpec)

/-- ITS FALSE NEIGHBOUR: 'it returns false'. Refute it at one input. -/
def planFromWrong : ChangeSpec := { name := "planFrom", fn := fun _ => fun
  | [d1, d2] => { results := [.lit (.bool false)], args := [d1, d2] }
  | _ => none }
def PlanFromWrongFalsely : Prop := planFromRow.holds Try.pinned (OpenSpec.ofChange planFromWrong)

/-- 'sheavelaw39.PlanRest': WHATEVER THE INPUT: true; the input reads as it did. -/
def planRestSpec : ChangeSpec := { name := "planRest", fn := fun _ => fun
  | [d1, d2] => { results := [.lit (.bool true)], args := [d1, d2] }
  | _ => none }
def planRestRow : OpenClaim := { program := "ytohibkdhajkmdaa", sum := "3bbf4a1cf332d6855e9778ad0a8c2bc6a3233a9203bfad130ec8736201a5339b", func := "sheave/sheavelaw39.PlanRest", spec := "planRest", unfollowed := true, recurses := true, apart := false }
def PlanRestSaid : Prop := planRestRow.holds Try.pinned (OpenSpec.ofChange planRestSpec)

/-- ITS FALSE NEIGHBOUR: 'it returns false'. Refute it at one input. -/
def planRestWrong : ChangeSpec := { name := "planRest", fn := fun _ => fun
  | [d1, d2] => { results := [.lit (.bool false)], args := [d1, d2] }
  | _ => none }
def PlanRestWrongFalsely : Prop := planRestRow.holds Try.pinned (OpenSpec.ofChange planRestWrong)

/-- 'sheavelaw39.PlanTrim': WHATEVER THE INPUT: true; the input reads as it did. -/
def planTrimSpec : ChangeSpec := { name := "planTrim", fn := fun _ => fun
  | [d1, d2] => { results := [.lit (.bool true)], args := [d1, d2] }
  | _ => none }
def planTrimRow : OpenClaim := { program := "ytohibkdhajkmdaa", sum := "3bbf4a1cf332d6855e9778ad0a8c2bc6a3233a9203bfad130ec8736201a5339b", func := "sheave/sheavelaw39.PlanTrim", spec := "planTrim", unfollowed := true, recurses := true, apart := false }
def PlanTrimSaid : Prop := planTrimRow.holds Try.pinned (OpenSpec.ofChange planTrimSpec)

/-- ITS FALSE NEIGHBOUR: 'it returns false'. Refute it at one input. -/
def planTrimWrong : ChangeSpec := { name := "planTrim", fn := fun _ => fun
  | [d1, d2] => { results := [.lit (.bool false)], args := [d1, d2] }
  | _ => none }
def PlanTrimWrongFalsely : Prop := planTrimRow.holds Try.pinned (OpenSpec.ofChange planTrimWrong)

/-- 'sheavelaw39.PlanErrors': WHATEVER THE INPUT: true; the input reads as it did. -/
def planErrorsSpec : ChangeSpec := { name := "planErrors", fn := fun _ => fun
  | [d1, d2] => { results := [.lit (.bool true)], args := [d1, d2] }
  | _ => none }
def planErrorsRow : OpenClaim := { program := "ytohibkdhajkmdaa", sum := "3bbf4a1cf332d6855e9778ad0a8c2bc6a3233a9203bfad130ec8736201a5339b", func := "sheave/sheavelaw39.PlanErrors", spec := "planErrors", unfollowed := true, recurses := true, apart := false }
def PlanErrorsSaid : Prop := planErrorsRow.holds Try.pinned (OpenSpec.ofChange planErrorsSpec)

/-- ITS FALSE NEIGHBOUR: 'it returns false'. Refute it at one input. -/
def planErrorsWrong : ChangeSpec := { name := "planErrors", fn := fun _ => fun
  | [d1, d2] => { results := [.lit (.bool false)], args := [d1, d2] }
  | _ => none }
def PlanErrorsWrongFalsely : Prop := planErrorsRow.holds Try.pinned (OpenSpec.ofChange planErrorsWrong)

/- THE SECOND FORM. 'bulk': how many values and letters a reading holds, each counted each time it is reached (what is shared counts as often as it is met; a slice's spare places count too). A statement '..UptoSaid' is the law's where the arguments, and the package variables that the reading takes, are together of bulk at most 1048576: NARROWER than '..Said'. Prove '..Said' where nothing that the law and all that it calls make is longer than what came in: it says more and counts as full. Else prove '..UptoSaid'. A law counts once. -/
mutual
def uptoBulk {H : Type} : DataW H → Nat
  | .lit (.string bytes) => bytes.length + 1
  | .lit _ => 1
  | .nil => 1
  | .ptr d => uptoBulk d + 1
  | .slice elems spare => uptoBulkAll elems + uptoBulkAll spare + 1
  | .agg parts => uptoBulkAll parts + 1
  | .iface _ d => uptoBulk d + 1
  | .map entries => uptoBulkEntries entries + 1
  | .held _ => 1
def uptoBulkAll {H : Type} : List (DataW H) → Nat
  | [] => 0
  | d :: r => uptoBulk d + uptoBulkAll r
def uptoBulkEntries {H : Type} : List (Lit × DataW H) → Nat
  | [] => 0
  | x :: r => uptoBulkEntry x + uptoBulkEntries r
def uptoBulkEntry {H : Type} : Lit × DataW H → Nat
  | (.string bytes, d) => bytes.length + uptoBulk d + 1
  | (_, d) => uptoBulk d + 1
 end
def uptoSmall : (H : Type) → List (DataW H) → Bool := fun _ ds => decide (uptoBulkAll ds ≤ 1048576)
def OpenSpec.upto (s : _root_.Go.ChangeSpec) : _root_.Go.OpenSpec := { _root_.Go.OpenSpec.ofChange s with cond := some uptoSmall }

/-- 'sheavelaw39.PlanFind', WHERE WHAT IT READS IS OF BULK AT MOST 1048576: true; the input reads as it did. -/
def planFindUptoRow : OpenClaim := { program := "ytohibkdhajkmdaa", sum := "3bbf4a1cf332d6855e9778ad0a8c2bc6a3233a9203bfad130ec8736201a5339b", func := "sheave/sheavelaw39.PlanFind", spec := "planFind", unfollowed := true, recurses := true, apart := false, narrowed := true }
def PlanFindUptoSaid : Prop := planFindUptoRow.holds Try.pinned (OpenSpec.upto planFindSpec)

/-- 'sheavelaw39.PlanCheck', WHERE WHAT IT READS IS OF BULK AT MOST 1048576: true; the input reads as it did. -/
def planCheckUptoRow : OpenClaim := { program := "ytohibkdhajkmdaa", sum := "3bbf4a1cf332d6855e9778ad0a8c2bc6a3233a9203bfad130ec8736201a5339b", func := "sheave/sheavelaw39.PlanCheck", spec := "planCheck", unfollowed := true, recurses := true, apart := false, narrowed := true }
def PlanCheckUptoSaid : Prop := planCheckUptoRow.holds Try.pinned (OpenSpec.upto planCheckSpec)

/-- 'sheavelaw39.PlanFailure', WHERE WHAT IT READS IS OF BULK AT MOST 1048576: true; the input reads as it did. -/
def planFailureUptoRow : OpenClaim := { program := "ytohibkdhajkmdaa", sum := "3bbf4a1cf332d6855e9778ad0a8c2bc6a3233a9203bfad130ec8736201a5339b", func := "sheave/sheavelaw39.PlanFailure", spec := "planFailure", unfollowed := true, recurses := true, apart := false, narrowed := true }
def PlanFailureUptoSaid : Prop := planFailureUptoRow.holds Try.pinned (OpenSpec.upto planFailureSpec)

/-- 'sheavelaw39.PlanShortest', WHERE WHAT IT READS IS OF BULK AT MOST 1048576: true; the input reads as it did. -/
def planShortestUptoRow : OpenClaim := { program := "ytohibkdhajkmdaa", sum := "3bbf4a1cf332d6855e9778ad0a8c2bc6a3233a9203bfad130ec8736201a5339b", func := "sheave/sheavelaw39.PlanShortest", spec := "planShortest", unfollowed := true, recurses := true, apart := false, narrowed := true }
def PlanShortestUptoSaid : Prop := planShortestUptoRow.holds Try.pinned (OpenSpec.upto planShortestSpec)

/-- 'sheavelaw39.PlanFrom', WHERE WHAT IT READS IS OF BULK AT MOST 1048576: true; the input reads as it did. -/
def planFromUptoRow : OpenClaim := { program := "ytohibkdhajkmdaa", sum := "3bbf4a1cf332d6855e9778ad0a8c2bc6a3233a9203bfad130ec8736201a5339b", func := "sheave/sheavelaw39.PlanFrom", spec := "planFrom", unfollowed := true, recurses := true, apart := false, narrowed := true }
def PlanFromUptoSaid : Prop := planFromUptoRow.holds Try.pinned (OpenSpec.upto planFromSpec)

/-- 'sheavelaw39.PlanRest', WHERE WHAT IT READS IS OF BULK AT MOST 1048576: true; the input reads as it did. -/
def planRestUptoRow : OpenClaim := { program := "ytohibkdhajkmdaa", sum := "3bbf4a1cf332d6855e9778ad0a8c2bc6a3233a9203bfad130ec8736201a5339b", func := "sheave/sheavelaw39.PlanRest", spec := "planRest", unfollowed := true, recurses := true, apart := false, narrowed := true }
def PlanRestUptoSaid : Prop := planRestUptoRow.holds Try.pinned (OpenSpec.upto planRestSpec)

/-- 'sheavelaw39.PlanTrim', WHERE WHAT IT READS IS OF BULK AT MOST 1048576: true; the input reads as it did. -/
def planTrimUptoRow : OpenClaim := { program := "ytohibkdhajkmdaa", sum := "3bbf4a1cf332d6855e9778ad0a8c2bc6a3233a9203bfad130ec8736201a5339b", func := "sheave/sheavelaw39.PlanTrim", spec := "planTrim", unfollowed := true, recurses := true, apart := false, narrowed := true }
def PlanTrimUptoSaid : Prop := planTrimUptoRow.holds Try.pinned (OpenSpec.upto planTrimSpec)

/-- 'sheavelaw39.PlanErrors', WHERE WHAT IT READS IS OF BULK AT MOST 1048576: true; the input reads as it did. -/
def planErrorsUptoRow : OpenClaim := { program := "ytohibkdhajkmdaa", sum := "3bbf4a1cf332d6855e9778ad0a8c2bc6a3233a9203bfad130ec8736201a5339b", func := "sheave/sheavelaw39.PlanErrors", spec := "planErrors", unfollowed := true, recurses := true, apart := false, narrowed := true }
def PlanErrorsUptoSaid : Prop := planErrorsUptoRow.holds Try.pinned (OpenSpec.upto planErrorsSpec)

end Rows
end Go.Proofs.Ytohibkdhajkmdaa
