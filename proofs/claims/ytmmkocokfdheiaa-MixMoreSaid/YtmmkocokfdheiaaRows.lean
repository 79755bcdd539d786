/-
  No cell of these rows narrows 'for every input' (looked for: loops, veiled, ifaces, maps, wideKeys, modest, calm, conditions, laid).
  DERIVED. THE GIVEN ROWS OF THIS SEAT. 8 by the template 'for every input the law returns true; each argument reads behind the call as it read before'; 0 by the template 'total and deterministic' (their statements: YtmmkocokfdheiaaTotals.lean).
  GIVEN WITH THE SEED: the statements are not yours to turn. If you find one false, say at which input.
  Laid BY PROGRAM, IN A SANDBOX (cutbox-rows.mjs): the forced cells as the released guide's own fill.sh prints them over the translation efaefba272481d09… (all of the seat's roots in one cut). By AI agents, Wed Nov 11 2026. No macro, syntax, notation, axiom, sorry.
-/
import Derived.Test.YtmmkocokfdheiaaChecked
import GoSem.Claim
import GoSem.ClaimJoined
import GoSem.ClaimMapViews
import Derived.JoinedTies
import Derived.KernelRfl
namespace Go.Proofs.Ytmmkocokfdheiaa
/- THE CELL 'sum', in the pinned program and in every row, IS THE sha256 OF THE DUMP (.gsa) THAT YtmmkocokfdheiaaProg.lean LOADS. Nothing in Lean hashes anything: it is a label: what it is worth is what the hold of that sum in a sandbox is worth. -/
noncomputable def Try.pinned : Pinned := { name := "ytmmkocokfdheiaa", sum := "efaefba272481d095e70913563bc18ad003480d3a32f97ce1acaf256f445d614", checked := Try.checked }
namespace Rows
def none {H : Type} : Left H := { results := [], args := [] }

/-- 'sheavelaw36.MixConflicts': WHATEVER THE INPUT: true; the input reads as it did. -/
def mixConflictsSpec : ChangeSpec := { name := "mixConflicts", fn := fun _ => fun
  | [d1, d2] => { results := [.lit (.bool true)], args := [d1, d2] }
  | _ => none }
def mixConflictsRow : OpenClaim := { program := "ytmmkocokfdheiaa", sum := "efaefba272481d095e70913563bc18ad003480d3a32f97ce1acaf256f445d614", func := "sheave/sheavelaw36.MixConflicts", spec := "mixConflicts", unfollowed := true, recurses := true, apart := false }
def MixConflictsSaid : Prop := mixConflictsRow.holds Try.pinned (OpenSpec.ofChange mixConflictsSpec)

/-- ITS FALSE NEIGHBOUR: 'it returns false'. Refute it at one input. -/
def mixConflictsWrong : ChangeSpec := { name := "mixConflicts", fn := fun _ => fun
  | [d1, d2] => { results := [.lit (.bool false)], args := [d1, d2] }
  | _ => none }
def MixConflictsWrongFalsely : Prop := mixConflictsRow.holds Try.pinned (OpenSpec.ofChange mixConflictsWrong)

/-- 'sheavelaw36.MixAborts': WHATEVER THE INPUT: true; the input reads as it did. -/
def mixAbortsSpec : ChangeSpec := { name := "mixAborts", fn := fun _ => fun
  | [d1, d2] => { results := [.lit (.bool true)], args := [d1, d2] }
  | _ => none }
def mixAbortsRow : OpenClaim := { program := "ytmmkocokfdheiaa", sum := "efaefba272481d095e70913563bc18ad003480d3a32f97ce1acaf256f445d614", func := "sheave/sheavelaw36.MixAborts", spec := "mixAborts", unfollowed := true, recurses := true, apart := false }
def MixAbortsSaid : Prop := mixAbortsRow.holds Try.pinned (OpenSpec.ofChange mixAbortsSpec)

/-- ITS FALSE NEIGHBOUR: 'it returns false'. Refute it at one input. -/
def mixAbortsWrong : ChangeSpec := { name := "mixAborts", fn := fun _ => fun
  | [d1, d2] => { results := [.lit (.bool false)], args := [d1, d2] }
  | _ => none }
def MixAbortsWrongFalsely : Prop := mixAbortsRow.holds Try.pinned (OpenSpec.ofChange mixAbortsWrong)

/-- 'sheavelaw36.MixAborted': WHATEVER THE INPUT: true; the input reads as it did. -/
def mixAbortedSpec : ChangeSpec := { name := "mixAborted", fn := fun _ => fun
  | [d1, d2] => { results := [.lit (.bool true)], args := [d1, d2] }
  | _ => none }
def mixAbortedRow : OpenClaim := { program := "ytmmkocokfdheiaa", sum := "efaefba272481d095e70913563bc18ad003480d3a32f97ce1acaf256f445d614", func := "sheave/sheavelaw36.MixAborted", spec := "mixAborted", unfollowed := true, recurses := true, apart := false }
def MixAbortedSaid : Prop := mixAbortedRow.holds Try.pinned (OpenSpec.ofChange mixAbortedSpec)

/-- ITS FALSE NEIGHBOUR: 'it returns false'. Refute it at one input. -/
def mixAbortedWrong : ChangeSpec := { name := "mixAborted", fn := fun _ => fun
  | [d1, d2] => { results := [.lit (.bool false)], args := [d1, d2] }
  | _ => none }
def MixAbortedWrongFalsely : Prop := mixAbortedRow.holds Try.pinned (OpenSpec.ofChange mixAbortedWrong)

/-- 'sheavelaw36.MixMore': WHATEVER THE INPUT: true; the input reads as it did. -/
def mixMoreSpec : ChangeSpec := { name := "mixMore", fn := fun _ => fun
  | [d1, d2, d3] => { results := [.lit (.bool true)], args := [d1, d2, d3] }
  | _ => none }
def mixMoreRow : OpenClaim := { program := "ytmmkocokfdheiaa", sum := "efaefba272481d095e70913563bc18ad003480d3a32f97ce1acaf256f445d614", func := "sheave/sheavelaw36.MixMore", spec := "mixMore", unfollowed := true, recurses := true, apart := false }
def MixMoreSaid : Prop := mixMoreRow.holds Try.pinned (OpenSpec.ofChange mixMoreSpec)

/-- ITS FALSE NEIGHBOUR: 'it returns false'. Refute it at one input. -/
def mixMoreWrong : ChangeSpec := { name := "mixMore", fn := fun _ => fun
  | [d1, d2, d3] => { results := [.lit (.bool false)], args := [d1, d2, d3] }
  | _ => none }
def MixMoreWrongFalsely : Prop := mixMoreRow.holds Try.pinned (OpenSpec.ofChange mixMoreWrong)

/-- 'sheavelaw36.MixValid': WHATEVER THE INPUT: true; the input reads as it did. -/
def mixValidSpec : ChangeSpec := { name := "mixValid", fn := fun _ => fun
  | [d1, d2] => { results := [.lit (.bool true)], args := [d1, d2] }
  | _ => none }
def mixValidRow : OpenClaim := { program := "ytmmkocokfdheiaa", sum := "efaefba272481d095e70913563bc18ad003480d3a32f97ce1acaf256f445d614", func := "sheave/sheavelaw36.MixValid", spec := "mixValid", unfollowed := true, recurses := true, apart := false }
def MixValidSaid : Prop := mixValidRow.holds Try.pinned (OpenSpec.ofChange mixValidSpec)

/-- ITS FALSE NEIGHBOUR: 'it returns false'. Refute it at one input. -/
def mixValidWrong : ChangeSpec := { name := "mixValid", fn := fun _ => fun
  | [d1, d2] => { results := [.lit (.bool false)], args := [d1, d2] }
  | _ => none }
def MixValidWrongFalsely : Prop := mixValidRow.holds Try.pinned (OpenSpec.ofChange mixValidWrong)

/-- 'sheavelaw36.MixGoal': WHATEVER THE INPUT: true; the input reads as it did. -/
def mixGoalSpec : ChangeSpec := { name := "mixGoal", fn := fun _ => fun
  | [d1, d2] => { results := [.lit (.bool true)], args := [d1, d2] }
  | _ => none }
def mixGoalRow : OpenClaim := { program := "ytmmkocokfdheiaa", sum := "efaefba272481d095e70913563bc18ad003480d3a32f97ce1acaf256f445d614", func := "sheave/sheavelaw36.MixGoal", spec := "mixGoal", unfollowed := true, recurses := true, apart := false }
def MixGoalSaid : Prop := mixGoalRow.holds Try.pinned (OpenSpec.ofChange mixGoalSpec)

/-- ITS FALSE NEIGHBOUR: 'it returns false'. Refute it at one input. -/
def mixGoalWrong : ChangeSpec := { name := "mixGoal", fn := fun _ => fun
  | [d1, d2] => { results := [.lit (.bool false)], args := [d1, d2] }
  | _ => none }
def MixGoalWrongFalsely : Prop := mixGoalRow.holds Try.pinned (OpenSpec.ofChange mixGoalWrong)

/-- 'sheavelaw36.MixCompare': WHATEVER THE INPUT: true; the input reads as it did. -/
def mixCompareSpec : ChangeSpec := { name := "mixCompare", fn := fun _ => fun
  | [d1, d2, d3] => { results := [.lit (.bool true)], args := [d1, d2, d3] }
  | _ => none }
def mixCompareRow : OpenClaim := { program := "ytmmkocokfdheiaa", sum := "efaefba272481d095e70913563bc18ad003480d3a32f97ce1acaf256f445d614", func := "sheave/sheavelaw36.MixCompare", spec := "mixCompare", unfollowed := true, recurses := true, apart := false }
def MixCompareSaid : Prop := mixCompareRow.holds Try.pinned (OpenSpec.ofChange mixCompareSpec)

/-- ITS FALSE NEIGHBOUR: 'it returns false'. Refute it at one input. -/
def mixCompareWrong : ChangeSpec := { name := "mixCompare", fn := fun _ => fun
  | [d1, d2, d3] => { results := [.lit (.bool false)], args := [d1, d2, d3] }
  | _ => none }
def MixCompareWrongFalsely : Prop := mixCompareRow.holds Try.pinned (OpenSpec.ofChange mixCompareWrong)

/-- 'sheavelaw36.MixStart': WHATEVER THE INPUT: true; the input reads as it did. -/
def mixStartSpec : ChangeSpec := { name := "mixStart", fn := fun _ => fun
  | [d] => { results := [.lit (.bool true)], args := [d] }
  | _ => none }
def mixStartRow : OpenClaim := { program := "ytmmkocokfdheiaa", sum := "efaefba272481d095e70913563bc18ad003480d3a32f97ce1acaf256f445d614", func := "sheave/sheavelaw36.MixStart", spec := "mixStart", unfollowed := true, recurses := true, apart := false }
def MixStartSaid : Prop := mixStartRow.holds Try.pinned (OpenSpec.ofChange mixStartSpec)

/-- ITS FALSE NEIGHBOUR: 'it returns false'. Refute it at one input. -/
def mixStartWrong : ChangeSpec := { name := "mixStart", fn := fun _ => fun
  | [d] => { results := [.lit (.bool false)], args := [d] }
  | _ => none }
def MixStartWrongFalsely : Prop := mixStartRow.holds Try.pinned (OpenSpec.ofChange mixStartWrong)

/- THE SECOND FORM. 'bulk': how many values and letters a reading holds, each counted each time it is reached (what is shared counts as often as it is met; a slice's spare places count too). A statement '..UptoSaid' is the law's where the arguments, and the package variables that the reading takes, are together of bulk at most 1048576: NARROWER than '..Said'. Prove '..Said' where nothing that the law and all that it calls make is longer than what came in: it says more and counts as full. Else prove '..UptoSaid'. A law counts once. -/
mutual
def uptoBulk {H : Type} : DataW H → Nat
  | .lit (.string bytes) => bytes.length + 1
  | .lit _ => 1
  | .nil => 1
  | .ptr d => uptoBulk d + 1
  | .slice elems spare => uptoBulkAll elems + uptoBulkAll spare + 1
  | .agg parts => uptoBulkAll parts + 1
  | .iface _ d => uptoBulk d + 1
  | .map entries => uptoBulkEntries entries + 1
  | .held _ => 1
def uptoBulkAll {H : Type} : List (DataW H) → Nat
  | [] => 0
  | d :: r => uptoBulk d + uptoBulkAll r
def uptoBulkEntries {H : Type} : List (Lit × DataW H) → Nat
  | [] => 0
  | x :: r => uptoBulkEntry x + uptoBulkEntries r
def uptoBulkEntry {H : Type} : Lit × DataW H → Nat
  | (.string bytes, d) => bytes.length + uptoBulk d + 1
  | (_, d) => uptoBulk d + 1
 end
def uptoSmall : (H : Type) → List (DataW H) → Bool := fun _ ds => decide (uptoBulkAll ds ≤ 1048576)
def OpenSpec.upto (s : _root_.Go.ChangeSpec) : _root_.Go.OpenSpec := { _root_.Go.OpenSpec.ofChange s with cond := some uptoSmall }

/-- 'sheavelaw36.MixConflicts', WHERE WHAT IT READS IS OF BULK AT MOST 1048576: true; the input reads as it did. -/
def mixConflictsUptoRow : OpenClaim := { program := "ytmmkocokfdheiaa", sum := "efaefba272481d095e70913563bc18ad003480d3a32f97ce1acaf256f445d614", func := "sheave/sheavelaw36.MixConflicts", spec := "mixConflicts", unfollowed := true, recurses := true, apart := false, narrowed := true }
def MixConflictsUptoSaid : Prop := mixConflictsUptoRow.holds Try.pinned (OpenSpec.upto mixConflictsSpec)

/-- 'sheavelaw36.MixAborts', WHERE WHAT IT READS IS OF BULK AT MOST 1048576: true; the input reads as it did. -/
def mixAbortsUptoRow : OpenClaim := { program := "ytmmkocokfdheiaa", sum := "efaefba272481d095e70913563bc18ad003480d3a32f97ce1acaf256f445d614", func := "sheave/sheavelaw36.MixAborts", spec := "mixAborts", unfollowed := true, recurses := true, apart := false, narrowed := true }
def MixAbortsUptoSaid : Prop := mixAbortsUptoRow.holds Try.pinned (OpenSpec.upto mixAbortsSpec)

/-- 'sheavelaw36.MixAborted', WHERE WHAT IT READS IS OF BULK AT MOST 1048576: true; the input reads as it did. -/
def mixAbortedUptoRow : OpenClaim := { program := "ytmmkocokfdheiaa", sum := "efaefba272481d095e70913563bc18ad003480d3a32f97ce1acaf256f445d614", func := "sheave/sheavelaw36.MixAborted", spec := "mixAborted", unfollowed := true, recurses := true, apart := false, narrowed := true }
def MixAbortedUptoSaid : Prop := mixAbortedUptoRow.holds Try.pinned (OpenSpec.upto mixAbortedSpec)

/-- 'sheavelaw36.MixMore', WHERE WHAT IT READS IS OF BULK AT MOST 1048576: true; the input reads as it did. -/
def mixMoreUptoRow : OpenClaim := { program := "ytmmkocokfdheiaa", sum := "efaefba272481d095e70913563bc18ad003480d3a32f97ce1acaf256f445d614", func := "sheave/sheavelaw36.MixMore", spec := "mixMore", unfollowed := true, recurses := true, apart := false, narrowed := true }
def MixMoreUptoSaid : Prop := mixMoreUptoRow.holds Try.pinned (OpenSpec.upto mixMoreSpec)

/-- 'sheavelaw36.MixValid', WHERE WHAT IT READS IS OF BULK AT MOST 1048576: true; the input reads as it did. -/
def mixValidUptoRow : OpenClaim := { program := "ytmmkocokfdheiaa", sum := "efaefba272481d095e70913563bc18ad003480d3a32f97ce1acaf256f445d614", func := "sheave/sheavelaw36.MixValid", spec := "mixValid", unfollowed := true, recurses := true, apart := false, narrowed := true }
def MixValidUptoSaid : Prop := mixValidUptoRow.holds Try.pinned (OpenSpec.upto mixValidSpec)

/-- 'sheavelaw36.MixGoal', WHERE WHAT IT READS IS OF BULK AT MOST 1048576: true; the input reads as it did. -/
def mixGoalUptoRow : OpenClaim := { program := "ytmmkocokfdheiaa", sum := "efaefba272481d095e70913563bc18ad003480d3a32f97ce1acaf256f445d614", func := "sheave/sheavelaw36.MixGoal", spec := "mixGoal", unfollowed := true, recurses := true, apart := false, narrowed := true }
def MixGoalUptoSaid : Prop := mixGoalUptoRow.holds Try.pinned (OpenSpec.upto mixGoalSpec)

/-- 'sheavelaw36.MixCompare', WHERE WHAT IT READS IS OF BULK AT MOST 1048576: true; the input reads as it did. -/
def mixCompareUptoRow : OpenClaim := { program := "ytmmkocokfdheiaa", sum := "efaefba272481d095e70913563bc18ad003480d3a32f97ce1acaf256f445d614", func := "sheave/sheavelaw36.MixCompare", spec := "mixCompare", unfollowed := true, recurses := true, apart := false, narrowed := true }
def MixCompareUptoSaid : Prop := mixCompareUptoRow.holds Try.pinned (OpenSpec.upto mixCompareSpec)

/-- 'sheavelaw36.MixStart', WHERE WHAT IT READS IS OF BULK AT MOST 1048576: true; the input reads as it did. -/
def mixStartUptoRow : OpenClaim := { program := "ytmmkocokfdheiaa", sum := "efaefba272481d095e70913563bc18ad003480d3a32f97ce1acaf256f445d614", func := "sheave/sheavelaw36.MixStart", spec := "mixStart", unfollowed := true, recurses := true, apart := false, narrowed := true }
def MixStartUptoSaid : Prop := mixStartUptoRow.holds Try.pinned (OpenSpec.upto mixStartSpec)

end Rows
end Go.Proofs.Ytmmkocokfdheiaa
