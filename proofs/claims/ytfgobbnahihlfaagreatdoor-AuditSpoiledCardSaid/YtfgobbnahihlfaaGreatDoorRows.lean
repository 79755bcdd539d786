/-
  NARROWER THAN 'FOR EVERY INPUT', by the rows' own cells (each row's printed sentence says how): AuditFirst: laid · AuditMix: laid · AuditFormat: laid · AuditCorrect: laid · AuditLonger: laid · AuditComplete: laid · AuditParts: laid · AuditSpoiled: laid.
  DERIVED. THE GIVEN ROWS OF THIS SEAT. 8 by the template 'for every input the law returns true; each argument reads behind the call as it read before'; 0 by the template 'total and deterministic' (their statements: YtfgobbnahihlfaaGreatDoorTotals.lean).
  GIVEN WITH THE SEED: the statements are not yours to turn. If you find one false, say at which input.
  Laid BY PROGRAM, IN A SANDBOX (cutbox-rows.mjs): the forced cells as the released guide's own fill.sh prints them over the translation 1e456fa664a98fd2… (all of the seat's roots in one cut). By AI agents, Wed Nov 11 2026. No macro, syntax, notation, axiom, sorry.
-/
import Derived.Test.YtfgobbnahihlfaaGreatDoorChecked
import GoSem.Claim
import GoSem.ClaimJoined
import GoSem.ClaimMapViews
import Derived.JoinedTies
import Derived.KernelRfl
namespace Go.Proofs.YtfgobbnahihlfaaGreatDoor
/- THE CELL 'sum', in the pinned program and in every row, IS THE sha256 OF THE DUMP (.gsa) THAT YtfgobbnahihlfaaGreatDoorProg.lean LOADS. Nothing in Lean hashes anything: it is a label: what it is worth is what the hold of that sum in a sandbox is worth. -/
noncomputable def Tryz.pinned : Pinned := { name := "ytfgobbnahihlfaagreatdoor", sum := "1e456fa664a98fd2e38ae897233213e686bfffd4101c6208e48769dbc6748729", checked := Tryz.checked }
namespace Rows
def none {H : Type} : Left H := { results := [], args := [] }

/- WHAT THE LISTED PACKAGE-LEVEL VARIABLES READ AS WHEN THE CALL BEGINS. Each datum BY PROGRAM (the guide's laid-datum.mjs) off the statement by which the dump's own 'gosem.cut.vars' lays the variable. In a bare row this is a premise. The card (YtfgobbnahihlfaaGreatDoorCards.lean) ties it to the program's text. -/
def laid_math_bits_deBruijn32tab {H : Type} : DataW H := .agg [.lit (.int .u8 0), .lit (.int .u8 1), .lit (.int .u8 28), .lit (.int .u8 2), .lit (.int .u8 29), .lit (.int .u8 14), .lit (.int .u8 24), .lit (.int .u8 3), .lit (.int .u8 30), .lit (.int .u8 22), .lit (.int .u8 20), .lit (.int .u8 15), .lit (.int .u8 25), .lit (.int .u8 17), .lit (.int .u8 4), .lit (.int .u8 8), .lit (.int .u8 31), .lit (.int .u8 27), .lit (.int .u8 13), .lit (.int .u8 23), .lit (.int .u8 21), .lit (.int .u8 19), .lit (.int .u8 16), .lit (.int .u8 7), .lit (.int .u8 26), .lit (.int .u8 12), .lit (.int .u8 18), .lit (.int .u8 6), .lit (.int .u8 11), .lit (.int .u8 5), .lit (.int .u8 10), .lit (.int .u8 9)]
def laid_math_bits_deBruijn64tab {H : Type} : DataW H := .agg [.lit (.int .u8 0), .lit (.int .u8 1), .lit (.int .u8 56), .lit (.int .u8 2), .lit (.int .u8 57), .lit (.int .u8 49), .lit (.int .u8 28), .lit (.int .u8 3), .lit (.int .u8 61), .lit (.int .u8 58), .lit (.int .u8 42), .lit (.int .u8 50), .lit (.int .u8 38), .lit (.int .u8 29), .lit (.int .u8 17), .lit (.int .u8 4), .lit (.int .u8 62), .lit (.int .u8 47), .lit (.int .u8 59), .lit (.int .u8 36), .lit (.int .u8 45), .lit (.int .u8 43), .lit (.int .u8 51), .lit (.int .u8 22), .lit (.int .u8 53), .lit (.int .u8 39), .lit (.int .u8 33), .lit (.int .u8 30), .lit (.int .u8 24), .lit (.int .u8 18), .lit (.int .u8 12), .lit (.int .u8 5), .lit (.int .u8 63), .lit (.int .u8 55), .lit (.int .u8 48), .lit (.int .u8 27), .lit (.int .u8 60), .lit (.int .u8 41), .lit (.int .u8 37), .lit (.int .u8 16), .lit (.int .u8 46), .lit (.int .u8 35), .lit (.int .u8 44), .lit (.int .u8 21), .lit (.int .u8 52), .lit (.int .u8 32), .lit (.int .u8 23), .lit (.int .u8 11), .lit (.int .u8 54), .lit (.int .u8 26), .lit (.int .u8 40), .lit (.int .u8 15), .lit (.int .u8 34), .lit (.int .u8 20), .lit (.int .u8 31), .lit (.int .u8 10), .lit (.int .u8 25), .lit (.int .u8 14), .lit (.int .u8 19), .lit (.int .u8 9), .lit (.int .u8 13), .lit (.int .u8 8), .lit (.int .u8 7), .lit (.int .u8 6)]
def laid_internal_strconv_uint64pow10 {H : Type} : DataW H := .agg [.lit (.int .u64 1), .lit (.int .u64 10), .lit (.int .u64 100), .lit (.int .u64 1000), .lit (.int .u64 10000), .lit (.int .u64 100000), .lit (.int .u64 1000000), .lit (.int .u64 10000000), .lit (.int .u64 100000000), .lit (.int .u64 1000000000), .lit (.int .u64 10000000000), .lit (.int .u64 100000000000), .lit (.int .u64 1000000000000), .lit (.int .u64 10000000000000), .lit (.int .u64 100000000000000), .lit (.int .u64 1000000000000000), .lit (.int .u64 10000000000000000), .lit (.int .u64 100000000000000000), .lit (.int .u64 1000000000000000000), .lit (.int .u64 10000000000000000000)]

/-- 'sheavelaw57.AuditFirst': WHATEVER THE INPUT: true; the input reads as it did. -/
def auditFirstSpec : ChangeSpec := { name := "auditFirst", fn := fun _ => fun
  | [d] => { results := [.lit (.bool true)], args := [d] }
  | _ => none }
def auditFirstRow : OpenClaim := { program := "ytfgobbnahihlfaagreatdoor", sum := "1e456fa664a98fd2e38ae897233213e686bfffd4101c6208e48769dbc6748729", func := "sheave/sheavelaw57.AuditFirst", spec := "auditFirst", inPlace := ["internal/abi.NoEscape"], unfollowed := true, recurses := true, named := ["internal/strconv.uint64pow10", "math/bits.deBruijn32tab", "math/bits.deBruijn64tab"], apart := false, laid := [("math/bits.deBruijn32tab", laid_math_bits_deBruijn32tab), ("math/bits.deBruijn64tab", laid_math_bits_deBruijn64tab), ("internal/strconv.uint64pow10", laid_internal_strconv_uint64pow10)] }
def AuditFirstSaid : Prop := auditFirstRow.holds Tryz.pinned (OpenSpec.ofChange auditFirstSpec)

/-- ITS FALSE NEIGHBOUR: 'it returns false'. Refute it at one input. -/
def auditFirstWrong : ChangeSpec := { name := "auditFirst", fn := fun _ => fun
  | [d] => { results := [.lit (.bool false)], args := [d] }
  | _ => none }
def AuditFirstWrongFalsely : Prop := auditFirstRow.holds Tryz.pinned (OpenSpec.ofChange auditFirstWrong)

/-- 'sheavelaw57.AuditMix': WHATEVER THE INPUT: true; the input reads as it did. -/
def auditMixSpec : ChangeSpec := { name := "auditMix", fn := fun _ => fun
  | [d] => { results := [.lit (.bool true)], args := [d] }
  | _ => none }
def auditMixRow : OpenClaim := { program := "ytfgobbnahihlfaagreatdoor", sum := "1e456fa664a98fd2e38ae897233213e686bfffd4101c6208e48769dbc6748729", func := "sheave/sheavelaw57.AuditMix", spec := "auditMix", inPlace := ["internal/abi.NoEscape"], unfollowed := true, recurses := true, named := ["internal/strconv.uint64pow10", "math/bits.deBruijn32tab", "math/bits.deBruijn64tab"], apart := false, laid := [("math/bits.deBruijn32tab", laid_math_bits_deBruijn32tab), ("math/bits.deBruijn64tab", laid_math_bits_deBruijn64tab), ("internal/strconv.uint64pow10", laid_internal_strconv_uint64pow10)] }
def AuditMixSaid : Prop := auditMixRow.holds Tryz.pinned (OpenSpec.ofChange auditMixSpec)

/-- ITS FALSE NEIGHBOUR: 'it returns false'. Refute it at one input. -/
def auditMixWrong : ChangeSpec := { name := "auditMix", fn := fun _ => fun
  | [d] => { results := [.lit (.bool false)], args := [d] }
  | _ => none }
def AuditMixWrongFalsely : Prop := auditMixRow.holds Tryz.pinned (OpenSpec.ofChange auditMixWrong)

/-- 'sheavelaw57.AuditFormat': WHATEVER THE INPUT: true; the input reads as it did. -/
def auditFormatSpec : ChangeSpec := { name := "auditFormat", fn := fun _ => fun
  | [d1, d2, d3] => { results := [.lit (.bool true)], args := [d1, d2, d3] }
  | _ => none }
def auditFormatRow : OpenClaim := { program := "ytfgobbnahihlfaagreatdoor", sum := "1e456fa664a98fd2e38ae897233213e686bfffd4101c6208e48769dbc6748729", func := "sheave/sheavelaw57.AuditFormat", spec := "auditFormat", inPlace := ["internal/abi.NoEscape"], unfollowed := true, recurses := true, named := ["internal/strconv.uint64pow10", "math/bits.deBruijn32tab", "math/bits.deBruijn64tab"], apart := false, laid := [("math/bits.deBruijn32tab", laid_math_bits_deBruijn32tab), ("math/bits.deBruijn64tab", laid_math_bits_deBruijn64tab), ("internal/strconv.uint64pow10", laid_internal_strconv_uint64pow10)] }
def AuditFormatSaid : Prop := auditFormatRow.holds Tryz.pinned (OpenSpec.ofChange auditFormatSpec)

/-- ITS FALSE NEIGHBOUR: 'it returns false'. Refute it at one input. -/
def auditFormatWrong : ChangeSpec := { name := "auditFormat", fn := fun _ => fun
  | [d1, d2, d3] => { results := [.lit (.bool false)], args := [d1, d2, d3] }
  | _ => none }
def AuditFormatWrongFalsely : Prop := auditFormatRow.holds Tryz.pinned (OpenSpec.ofChange auditFormatWrong)

/-- 'sheavelaw57.AuditCorrect': WHATEVER THE INPUT: true; the input reads as it did. -/
def auditCorrectSpec : ChangeSpec := { name := "auditCorrect", fn := fun _ => fun
  | [d1, d2] => { results := [.lit (.bool true)], args := [d1, d2] }
  | _ => none }
def auditCorrectRow : OpenClaim := { program := "ytfgobbnahihlfaagreatdoor", sum := "1e456fa664a98fd2e38ae897233213e686bfffd4101c6208e48769dbc6748729", func := "sheave/sheavelaw57.AuditCorrect", spec := "auditCorrect", inPlace := ["internal/abi.NoEscape"], unfollowed := true, recurses := true, named := ["internal/strconv.uint64pow10", "math/bits.deBruijn32tab", "math/bits.deBruijn64tab"], apart := false, laid := [("math/bits.deBruijn32tab", laid_math_bits_deBruijn32tab), ("math/bits.deBruijn64tab", laid_math_bits_deBruijn64tab), ("internal/strconv.uint64pow10", laid_internal_strconv_uint64pow10)] }
def AuditCorrectSaid : Prop := auditCorrectRow.holds Tryz.pinned (OpenSpec.ofChange auditCorrectSpec)

/-- ITS FALSE NEIGHBOUR: 'it returns false'. Refute it at one input. -/
def auditCorrectWrong : ChangeSpec := { name := "auditCorrect", fn := fun _ => fun
  | [d1, d2] => { results := [.lit (.bool false)], args := [d1, d2] }
  | _ => none }
def AuditCorrectWrongFalsely : Prop := auditCorrectRow.holds Tryz.pinned (OpenSpec.ofChange auditCorrectWrong)

/-- 'sheavelaw57.AuditLonger': WHATEVER THE INPUT: true; the input reads as it did. -/
def auditLongerSpec : ChangeSpec := { name := "auditLonger", fn := fun _ => fun
  | [d1, d2] => { results := [.lit (.bool true)], args := [d1, d2] }
  | _ => none }
def auditLongerRow : OpenClaim := { program := "ytfgobbnahihlfaagreatdoor", sum := "1e456fa664a98fd2e38ae897233213e686bfffd4101c6208e48769dbc6748729", func := "sheave/sheavelaw57.AuditLonger", spec := "auditLonger", inPlace := ["internal/abi.NoEscape"], unfollowed := true, recurses := true, named := ["internal/strconv.uint64pow10", "math/bits.deBruijn32tab", "math/bits.deBruijn64tab"], apart := false, laid := [("math/bits.deBruijn32tab", laid_math_bits_deBruijn32tab), ("math/bits.deBruijn64tab", laid_math_bits_deBruijn64tab), ("internal/strconv.uint64pow10", laid_internal_strconv_uint64pow10)] }
def AuditLongerSaid : Prop := auditLongerRow.holds Tryz.pinned (OpenSpec.ofChange auditLongerSpec)

/-- ITS FALSE NEIGHBOUR: 'it returns false'. Refute it at one input. -/
def auditLongerWrong : ChangeSpec := { name := "auditLonger", fn := fun _ => fun
  | [d1, d2] => { results := [.lit (.bool false)], args := [d1, d2] }
  | _ => none }
def AuditLongerWrongFalsely : Prop := auditLongerRow.holds Tryz.pinned (OpenSpec.ofChange auditLongerWrong)

/-- 'sheavelaw57.AuditComplete': WHATEVER THE INPUT: true; the input reads as it did. -/
def auditCompleteSpec : ChangeSpec := { name := "auditComplete", fn := fun _ => fun
  | [d] => { results := [.lit (.bool true)], args := [d] }
  | _ => none }
def auditCompleteRow : OpenClaim := { program := "ytfgobbnahihlfaagreatdoor", sum := "1e456fa664a98fd2e38ae897233213e686bfffd4101c6208e48769dbc6748729", func := "sheave/sheavelaw57.AuditComplete", spec := "auditComplete", inPlace := ["internal/abi.NoEscape"], unfollowed := true, recurses := true, named := ["internal/strconv.uint64pow10", "math/bits.deBruijn32tab", "math/bits.deBruijn64tab"], apart := false, laid := [("math/bits.deBruijn32tab", laid_math_bits_deBruijn32tab), ("math/bits.deBruijn64tab", laid_math_bits_deBruijn64tab), ("internal/strconv.uint64pow10", laid_internal_strconv_uint64pow10)] }
def AuditCompleteSaid : Prop := auditCompleteRow.holds Tryz.pinned (OpenSpec.ofChange auditCompleteSpec)

/-- ITS FALSE NEIGHBOUR: 'it returns false'. Refute it at one input. -/
def auditCompleteWrong : ChangeSpec := { name := "auditComplete", fn := fun _ => fun
  | [d] => { results := [.lit (.bool false)], args := [d] }
  | _ => none }
def AuditCompleteWrongFalsely : Prop := auditCompleteRow.holds Tryz.pinned (OpenSpec.ofChange auditCompleteWrong)

/-- 'sheavelaw57.AuditParts': WHATEVER THE INPUT: true; the input reads as it did. -/
def auditPartsSpec : ChangeSpec := { name := "auditParts", fn := fun _ => fun
  | [d] => { results := [.lit (.bool true)], args := [d] }
  | _ => none }
def auditPartsRow : OpenClaim := { program := "ytfgobbnahihlfaagreatdoor", sum := "1e456fa664a98fd2e38ae897233213e686bfffd4101c6208e48769dbc6748729", func := "sheave/sheavelaw57.AuditParts", spec := "auditParts", inPlace := ["internal/abi.NoEscape"], unfollowed := true, recurses := true, named := ["internal/strconv.uint64pow10", "math/bits.deBruijn32tab", "math/bits.deBruijn64tab"], apart := false, laid := [("math/bits.deBruijn32tab", laid_math_bits_deBruijn32tab), ("math/bits.deBruijn64tab", laid_math_bits_deBruijn64tab), ("internal/strconv.uint64pow10", laid_internal_strconv_uint64pow10)] }
def AuditPartsSaid : Prop := auditPartsRow.holds Tryz.pinned (OpenSpec.ofChange auditPartsSpec)

/-- ITS FALSE NEIGHBOUR: 'it returns false'. Refute it at one input. -/
def auditPartsWrong : ChangeSpec := { name := "auditParts", fn := fun _ => fun
  | [d] => { results := [.lit (.bool false)], args := [d] }
  | _ => none }
def AuditPartsWrongFalsely : Prop := auditPartsRow.holds Tryz.pinned (OpenSpec.ofChange auditPartsWrong)

/-- 'sheavelaw57.AuditSpoiled': WHATEVER THE INPUT: true; the input reads as it did. -/
def auditSpoiledSpec : ChangeSpec := { name := "auditSpoiled", fn := fun _ => fun
  | [d1, d2] => { results := [.lit (.bool true)], args := [d1, d2] }
  | _ => none }
def auditSpoiledRow : OpenClaim := { program := "ytfgobbnahihlfaagreatdoor", sum := "1e456fa664a98fd2e38ae897233213e686bfffd4101c6208e48769dbc6748729", func := "sheave/sheavelaw57.AuditSpoiled", spec := "auditSpoiled", inPlace := ["internal/abi.NoEscape", "slices.overlaps[sheave/api.Point]"], unfollowed := true, recurses := true, named := ["internal/strconv.uint64pow10", "math/bits.deBruijn32tab", "math/bits.deBruijn64tab"], apart := false, laid := [("math/bits.deBruijn32tab", laid_math_bits_deBruijn32tab), ("math/bits.deBruijn64tab", laid_math_bits_deBruijn64tab), ("internal/strconv.uint64pow10", laid_internal_strconv_uint64pow10)] }
def AuditSpoiledSaid : Prop := auditSpoiledRow.holds Tryz.pinned (OpenSpec.ofChange auditSpoiledSpec)

/-- ITS FALSE NEIGHBOUR: 'it returns false'. Refute it at one input. -/
def auditSpoiledWrong : ChangeSpec := { name := "auditSpoiled", fn := fun _ => fun
  | [d1, d2] => { results := [.lit (.bool false)], args := [d1, d2] }
  | _ => none }
def AuditSpoiledWrongFalsely : Prop := auditSpoiledRow.holds Tryz.pinned (OpenSpec.ofChange auditSpoiledWrong)

/- THE SECOND FORM. 'bulk': how many values and letters a reading holds, each counted each time it is reached (what is shared counts as often as it is met; a slice's spare places count too). A statement '..UptoSaid' is the law's where the arguments, and the package variables that the reading takes, are together of bulk at most 1048576: NARROWER than '..Said'. Prove '..Said' where nothing that the law and all that it calls make is longer than what came in: it says more and counts as full. Else prove '..UptoSaid'. A law counts once. -/
mutual
def uptoBulk {H : Type} : DataW H → Nat
  | .lit (.string bytes) => bytes.length + 1
  | .lit _ => 1
  | .nil => 1
  | .ptr d => uptoBulk d + 1
  | .slice elems spare => uptoBulkAll elems + uptoBulkAll spare + 1
  | .agg parts => uptoBulkAll parts + 1
  | .iface _ d => uptoBulk d + 1
  | .map entries => uptoBulkEntries entries + 1
  | .held _ => 1
def uptoBulkAll {H : Type} : List (DataW H) → Nat
  | [] => 0
  | d :: r => uptoBulk d + uptoBulkAll r
def uptoBulkEntries {H : Type} : List (Lit × DataW H) → Nat
  | [] => 0
  | x :: r => uptoBulkEntry x + uptoBulkEntries r
def uptoBulkEntry {H : Type} : Lit × DataW H → Nat
  | (.string bytes, d) => bytes.length + uptoBulk d + 1
  | (_, d) => uptoBulk d + 1
 end
def uptoSmall : (H : Type) → List (DataW H) → Bool := fun _ ds => decide (uptoBulkAll ds ≤ 1048576)
def OpenSpec.upto (s : _root_.Go.ChangeSpec) : _root_.Go.OpenSpec := { _root_.Go.OpenSpec.ofChange s with cond := some uptoSmall }

/-- 'sheavelaw57.AuditFirst', WHERE WHAT IT READS IS OF BULK AT MOST 1048576: true; the input reads as it did. -/
def auditFirstUptoRow : OpenClaim := { program := "ytfgobbnahihlfaagreatdoor", sum := "1e456fa664a98fd2e38ae897233213e686bfffd4101c6208e48769dbc6748729", func := "sheave/sheavelaw57.AuditFirst", spec := "auditFirst", inPlace := ["internal/abi.NoEscape"], unfollowed := true, recurses := true, named := ["internal/strconv.uint64pow10", "math/bits.deBruijn32tab", "math/bits.deBruijn64tab"], apart := false, laid := [("math/bits.deBruijn32tab", laid_math_bits_deBruijn32tab), ("math/bits.deBruijn64tab", laid_math_bits_deBruijn64tab), ("internal/strconv.uint64pow10", laid_internal_strconv_uint64pow10)], narrowed := true }
def AuditFirstUptoSaid : Prop := auditFirstUptoRow.holds Tryz.pinned (OpenSpec.upto auditFirstSpec)

/-- 'sheavelaw57.AuditMix', WHERE WHAT IT READS IS OF BULK AT MOST 1048576: true; the input reads as it did. -/
def auditMixUptoRow : OpenClaim := { program := "ytfgobbnahihlfaagreatdoor", sum := "1e456fa664a98fd2e38ae897233213e686bfffd4101c6208e48769dbc6748729", func := "sheave/sheavelaw57.AuditMix", spec := "auditMix", inPlace := ["internal/abi.NoEscape"], unfollowed := true, recurses := true, named := ["internal/strconv.uint64pow10", "math/bits.deBruijn32tab", "math/bits.deBruijn64tab"], apart := false, laid := [("math/bits.deBruijn32tab", laid_math_bits_deBruijn32tab), ("math/bits.deBruijn64tab", laid_math_bits_deBruijn64tab), ("internal/strconv.uint64pow10", laid_internal_strconv_uint64pow10)], narrowed := true }
def AuditMixUptoSaid : Prop := auditMixUptoRow.holds Tryz.pinned (OpenSpec.upto auditMixSpec)

/-- 'sheavelaw57.AuditFormat', WHERE WHAT IT READS IS OF BULK AT MOST 1048576: true; the input reads as it did. -/
def auditFormatUptoRow : OpenClaim := { program := "ytfgobbnahihlfaagreatdoor", sum := "1e456fa664a98fd2e38ae897233213e686bfffd4101c6208e48769dbc6748729", func := "sheave/sheavelaw57.AuditFormat", spec := "auditFormat", inPlace := ["internal/abi.NoEscape"], unfollowed := true, recurses := true, named := ["internal/strconv.uint64pow10", "math/bits.deBruijn32tab", "math/bits.deBruijn64tab"], apart := false, laid := [("math/bits.deBruijn32tab", laid_math_bits_deBruijn32tab), ("math/bits.deBruijn64tab", laid_math_bits_deBruijn64tab), ("internal/strconv.uint64pow10", laid_internal_strconv_uint64pow10)], narrowed := true }
def AuditFormatUptoSaid : Prop := auditFormatUptoRow.holds Tryz.pinned (OpenSpec.upto auditFormatSpec)

/-- 'sheavelaw57.AuditCorrect', WHERE WHAT IT READS IS OF BULK AT MOST 1048576: true; the input reads as it did. -/
def auditCorrectUptoRow : OpenClaim := { program := "ytfgobbnahihlfaagreatdoor", sum := "1e456fa664a98fd2e38ae897233213e686bfffd4101c6208e48769dbc6748729", func := "sheave/sheavelaw57.AuditCorrect", spec := "auditCorrect", inPlace := ["internal/abi.NoEscape"], unfollowed := true, recurses := true, named := ["internal/strconv.uint64pow10", "math/bits.deBruijn32tab", "math/bits.deBruijn64tab"], apart := false, laid := [("math/bits.deBruijn32tab", laid_math_bits_deBruijn32tab), ("math/bits.deBruijn64tab", laid_math_bits_deBruijn64tab), ("internal/strconv.uint64pow10", laid_internal_strconv_uint64pow10)], narrowed := true }
def AuditCorrectUptoSaid : Prop := auditCorrectUptoRow.holds Tryz.pinned (OpenSpec.upto auditCorrectSpec)

/-- 'sheavelaw57.AuditLonger', WHERE WHAT IT READS IS OF BULK AT MOST 1048576: true; the input reads as it did. -/
def auditLongerUptoRow : OpenClaim := { program := "ytfgobbnahihlfaagreatdoor", sum := "1e456fa664a98fd2e38ae897233213e686bfffd4101c6208e48769dbc6748729", func := "sheave/sheavelaw57.AuditLonger", spec := "auditLonger", inPlace := ["internal/abi.NoEscape"], unfollowed := true, recurses := true, named := ["internal/strconv.uint64pow10", "math/bits.deBruijn32tab", "math/bits.deBruijn64tab"], apart := false, laid := [("math/bits.deBruijn32tab", laid_math_bits_deBruijn32tab), ("math/bits.deBruijn64tab", laid_math_bits_deBruijn64tab), ("internal/strconv.uint64pow10", laid_internal_strconv_uint64pow10)], narrowed := true }
def AuditLongerUptoSaid : Prop := auditLongerUptoRow.holds Tryz.pinned (OpenSpec.upto auditLongerSpec)

/-- 'sheavelaw57.AuditComplete', WHERE WHAT IT READS IS OF BULK AT MOST 1048576: true; the input reads as it did. -/
def auditCompleteUptoRow : OpenClaim := { program := "ytfgobbnahihlfaagreatdoor", sum := "1e456fa664a98fd2e38ae897233213e686bfffd4101c6208e48769dbc6748729", func := "sheave/sheavelaw57.AuditComplete", spec := "auditComplete", inPlace := ["internal/abi.NoEscape"], unfollowed := true, recurses := true, named := ["internal/strconv.uint64pow10", "math/bits.deBruijn32tab", "math/bits.deBruijn64tab"], apart := false, laid := [("math/bits.deBruijn32tab", laid_math_bits_deBruijn32tab), ("math/bits.deBruijn64tab", laid_math_bits_deBruijn64tab), ("internal/strconv.uint64pow10", laid_internal_strconv_uint64pow10)], narrowed := true }
def AuditCompleteUptoSaid : Prop := auditCompleteUptoRow.holds Tryz.pinned (OpenSpec.upto auditCompleteSpec)

/-- 'sheavelaw57.AuditParts', WHERE WHAT IT READS IS OF BULK AT MOST 1048576: true; the input reads as it did. -/
def auditPartsUptoRow : OpenClaim := { program := "ytfgobbnahihlfaagreatdoor", sum := "1e456fa664a98fd2e38ae897233213e686bfffd4101c6208e48769dbc6748729", func := "sheave/sheavelaw57.AuditParts", spec := "auditParts", inPlace := ["internal/abi.NoEscape"], unfollowed := true, recurses := true, named := ["internal/strconv.uint64pow10", "math/bits.deBruijn32tab", "math/bits.deBruijn64tab"], apart := false, laid := [("math/bits.deBruijn32tab", laid_math_bits_deBruijn32tab), ("math/bits.deBruijn64tab", laid_math_bits_deBruijn64tab), ("internal/strconv.uint64pow10", laid_internal_strconv_uint64pow10)], narrowed := true }
def AuditPartsUptoSaid : Prop := auditPartsUptoRow.holds Tryz.pinned (OpenSpec.upto auditPartsSpec)

/-- 'sheavelaw57.AuditSpoiled', WHERE WHAT IT READS IS OF BULK AT MOST 1048576: true; the input reads as it did. -/
def auditSpoiledUptoRow : OpenClaim := { program := "ytfgobbnahihlfaagreatdoor", sum := "1e456fa664a98fd2e38ae897233213e686bfffd4101c6208e48769dbc6748729", func := "sheave/sheavelaw57.AuditSpoiled", spec := "auditSpoiled", inPlace := ["internal/abi.NoEscape", "slices.overlaps[sheave/api.Point]"], unfollowed := true, recurses := true, named := ["internal/strconv.uint64pow10", "math/bits.deBruijn32tab", "math/bits.deBruijn64tab"], apart := false, laid := [("math/bits.deBruijn32tab", laid_math_bits_deBruijn32tab), ("math/bits.deBruijn64tab", laid_math_bits_deBruijn64tab), ("internal/strconv.uint64pow10", laid_internal_strconv_uint64pow10)], narrowed := true }
def AuditSpoiledUptoSaid : Prop := auditSpoiledUptoRow.holds Tryz.pinned (OpenSpec.upto auditSpoiledSpec)

end Rows
end Go.Proofs.YtfgobbnahihlfaaGreatDoor
