/-
  No cell of these rows narrows 'for every input' (looked for: loops, veiled, ifaces, maps, wideKeys, modest, calm, conditions, laid).
  DERIVED. THE GIVEN ROWS OF THIS SEAT. 7 by the template 'for every input the law returns true; each argument reads behind the call as it read before'; 0 by the template 'total and deterministic' (their statements: YtpaobkaighpaaaaGreatTotals.lean).
  GIVEN WITH THE SEED: the statements are not yours to turn. If you find one false, say at which input.
  Laid BY PROGRAM, IN A SANDBOX (cutbox-rows.mjs): the forced cells as the released guide's own fill.sh prints them over the translation 5c6c16398fa5531d… (all of the seat's roots in one cut). By AI agents, Wed Nov 11 2026. No macro, syntax, notation, axiom, sorry.
-/
import Derived.Test.YtpaobkaighpaaaaGreatChecked
import GoSem.Claim
import GoSem.ClaimJoined
import GoSem.ClaimMapViews
import Derived.JoinedTies
import Derived.KernelRfl
namespace Go.Proofs.YtpaobkaighpaaaaGreat
/- THE CELL 'sum', in the pinned program and in every row, IS THE sha256 OF THE DUMP (.gsa) THAT YtpaobkaighpaaaaGreatProg.lean LOADS. Nothing in Lean hashes anything: it is a label: what it is worth is what the hold of that sum in a sandbox is worth. -/
noncomputable def Tryz.pinned : Pinned := { name := "ytpaobkaighpaaaagreat", sum := "5c6c16398fa5531db1c61da248e8f7228c79fd494b94b3bc6a1fa5d9b932a9cd", checked := Tryz.checked }
namespace Rows
def none {H : Type} : Left H := { results := [], args := [] }

/-- 'sheavelaw40.RefuseProve': WHATEVER THE INPUT: true; the input reads as it did. -/
def refuseProveSpec : ChangeSpec := { name := "refuseProve", fn := fun _ => fun
  | [d] => { results := [.lit (.bool true)], args := [d] }
  | _ => none }
def refuseProveRow : OpenClaim := { program := "ytpaobkaighpaaaagreat", sum := "5c6c16398fa5531db1c61da248e8f7228c79fd494b94b3bc6a1fa5d9b932a9cd", func := "sheave/sheavelaw40.RefuseProve", spec := "refuseProve", unfollowed := true, recurses := true, apart := false }
def RefuseProveSaid : Prop := refuseProveRow.holds Tryz.pinned (OpenSpec.ofChange refuseProveSpec)

/-- ITS FALSE NEIGHBOUR: 'it returns false'. Refute it at one input. -/
def refuseProveWrong : ChangeSpec := { name := "refuseProve", fn := fun _ => fun
  | [d] => { results := [.lit (.bool false)], args := [d] }
  | _ => none }
def RefuseProveWrongFalsely : Prop := refuseProveRow.holds Tryz.pinned (OpenSpec.ofChange refuseProveWrong)

/-- 'sheavelaw40.RefuseBlocked': WHATEVER THE INPUT: true; the input reads as it did. -/
def refuseBlockedSpec : ChangeSpec := { name := "refuseBlocked", fn := fun _ => fun
  | [d1, d2] => { results := [.lit (.bool true)], args := [d1, d2] }
  | _ => none }
def refuseBlockedRow : OpenClaim := { program := "ytpaobkaighpaaaagreat", sum := "5c6c16398fa5531db1c61da248e8f7228c79fd494b94b3bc6a1fa5d9b932a9cd", func := "sheave/sheavelaw40.RefuseBlocked", spec := "refuseBlocked", unfollowed := true, recurses := true, apart := false }
def RefuseBlockedSaid : Prop := refuseBlockedRow.holds Tryz.pinned (OpenSpec.ofChange refuseBlockedSpec)

/-- ITS FALSE NEIGHBOUR: 'it returns false'. Refute it at one input. -/
def refuseBlockedWrong : ChangeSpec := { name := "refuseBlocked", fn := fun _ => fun
  | [d1, d2] => { results := [.lit (.bool false)], args := [d1, d2] }
  | _ => none }
def RefuseBlockedWrongFalsely : Prop := refuseBlockedRow.holds Tryz.pinned (OpenSpec.ofChange refuseBlockedWrong)

/-- 'sheavelaw40.RefuseBorder': WHATEVER THE INPUT: true; the input reads as it did. -/
def refuseBorderSpec : ChangeSpec := { name := "refuseBorder", fn := fun _ => fun
  | [d1, d2] => { results := [.lit (.bool true)], args := [d1, d2] }
  | _ => none }
def refuseBorderRow : OpenClaim := { program := "ytpaobkaighpaaaagreat", sum := "5c6c16398fa5531db1c61da248e8f7228c79fd494b94b3bc6a1fa5d9b932a9cd", func := "sheave/sheavelaw40.RefuseBorder", spec := "refuseBorder", unfollowed := true, recurses := true, apart := false }
def RefuseBorderSaid : Prop := refuseBorderRow.holds Tryz.pinned (OpenSpec.ofChange refuseBorderSpec)

/-- ITS FALSE NEIGHBOUR: 'it returns false'. Refute it at one input. -/
def refuseBorderWrong : ChangeSpec := { name := "refuseBorder", fn := fun _ => fun
  | [d1, d2] => { results := [.lit (.bool false)], args := [d1, d2] }
  | _ => none }
def RefuseBorderWrongFalsely : Prop := refuseBorderRow.holds Tryz.pinned (OpenSpec.ofChange refuseBorderWrong)

/-- 'sheavelaw40.RefuseNearest': WHATEVER THE INPUT: true; the input reads as it did. -/
def refuseNearestSpec : ChangeSpec := { name := "refuseNearest", fn := fun _ => fun
  | [d1, d2] => { results := [.lit (.bool true)], args := [d1, d2] }
  | _ => none }
def refuseNearestRow : OpenClaim := { program := "ytpaobkaighpaaaagreat", sum := "5c6c16398fa5531db1c61da248e8f7228c79fd494b94b3bc6a1fa5d9b932a9cd", func := "sheave/sheavelaw40.RefuseNearest", spec := "refuseNearest", unfollowed := true, recurses := true, apart := false }
def RefuseNearestSaid : Prop := refuseNearestRow.holds Tryz.pinned (OpenSpec.ofChange refuseNearestSpec)

/-- ITS FALSE NEIGHBOUR: 'it returns false'. Refute it at one input. -/
def refuseNearestWrong : ChangeSpec := { name := "refuseNearest", fn := fun _ => fun
  | [d1, d2] => { results := [.lit (.bool false)], args := [d1, d2] }
  | _ => none }
def RefuseNearestWrongFalsely : Prop := refuseNearestRow.holds Tryz.pinned (OpenSpec.ofChange refuseNearestWrong)

/-- 'sheavelaw40.RefuseReasons': WHATEVER THE INPUT: true; the input reads as it did. -/
def refuseReasonsSpec : ChangeSpec := { name := "refuseReasons", fn := fun _ => fun
  | [d] => { results := [.lit (.bool true)], args := [d] }
  | _ => none }
def refuseReasonsRow : OpenClaim := { program := "ytpaobkaighpaaaagreat", sum := "5c6c16398fa5531db1c61da248e8f7228c79fd494b94b3bc6a1fa5d9b932a9cd", func := "sheave/sheavelaw40.RefuseReasons", spec := "refuseReasons", unfollowed := true, recurses := true, apart := false }
def RefuseReasonsSaid : Prop := refuseReasonsRow.holds Tryz.pinned (OpenSpec.ofChange refuseReasonsSpec)

/-- ITS FALSE NEIGHBOUR: 'it returns false'. Refute it at one input. -/
def refuseReasonsWrong : ChangeSpec := { name := "refuseReasons", fn := fun _ => fun
  | [d] => { results := [.lit (.bool false)], args := [d] }
  | _ => none }
def RefuseReasonsWrongFalsely : Prop := refuseReasonsRow.holds Tryz.pinned (OpenSpec.ofChange refuseReasonsWrong)

/-- 'sheavelaw40.RefuseErrors': WHATEVER THE INPUT: true; the input reads as it did. -/
def refuseErrorsSpec : ChangeSpec := { name := "refuseErrors", fn := fun _ => fun
  | [d1, d2] => { results := [.lit (.bool true)], args := [d1, d2] }
  | _ => none }
def refuseErrorsRow : OpenClaim := { program := "ytpaobkaighpaaaagreat", sum := "5c6c16398fa5531db1c61da248e8f7228c79fd494b94b3bc6a1fa5d9b932a9cd", func := "sheave/sheavelaw40.RefuseErrors", spec := "refuseErrors", unfollowed := true, recurses := true, apart := false }
def RefuseErrorsSaid : Prop := refuseErrorsRow.holds Tryz.pinned (OpenSpec.ofChange refuseErrorsSpec)

/-- ITS FALSE NEIGHBOUR: 'it returns false'. Refute it at one input. -/
def refuseErrorsWrong : ChangeSpec := { name := "refuseErrors", fn := fun _ => fun
  | [d1, d2] => { results := [.lit (.bool false)], args := [d1, d2] }
  | _ => none }
def RefuseErrorsWrongFalsely : Prop := refuseErrorsRow.holds Tryz.pinned (OpenSpec.ofChange refuseErrorsWrong)

/-- 'sheavelaw40.RefuseCheck': WHATEVER THE INPUT: true; the input reads as it did. -/
def refuseCheckSpec : ChangeSpec := { name := "refuseCheck", fn := fun _ => fun
  | [d1, d2] => { results := [.lit (.bool true)], args := [d1, d2] }
  | _ => none }
def refuseCheckRow : OpenClaim := { program := "ytpaobkaighpaaaagreat", sum := "5c6c16398fa5531db1c61da248e8f7228c79fd494b94b3bc6a1fa5d9b932a9cd", func := "sheave/sheavelaw40.RefuseCheck", spec := "refuseCheck", inPlace := ["slices.overlaps[sheave/api.Mix]"], unfollowed := true, recurses := true, apart := false }
def RefuseCheckSaid : Prop := refuseCheckRow.holds Tryz.pinned (OpenSpec.ofChange refuseCheckSpec)

/-- ITS FALSE NEIGHBOUR: 'it returns false'. Refute it at one input. -/
def refuseCheckWrong : ChangeSpec := { name := "refuseCheck", fn := fun _ => fun
  | [d1, d2] => { results := [.lit (.bool false)], args := [d1, d2] }
  | _ => none }
def RefuseCheckWrongFalsely : Prop := refuseCheckRow.holds Tryz.pinned (OpenSpec.ofChange refuseCheckWrong)

/- THE SECOND FORM. 'bulk': how many values and letters a reading holds, each counted each time it is reached (what is shared counts as often as it is met; a slice's spare places count too). A statement '..UptoSaid' is the law's where the arguments, and the package variables that the reading takes, are together of bulk at most 1048576: NARROWER than '..Said'. Prove '..Said' where nothing that the law and all that it calls make is longer than what came in: it says more and counts as full. Else prove '..UptoSaid'. A law counts once. -/
mutual
def uptoBulk {H : Type} : DataW H → Nat
  | .lit (.string bytes) => bytes.length + 1
  | .lit _ => 1
  | .nil => 1
  | .ptr d => uptoBulk d + 1
  | .slice elems spare => uptoBulkAll elems + uptoBulkAll spare + 1
  | .agg parts => uptoBulkAll parts + 1
  | .iface _ d => uptoBulk d + 1
  | .map entries => uptoBulkEntries entries + 1
  | .held _ => 1
def uptoBulkAll {H : Type} : List (DataW H) → Nat
  | [] => 0
  | d :: r => uptoBulk d + uptoBulkAll r
def uptoBulkEntries {H : Type} : List (Lit × DataW H) → Nat
  | [] => 0
  | x :: r => uptoBulkEntry x + uptoBulkEntries r
def uptoBulkEntry {H : Type} : Lit × DataW H → Nat
  | (.string bytes, d) => bytes.length + uptoBulk d + 1
  | (_, d) => uptoBulk d + 1
 end
def uptoSmall : (H : Type) → List (DataW H) → Bool := fun _ ds => decide (uptoBulkAll ds ≤ 1048576)
def OpenSpec.upto (s : _root_.Go.ChangeSpec) : _root_.Go.OpenSpec := { _root_.Go.OpenSpec.ofChange s with cond := some uptoSmall }

/-- 'sheavelaw40.RefuseProve', WHERE WHAT IT READS IS OF BULK AT MOST 1048576: true; the input reads as it did. -/
def refuseProveUptoRow : OpenClaim := { program := "ytpaobkaighpaaaagreat", sum := "5c6c16398fa5531db1c61da248e8f7228c79fd494b94b3bc6a1fa5d9b932a9cd", func := "sheave/sheavelaw40.RefuseProve", spec := "refuseProve", unfollowed := true, recurses := true, apart := false, narrowed := true }
def RefuseProveUptoSaid : Prop := refuseProveUptoRow.holds Tryz.pinned (OpenSpec.upto refuseProveSpec)

/-- 'sheavelaw40.RefuseBlocked', WHERE WHAT IT READS IS OF BULK AT MOST 1048576: true; the input reads as it did. -/
def refuseBlockedUptoRow : OpenClaim := { program := "ytpaobkaighpaaaagreat", sum := "5c6c16398fa5531db1c61da248e8f7228c79fd494b94b3bc6a1fa5d9b932a9cd", func := "sheave/sheavelaw40.RefuseBlocked", spec := "refuseBlocked", unfollowed := true, recurses := true, apart := false, narrowed := true }
def RefuseBlockedUptoSaid : Prop := refuseBlockedUptoRow.holds Tryz.pinned (OpenSpec.upto refuseBlockedSpec)

/-- 'sheavelaw40.RefuseBorder', WHERE WHAT IT READS IS OF BULK AT MOST 1048576: true; the input reads as it did. -/
def refuseBorderUptoRow : OpenClaim := { program := "ytpaobkaighpaaaagreat", sum := "5c6c16398fa5531db1c61da248e8f7228c79fd494b94b3bc6a1fa5d9b932a9cd", func := "sheave/sheavelaw40.RefuseBorder", spec := "refuseBorder", unfollowed := true, recurses := true, apart := false, narrowed := true }
def RefuseBorderUptoSaid : Prop := refuseBorderUptoRow.holds Tryz.pinned (OpenSpec.upto refuseBorderSpec)

/-- 'sheavelaw40.RefuseNearest', WHERE WHAT IT READS IS OF BULK AT MOST 1048576: true; the input reads as it did. -/
def refuseNearestUptoRow : OpenClaim := { program := "ytpaobkaighpaaaagreat", sum := "5c6c16398fa5531db1c61da248e8f7228c79fd494b94b3bc6a1fa5d9b932a9cd", func := "sheave/sheavelaw40.RefuseNearest", spec := "refuseNearest", unfollowed := true, recurses := true, apart := false, narrowed := true }
def RefuseNearestUptoSaid : Prop := refuseNearestUptoRow.holds Tryz.pinned (OpenSpec.upto refuseNearestSpec)

/-- 'sheavelaw40.RefuseReasons', WHERE WHAT IT READS IS OF BULK AT MOST 1048576: true; the input reads as it did. -/
def refuseReasonsUptoRow : OpenClaim := { program := "ytpaobkaighpaaaagreat", sum := "5c6c16398fa5531db1c61da248e8f7228c79fd494b94b3bc6a1fa5d9b932a9cd", func := "sheave/sheavelaw40.RefuseReasons", spec := "refuseReasons", unfollowed := true, recurses := true, apart := false, narrowed := true }
def RefuseReasonsUptoSaid : Prop := refuseReasonsUptoRow.holds Tryz.pinned (OpenSpec.upto refuseReasonsSpec)

/-- 'sheavelaw40.RefuseErrors', WHERE WHAT IT READS IS OF BULK AT MOST 1048576: true; the input reads as it did. -/
def refuseErrorsUptoRow : OpenClaim := { program := "ytpaobkaighpaaaagreat", sum := "5c6c16398fa5531db1c61da248e8f7228c79fd494b94b3bc6a1fa5d9b932a9cd", func := "sheave/sheavelaw40.RefuseErrors", spec := "refuseErrors", unfollowed := true, recurses := true, apart := false, narrowed := true }
def RefuseErrorsUptoSaid : Prop := refuseErrorsUptoRow.holds Tryz.pinned (OpenSpec.upto refuseErrorsSpec)

/-- 'sheavelaw40.RefuseCheck', WHERE WHAT IT READS IS OF BULK AT MOST 1048576: true; the input reads as it did. -/
def refuseCheckUptoRow : OpenClaim := { program := "ytpaobkaighpaaaagreat", sum := "5c6c16398fa5531db1c61da248e8f7228c79fd494b94b3bc6a1fa5d9b932a9cd", func := "sheave/sheavelaw40.RefuseCheck", spec := "refuseCheck", inPlace := ["slices.overlaps[sheave/api.Mix]"], unfollowed := true, recurses := true, apart := false, narrowed := true }
def RefuseCheckUptoSaid : Prop := refuseCheckUptoRow.holds Tryz.pinned (OpenSpec.upto refuseCheckSpec)

end Rows
end Go.Proofs.YtpaobkaighpaaaaGreat
