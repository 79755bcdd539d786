/-
  No cell of these rows narrows 'for every input' (looked for: loops, veiled, ifaces, maps, wideKeys, modest, calm, conditions, laid).
  DERIVED. THE GIVEN ROWS OF THIS SEAT. 6 by the template 'for every input the law returns true; each argument reads behind the call as it read before'; 0 by the template 'total and deterministic' (their statements: YtfnobkfnohhmmaaGreatTotals.lean).
  GIVEN WITH THE SEED: the statements are not yours to turn. If you find one false, say at which input.
  Laid BY PROGRAM, IN A SANDBOX (cutbox-rows.mjs): the forced cells as the released guide's own fill.sh prints them over the translation b0f406bd3d405de9… (all of the seat's roots in one cut). By AI agents, Wed Nov 11 2026. No macro, syntax, notation, axiom, sorry.
-/
import Derived.Test.YtfnobkfnohhmmaaGreatChecked
import GoSem.Claim
import GoSem.ClaimJoined
import GoSem.ClaimMapViews
import Derived.JoinedTies
import Derived.KernelRfl
namespace Go.Proofs.YtfnobkfnohhmmaaGreat
/- THE CELL 'sum', in the pinned program and in every row, IS THE sha256 OF THE DUMP (.gsa) THAT YtfnobkfnohhmmaaGreatProg.lean LOADS. Nothing in Lean hashes anything: it is a label: what it is worth is what the hold of that sum in a sandbox is worth. -/
noncomputable def Tryz.pinned : Pinned := { name := "ytfnobkfnohhmmaagreat", sum := "b0f406bd3d405de96874f8a50ebc95ed9135efda53ebbcc7bf6ad32c1d15f57f", checked := Tryz.checked }
namespace Rows
def none {H : Type} : Left H := { results := [], args := [] }

/-- 'sheavelaw38.ReachAlong': WHATEVER THE INPUT: true; the input reads as it did. -/
def reachAlongSpec : ChangeSpec := { name := "reachAlong", fn := fun _ => fun
  | [d1, d2] => { results := [.lit (.bool true)], args := [d1, d2] }
  | _ => none }
def reachAlongRow : OpenClaim := { program := "ytfnobkfnohhmmaagreat", sum := "b0f406bd3d405de96874f8a50ebc95ed9135efda53ebbcc7bf6ad32c1d15f57f", func := "sheave/sheavelaw38.ReachAlong", spec := "reachAlong", unfollowed := true, recurses := true, apart := false }
def ReachAlongSaid : Prop := reachAlongRow.holds Tryz.pinned (OpenSpec.ofChange reachAlongSpec)

/-- ITS FALSE NEIGHBOUR: 'it returns false'. Refute it at one input. -/
def reachAlongWrong : ChangeSpec := { name := "reachAlong", fn := fun _ => fun
  | [d1, d2] => { results := [.lit (.bool false)], args := [d1, d2] }
  | _ => none }
def ReachAlongWrongFalsely : Prop := reachAlongRow.holds Tryz.pinned (OpenSpec.ofChange reachAlongWrong)

/-- 'sheavelaw38.ReachRegion': WHATEVER THE INPUT: true; the input reads as it did. -/
def reachRegionSpec : ChangeSpec := { name := "reachRegion", fn := fun _ => fun
  | [d] => { results := [.lit (.bool true)], args := [d] }
  | _ => none }
def reachRegionRow : OpenClaim := { program := "ytfnobkfnohhmmaagreat", sum := "b0f406bd3d405de96874f8a50ebc95ed9135efda53ebbcc7bf6ad32c1d15f57f", func := "sheave/sheavelaw38.ReachRegion", spec := "reachRegion", unfollowed := true, recurses := true, apart := false }
def ReachRegionSaid : Prop := reachRegionRow.holds Tryz.pinned (OpenSpec.ofChange reachRegionSpec)

/-- ITS FALSE NEIGHBOUR: 'it returns false'. Refute it at one input. -/
def reachRegionWrong : ChangeSpec := { name := "reachRegion", fn := fun _ => fun
  | [d] => { results := [.lit (.bool false)], args := [d] }
  | _ => none }
def ReachRegionWrongFalsely : Prop := reachRegionRow.holds Tryz.pinned (OpenSpec.ofChange reachRegionWrong)

/-- 'sheavelaw38.ReachWalk': WHATEVER THE INPUT: true; the input reads as it did. -/
def reachWalkSpec : ChangeSpec := { name := "reachWalk", fn := fun _ => fun
  | [d1, d2] => { results := [.lit (.bool true)], args := [d1, d2] }
  | _ => none }
def reachWalkRow : OpenClaim := { program := "ytfnobkfnohhmmaagreat", sum := "b0f406bd3d405de96874f8a50ebc95ed9135efda53ebbcc7bf6ad32c1d15f57f", func := "sheave/sheavelaw38.ReachWalk", spec := "reachWalk", unfollowed := true, recurses := true, apart := false }
def ReachWalkSaid : Prop := reachWalkRow.holds Tryz.pinned (OpenSpec.ofChange reachWalkSpec)

/-- ITS FALSE NEIGHBOUR: 'it returns false'. Refute it at one input. -/
def reachWalkWrong : ChangeSpec := { name := "reachWalk", fn := fun _ => fun
  | [d1, d2] => { results := [.lit (.bool false)], args := [d1, d2] }
  | _ => none }
def ReachWalkWrongFalsely : Prop := reachWalkRow.holds Tryz.pinned (OpenSpec.ofChange reachWalkWrong)

/-- 'sheavelaw38.ReachClosed': WHATEVER THE INPUT: true; the input reads as it did. -/
def reachClosedSpec : ChangeSpec := { name := "reachClosed", fn := fun _ => fun
  | [d] => { results := [.lit (.bool true)], args := [d] }
  | _ => none }
def reachClosedRow : OpenClaim := { program := "ytfnobkfnohhmmaagreat", sum := "b0f406bd3d405de96874f8a50ebc95ed9135efda53ebbcc7bf6ad32c1d15f57f", func := "sheave/sheavelaw38.ReachClosed", spec := "reachClosed", unfollowed := true, recurses := true, apart := false }
def ReachClosedSaid : Prop := reachClosedRow.holds Tryz.pinned (OpenSpec.ofChange reachClosedSpec)

/-- ITS FALSE NEIGHBOUR: 'it returns false'. Refute it at one input. -/
def reachClosedWrong : ChangeSpec := { name := "reachClosed", fn := fun _ => fun
  | [d] => { results := [.lit (.bool false)], args := [d] }
  | _ => none }
def ReachClosedWrongFalsely : Prop := reachClosedRow.holds Tryz.pinned (OpenSpec.ofChange reachClosedWrong)

/-- 'sheavelaw38.ReachPlay': WHATEVER THE INPUT: true; the input reads as it did. -/
def reachPlaySpec : ChangeSpec := { name := "reachPlay", fn := fun _ => fun
  | [d1, d2] => { results := [.lit (.bool true)], args := [d1, d2] }
  | _ => none }
def reachPlayRow : OpenClaim := { program := "ytfnobkfnohhmmaagreat", sum := "b0f406bd3d405de96874f8a50ebc95ed9135efda53ebbcc7bf6ad32c1d15f57f", func := "sheave/sheavelaw38.ReachPlay", spec := "reachPlay", unfollowed := true, recurses := true, apart := false }
def ReachPlaySaid : Prop := reachPlayRow.holds Tryz.pinned (OpenSpec.ofChange reachPlaySpec)

/-- ITS FALSE NEIGHBOUR: 'it returns false'. Refute it at one input. -/
def reachPlayWrong : ChangeSpec := { name := "reachPlay", fn := fun _ => fun
  | [d1, d2] => { results := [.lit (.bool false)], args := [d1, d2] }
  | _ => none }
def ReachPlayWrongFalsely : Prop := reachPlayRow.holds Tryz.pinned (OpenSpec.ofChange reachPlayWrong)

/-- 'sheavelaw38.ReachAborts': WHATEVER THE INPUT: true; the input reads as it did. -/
def reachAbortsSpec : ChangeSpec := { name := "reachAborts", fn := fun _ => fun
  | [d1, d2, d3] => { results := [.lit (.bool true)], args := [d1, d2, d3] }
  | _ => none }
def reachAbortsRow : OpenClaim := { program := "ytfnobkfnohhmmaagreat", sum := "b0f406bd3d405de96874f8a50ebc95ed9135efda53ebbcc7bf6ad32c1d15f57f", func := "sheave/sheavelaw38.ReachAborts", spec := "reachAborts", unfollowed := true, recurses := true, apart := false }
def ReachAbortsSaid : Prop := reachAbortsRow.holds Tryz.pinned (OpenSpec.ofChange reachAbortsSpec)

/-- ITS FALSE NEIGHBOUR: 'it returns false'. Refute it at one input. -/
def reachAbortsWrong : ChangeSpec := { name := "reachAborts", fn := fun _ => fun
  | [d1, d2, d3] => { results := [.lit (.bool false)], args := [d1, d2, d3] }
  | _ => none }
def ReachAbortsWrongFalsely : Prop := reachAbortsRow.holds Tryz.pinned (OpenSpec.ofChange reachAbortsWrong)

/- THE SECOND FORM. 'bulk': how many values and letters a reading holds, each counted each time it is reached (what is shared counts as often as it is met; a slice's spare places count too). A statement '..UptoSaid' is the law's where the arguments, and the package variables that the reading takes, are together of bulk at most 1048576: NARROWER than '..Said'. Prove '..Said' where nothing that the law and all that it calls make is longer than what came in: it says more and counts as full. Else prove '..UptoSaid'. A law counts once. -/
mutual
def uptoBulk {H : Type} : DataW H → Nat
  | .lit (.string bytes) => bytes.length + 1
  | .lit _ => 1
  | .nil => 1
  | .ptr d => uptoBulk d + 1
  | .slice elems spare => uptoBulkAll elems + uptoBulkAll spare + 1
  | .agg parts => uptoBulkAll parts + 1
  | .iface _ d => uptoBulk d + 1
  | .map entries => uptoBulkEntries entries + 1
  | .held _ => 1
def uptoBulkAll {H : Type} : List (DataW H) → Nat
  | [] => 0
  | d :: r => uptoBulk d + uptoBulkAll r
def uptoBulkEntries {H : Type} : List (Lit × DataW H) → Nat
  | [] => 0
  | x :: r => uptoBulkEntry x + uptoBulkEntries r
def uptoBulkEntry {H : Type} : Lit × DataW H → Nat
  | (.string bytes, d) => bytes.length + uptoBulk d + 1
  | (_, d) => uptoBulk d + 1
 end
def uptoSmall : (H : Type) → List (DataW H) → Bool := fun _ ds => decide (uptoBulkAll ds ≤ 1048576)
def OpenSpec.upto (s : _root_.Go.ChangeSpec) : _root_.Go.OpenSpec := { _root_.Go.OpenSpec.ofChange s with cond := some uptoSmall }

/-- 'sheavelaw38.ReachAlong', WHERE WHAT IT READS IS OF BULK AT MOST 1048576: true; the input reads as it did. -/
def reachAlongUptoRow : OpenClaim := { program := "ytfnobkfnohhmmaagreat", sum := "b0f406bd3d405de96874f8a50ebc95ed9135efda53ebbcc7bf6ad32c1d15f57f", func := "sheave/sheavelaw38.ReachAlong", spec := "reachAlong", unfollowed := true, recurses := true, apart := false, narrowed := true }
def ReachAlongUptoSaid : Prop := reachAlongUptoRow.holds Tryz.pinned (OpenSpec.upto reachAlongSpec)

/-- 'sheavelaw38.ReachRegion', WHERE WHAT IT READS IS OF BULK AT MOST 1048576: true; the input reads as it did. -/
def reachRegionUptoRow : OpenClaim := { program := "ytfnobkfnohhmmaagreat", sum := "b0f406bd3d405de96874f8a50ebc95ed9135efda53ebbcc7bf6ad32c1d15f57f", func := "sheave/sheavelaw38.ReachRegion", spec := "reachRegion", unfollowed := true, recurses := true, apart := false, narrowed := true }
def ReachRegionUptoSaid : Prop := reachRegionUptoRow.holds Tryz.pinned (OpenSpec.upto reachRegionSpec)

/-- 'sheavelaw38.ReachWalk', WHERE WHAT IT READS IS OF BULK AT MOST 1048576: true; the input reads as it did. -/
def reachWalkUptoRow : OpenClaim := { program := "ytfnobkfnohhmmaagreat", sum := "b0f406bd3d405de96874f8a50ebc95ed9135efda53ebbcc7bf6ad32c1d15f57f", func := "sheave/sheavelaw38.ReachWalk", spec := "reachWalk", unfollowed := true, recurses := true, apart := false, narrowed := true }
def ReachWalkUptoSaid : Prop := reachWalkUptoRow.holds Tryz.pinned (OpenSpec.upto reachWalkSpec)

/-- 'sheavelaw38.ReachClosed', WHERE WHAT IT READS IS OF BULK AT MOST 1048576: true; the input reads as it did. -/
def reachClosedUptoRow : OpenClaim := { program := "ytfnobkfnohhmmaagreat", sum := "b0f406bd3d405de96874f8a50ebc95ed9135efda53ebbcc7bf6ad32c1d15f57f", func := "sheave/sheavelaw38.ReachClosed", spec := "reachClosed", unfollowed := true, recurses := true, apart := false, narrowed := true }
def ReachClosedUptoSaid : Prop := reachClosedUptoRow.holds Tryz.pinned (OpenSpec.upto reachClosedSpec)

/-- 'sheavelaw38.ReachPlay', WHERE WHAT IT READS IS OF BULK AT MOST 1048576: true; the input reads as it did. -/
def reachPlayUptoRow : OpenClaim := { program := "ytfnobkfnohhmmaagreat", sum := "b0f406bd3d405de96874f8a50ebc95ed9135efda53ebbcc7bf6ad32c1d15f57f", func := "sheave/sheavelaw38.ReachPlay", spec := "reachPlay", unfollowed := true, recurses := true, apart := false, narrowed := true }
def ReachPlayUptoSaid : Prop := reachPlayUptoRow.holds Tryz.pinned (OpenSpec.upto reachPlaySpec)

/-- 'sheavelaw38.ReachAborts', WHERE WHAT IT READS IS OF BULK AT MOST 1048576: true; the input reads as it did. -/
def reachAbortsUptoRow : OpenClaim := { program := "ytfnobkfnohhmmaagreat", sum := "b0f406bd3d405de96874f8a50ebc95ed9135efda53ebbcc7bf6ad32c1d15f57f", func := "sheave/sheavelaw38.ReachAborts", spec := "reachAborts", unfollowed := true, recurses := true, apart := false, narrowed := true }
def ReachAbortsUptoSaid : Prop := reachAbortsUptoRow.holds Tryz.pinned (OpenSpec.upto reachAbortsSpec)

end Rows
end Go.Proofs.YtfnobkfnohhmmaaGreat
