/-
  No cell of these rows narrows 'for every input' (looked for: loops, veiled, ifaces, maps, wideKeys, modest, calm, conditions, laid).
  DERIVED. THE GIVEN ROWS OF THIS SEAT. 7 by the template 'for every input the law returns true; each argument reads behind the call as it read before'; 0 by the template 'total and deterministic' (their statements: YtjpgllmfenogoaaGreatTotals.lean).
  GIVEN WITH THE SEED: the statements are not yours to turn. If you find one false, say at which input.
  Laid BY PROGRAM, IN A SANDBOX (cutbox-rows.mjs): the forced cells as the released guide's own fill.sh prints them over the translation fff9a142e491b2b0… (all of the seat's roots in one cut). By AI agents, Wed Nov 11 2026. No macro, syntax, notation, axiom, sorry.
-/
import Derived.Test.YtjpgllmfenogoaaGreatChecked
import GoSem.Claim
import GoSem.ClaimJoined
import GoSem.ClaimMapViews
import Derived.JoinedTies
import Derived.KernelRfl
namespace Go.Proofs.YtjpgllmfenogoaaGreat
/- THE CELL 'sum', in the pinned program and in every row, IS THE sha256 OF THE DUMP (.gsa) THAT YtjpgllmfenogoaaGreatProg.lean LOADS. Nothing in Lean hashes anything: it is a label: what it is worth is what the hold of that sum in a sandbox is worth. -/
noncomputable def Tryz.pinned : Pinned := { name := "ytjpgllmfenogoaagreat", sum := "fff9a142e491b2b012d8e0b13f07f44a1856509d995237d9466a0c1e90f0541a", checked := Tryz.checked }
namespace Rows
def none {H : Type} : Left H := { results := [], args := [] }

/-- 'sheavelaw42.UnblockNone': WHATEVER THE INPUT: true; the input reads as it did. -/
def unblockNoneSpec : ChangeSpec := { name := "unblockNone", fn := fun _ => fun
  | [d] => { results := [.lit (.bool true)], args := [d] }
  | _ => none }
def unblockNoneRow : OpenClaim := { program := "ytjpgllmfenogoaagreat", sum := "fff9a142e491b2b012d8e0b13f07f44a1856509d995237d9466a0c1e90f0541a", func := "sheave/sheavelaw42.UnblockNone", spec := "unblockNone", unfollowed := true, recurses := true, apart := false }
def UnblockNoneSaid : Prop := unblockNoneRow.holds Tryz.pinned (OpenSpec.ofChange unblockNoneSpec)

/-- ITS FALSE NEIGHBOUR: 'it returns false'. Refute it at one input. -/
def unblockNoneWrong : ChangeSpec := { name := "unblockNone", fn := fun _ => fun
  | [d] => { results := [.lit (.bool false)], args := [d] }
  | _ => none }
def UnblockNoneWrongFalsely : Prop := unblockNoneRow.holds Tryz.pinned (OpenSpec.ofChange unblockNoneWrong)

/-- 'sheavelaw42.UnblockMinimal': WHATEVER THE INPUT: true; the input reads as it did. -/
def unblockMinimalSpec : ChangeSpec := { name := "unblockMinimal", fn := fun _ => fun
  | [d1, d2] => { results := [.lit (.bool true)], args := [d1, d2] }
  | _ => none }
def unblockMinimalRow : OpenClaim := { program := "ytjpgllmfenogoaagreat", sum := "fff9a142e491b2b012d8e0b13f07f44a1856509d995237d9466a0c1e90f0541a", func := "sheave/sheavelaw42.UnblockMinimal", spec := "unblockMinimal", unfollowed := true, recurses := true, apart := false }
def UnblockMinimalSaid : Prop := unblockMinimalRow.holds Tryz.pinned (OpenSpec.ofChange unblockMinimalSpec)

/-- ITS FALSE NEIGHBOUR: 'it returns false'. Refute it at one input. -/
def unblockMinimalWrong : ChangeSpec := { name := "unblockMinimal", fn := fun _ => fun
  | [d1, d2] => { results := [.lit (.bool false)], args := [d1, d2] }
  | _ => none }
def UnblockMinimalWrongFalsely : Prop := unblockMinimalRow.holds Tryz.pinned (OpenSpec.ofChange unblockMinimalWrong)

/-- 'sheavelaw42.UnblockMore': WHATEVER THE INPUT: true; the input reads as it did. -/
def unblockMoreSpec : ChangeSpec := { name := "unblockMore", fn := fun _ => fun
  | [d1, d2] => { results := [.lit (.bool true)], args := [d1, d2] }
  | _ => none }
def unblockMoreRow : OpenClaim := { program := "ytjpgllmfenogoaagreat", sum := "fff9a142e491b2b012d8e0b13f07f44a1856509d995237d9466a0c1e90f0541a", func := "sheave/sheavelaw42.UnblockMore", spec := "unblockMore", unfollowed := true, recurses := true, apart := false }
def UnblockMoreSaid : Prop := unblockMoreRow.holds Tryz.pinned (OpenSpec.ofChange unblockMoreSpec)

/-- ITS FALSE NEIGHBOUR: 'it returns false'. Refute it at one input. -/
def unblockMoreWrong : ChangeSpec := { name := "unblockMore", fn := fun _ => fun
  | [d1, d2] => { results := [.lit (.bool false)], args := [d1, d2] }
  | _ => none }
def UnblockMoreWrongFalsely : Prop := unblockMoreRow.holds Tryz.pinned (OpenSpec.ofChange unblockMoreWrong)

/-- 'sheavelaw42.UnblockWith': WHATEVER THE INPUT: true; the input reads as it did. -/
def unblockWithSpec : ChangeSpec := { name := "unblockWith", fn := fun _ => fun
  | [d1, d2] => { results := [.lit (.bool true)], args := [d1, d2] }
  | _ => none }
def unblockWithRow : OpenClaim := { program := "ytjpgllmfenogoaagreat", sum := "fff9a142e491b2b012d8e0b13f07f44a1856509d995237d9466a0c1e90f0541a", func := "sheave/sheavelaw42.UnblockWith", spec := "unblockWith", unfollowed := true, recurses := true, apart := false }
def UnblockWithSaid : Prop := unblockWithRow.holds Tryz.pinned (OpenSpec.ofChange unblockWithSpec)

/-- ITS FALSE NEIGHBOUR: 'it returns false'. Refute it at one input. -/
def unblockWithWrong : ChangeSpec := { name := "unblockWith", fn := fun _ => fun
  | [d1, d2] => { results := [.lit (.bool false)], args := [d1, d2] }
  | _ => none }
def UnblockWithWrongFalsely : Prop := unblockWithRow.holds Tryz.pinned (OpenSpec.ofChange unblockWithWrong)

/-- 'sheavelaw42.UnblockPlans': WHATEVER THE INPUT: true; the input reads as it did. -/
def unblockPlansSpec : ChangeSpec := { name := "unblockPlans", fn := fun _ => fun
  | [d] => { results := [.lit (.bool true)], args := [d] }
  | _ => none }
def unblockPlansRow : OpenClaim := { program := "ytjpgllmfenogoaagreat", sum := "fff9a142e491b2b012d8e0b13f07f44a1856509d995237d9466a0c1e90f0541a", func := "sheave/sheavelaw42.UnblockPlans", spec := "unblockPlans", unfollowed := true, recurses := true, apart := false }
def UnblockPlansSaid : Prop := unblockPlansRow.holds Tryz.pinned (OpenSpec.ofChange unblockPlansSpec)

/-- ITS FALSE NEIGHBOUR: 'it returns false'. Refute it at one input. -/
def unblockPlansWrong : ChangeSpec := { name := "unblockPlans", fn := fun _ => fun
  | [d] => { results := [.lit (.bool false)], args := [d] }
  | _ => none }
def UnblockPlansWrongFalsely : Prop := unblockPlansRow.holds Tryz.pinned (OpenSpec.ofChange unblockPlansWrong)

/-- 'sheavelaw42.UnblockAll': WHATEVER THE INPUT: true; the input reads as it did. -/
def unblockAllSpec : ChangeSpec := { name := "unblockAll", fn := fun _ => fun
  | [d] => { results := [.lit (.bool true)], args := [d] }
  | _ => none }
def unblockAllRow : OpenClaim := { program := "ytjpgllmfenogoaagreat", sum := "fff9a142e491b2b012d8e0b13f07f44a1856509d995237d9466a0c1e90f0541a", func := "sheave/sheavelaw42.UnblockAll", spec := "unblockAll", unfollowed := true, recurses := true, apart := false }
def UnblockAllSaid : Prop := unblockAllRow.holds Tryz.pinned (OpenSpec.ofChange unblockAllSpec)

/-- ITS FALSE NEIGHBOUR: 'it returns false'. Refute it at one input. -/
def unblockAllWrong : ChangeSpec := { name := "unblockAll", fn := fun _ => fun
  | [d] => { results := [.lit (.bool false)], args := [d] }
  | _ => none }
def UnblockAllWrongFalsely : Prop := unblockAllRow.holds Tryz.pinned (OpenSpec.ofChange unblockAllWrong)

/-- 'sheavelaw42.UnblockErrors': WHATEVER THE INPUT: true; the input reads as it did. -/
def unblockErrorsSpec : ChangeSpec := { name := "unblockErrors", fn := fun _ => fun
  | [d] => { results := [.lit (.bool true)], args := [d] }
  | _ => none }
def unblockErrorsRow : OpenClaim := { program := "ytjpgllmfenogoaagreat", sum := "fff9a142e491b2b012d8e0b13f07f44a1856509d995237d9466a0c1e90f0541a", func := "sheave/sheavelaw42.UnblockErrors", spec := "unblockErrors", unfollowed := true, recurses := true, apart := false }
def UnblockErrorsSaid : Prop := unblockErrorsRow.holds Tryz.pinned (OpenSpec.ofChange unblockErrorsSpec)

/-- ITS FALSE NEIGHBOUR: 'it returns false'. Refute it at one input. -/
def unblockErrorsWrong : ChangeSpec := { name := "unblockErrors", fn := fun _ => fun
  | [d] => { results := [.lit (.bool false)], args := [d] }
  | _ => none }
def UnblockErrorsWrongFalsely : Prop := unblockErrorsRow.holds Tryz.pinned (OpenSpec.ofChange unblockErrorsWrong)

/- THE SECOND FORM. 'bulk': how many values and letters a reading holds, each counted each time it is reached (what is shared counts as often as it is met; a slice's spare places count too). A statement '..UptoSaid' is the law's where the arguments, and the package variables that the reading takes, are together of bulk at most 1048576: NARROWER than '..Said'. Prove '..Said' where nothing that the law and all that it calls make is longer than what came in: it says more and counts as full. Else prove '..UptoSaid'. A law counts once. -/
mutual
def uptoBulk {H : Type} : DataW H → Nat
  | .lit (.string bytes) => bytes.length + 1
  | .lit _ => 1
  | .nil => 1
  | .ptr d => uptoBulk d + 1
  | .slice elems spare => uptoBulkAll elems + uptoBulkAll spare + 1
  | .agg parts => uptoBulkAll parts + 1
  | .iface _ d => uptoBulk d + 1
  | .map entries => uptoBulkEntries entries + 1
  | .held _ => 1
def uptoBulkAll {H : Type} : List (DataW H) → Nat
  | [] => 0
  | d :: r => uptoBulk d + uptoBulkAll r
def uptoBulkEntries {H : Type} : List (Lit × DataW H) → Nat
  | [] => 0
  | x :: r => uptoBulkEntry x + uptoBulkEntries r
def uptoBulkEntry {H : Type} : Lit × DataW H → Nat
  | (.string bytes, d) => bytes.length + uptoBulk d + 1
  | (_, d) => uptoBulk d + 1
 end
def uptoSmall : (H : Type) → List (DataW H) → Bool := fun _ ds => decide (uptoBulkAll ds ≤ 1048576)
def OpenSpec.upto (s : _root_.Go.ChangeSpec) : _root_.Go.OpenSpec := { _root_.Go.OpenSpec.ofChange s with cond := some uptoSmall }

/-- 'sheavelaw42.UnblockNone', WHERE WHAT IT READS IS OF BULK AT MOST 1048576: true; the input reads as it did. -/
def unblockNoneUptoRow : OpenClaim := { program := "ytjpgllmfenogoaagreat", sum := "fff9a142e491b2b012d8e0b13f07f44a1856509d995237d9466a0c1e90f0541a", func := "sheave/sheavelaw42.UnblockNone", spec := "unblockNone", unfollowed := true, recurses := true, apart := false, narrowed := true }
def UnblockNoneUptoSaid : Prop := unblockNoneUptoRow.holds Tryz.pinned (OpenSpec.upto unblockNoneSpec)

/-- 'sheavelaw42.UnblockMinimal', WHERE WHAT IT READS IS OF BULK AT MOST 1048576: true; the input reads as it did. -/
def unblockMinimalUptoRow : OpenClaim := { program := "ytjpgllmfenogoaagreat", sum := "fff9a142e491b2b012d8e0b13f07f44a1856509d995237d9466a0c1e90f0541a", func := "sheave/sheavelaw42.UnblockMinimal", spec := "unblockMinimal", unfollowed := true, recurses := true, apart := false, narrowed := true }
def UnblockMinimalUptoSaid : Prop := unblockMinimalUptoRow.holds Tryz.pinned (OpenSpec.upto unblockMinimalSpec)

/-- 'sheavelaw42.UnblockMore', WHERE WHAT IT READS IS OF BULK AT MOST 1048576: true; the input reads as it did. -/
def unblockMoreUptoRow : OpenClaim := { program := "ytjpgllmfenogoaagreat", sum := "fff9a142e491b2b012d8e0b13f07f44a1856509d995237d9466a0c1e90f0541a", func := "sheave/sheavelaw42.UnblockMore", spec := "unblockMore", unfollowed := true, recurses := true, apart := false, narrowed := true }
def UnblockMoreUptoSaid : Prop := unblockMoreUptoRow.holds Tryz.pinned (OpenSpec.upto unblockMoreSpec)

/-- 'sheavelaw42.UnblockWith', WHERE WHAT IT READS IS OF BULK AT MOST 1048576: true; the input reads as it did. -/
def unblockWithUptoRow : OpenClaim := { program := "ytjpgllmfenogoaagreat", sum := "fff9a142e491b2b012d8e0b13f07f44a1856509d995237d9466a0c1e90f0541a", func := "sheave/sheavelaw42.UnblockWith", spec := "unblockWith", unfollowed := true, recurses := true, apart := false, narrowed := true }
def UnblockWithUptoSaid : Prop := unblockWithUptoRow.holds Tryz.pinned (OpenSpec.upto unblockWithSpec)

/-- 'sheavelaw42.UnblockPlans', WHERE WHAT IT READS IS OF BULK AT MOST 1048576: true; the input reads as it did. -/
def unblockPlansUptoRow : OpenClaim := { program := "ytjpgllmfenogoaagreat", sum := "fff9a142e491b2b012d8e0b13f07f44a1856509d995237d9466a0c1e90f0541a", func := "sheave/sheavelaw42.UnblockPlans", spec := "unblockPlans", unfollowed := true, recurses := true, apart := false, narrowed := true }
def UnblockPlansUptoSaid : Prop := unblockPlansUptoRow.holds Tryz.pinned (OpenSpec.upto unblockPlansSpec)

/-- 'sheavelaw42.UnblockAll', WHERE WHAT IT READS IS OF BULK AT MOST 1048576: true; the input reads as it did. -/
def unblockAllUptoRow : OpenClaim := { program := "ytjpgllmfenogoaagreat", sum := "fff9a142e491b2b012d8e0b13f07f44a1856509d995237d9466a0c1e90f0541a", func := "sheave/sheavelaw42.UnblockAll", spec := "unblockAll", unfollowed := true, recurses := true, apart := false, narrowed := true }
def UnblockAllUptoSaid : Prop := unblockAllUptoRow.holds Tryz.pinned (OpenSpec.upto unblockAllSpec)

/-- 'sheavelaw42.UnblockErrors', WHERE WHAT IT READS IS OF BULK AT MOST 1048576: true; the input reads as it did. -/
def unblockErrorsUptoRow : OpenClaim := { program := "ytjpgllmfenogoaagreat", sum := "fff9a142e491b2b012d8e0b13f07f44a1856509d995237d9466a0c1e90f0541a", func := "sheave/sheavelaw42.UnblockErrors", spec := "unblockErrors", unfollowed := true, recurses := true, apart := false, narrowed := true }
def UnblockErrorsUptoSaid : Prop := unblockErrorsUptoRow.holds Tryz.pinned (OpenSpec.upto unblockErrorsSpec)

end Rows
end Go.Proofs.YtjpgllmfenogoaaGreat
