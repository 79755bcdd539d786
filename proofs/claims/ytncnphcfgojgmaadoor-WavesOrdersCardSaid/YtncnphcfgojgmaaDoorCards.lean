/-
  DERIVED. GIVEN WITH THE SEED: THE CARDS: each row of YtncnphcfgojgmaaDoorRows.lean that lists a variable, with what it lists TIED to the program's text (the seventh form; the later family's looks); each row that meets fmt, with fmt's text TOLD by the authors' own Lean function (tested against real Go, not proved from fmt's source: count such statements apart). THE CARD IS WHAT COUNTS. Prove the row's statement (the work); the ties are given (YtncnphcfgojgmaaDoorTie.lean); close each card by the builder's one call (the guide's Derived/Test/ToyasCard.lean, 'card_holds'). Laid BY PROGRAM, IN A SANDBOX (cutbox-door.mjs). By AI agents, Wed Nov 11 2026. No macro, syntax, notation, axiom, sorry.
-/
import Derived.Test.YtncnphcfgojgmaaDoorRows
import GoSem.ClaimSeven
namespace Go.Proofs.YtncnphcfgojgmaaDoor
namespace Rows

/-- THE TIED CARD OF 'sheavelaw43.WavesOrder'. -/
def wavesOrderCard : Claim7 := { stood := { row := wavesOrderRow, standIns := [], harness := (true, "b9b3f5dfc8403cf1e27b77ffa00266c79291a758b11500337d5b3e9584ee196b"), looks := false }, kinds := [], alts := [], laidByText := true, laidKinds := [.data, .data, .data], laidTests := true, laidLooks := .later }
def WavesOrderCardSaid : Prop := Claim7.holds Tryd.pinned (.plain (OpenSpec.ofChange wavesOrderSpec)) wavesOrderCard

/-- THE TIED CARD OF 'sheavelaw43.WavesErrors'. -/
def wavesErrorsCard : Claim7 := { stood := { row := wavesErrorsRow, standIns := [], harness := (true, "b9b3f5dfc8403cf1e27b77ffa00266c79291a758b11500337d5b3e9584ee196b"), looks := false }, kinds := [], alts := [], laidByText := true, laidKinds := [.data, .data, .data], laidTests := true, laidLooks := .later }
def WavesErrorsCardSaid : Prop := Claim7.holds Tryd.pinned (.plain (OpenSpec.ofChange wavesErrorsSpec)) wavesErrorsCard

/-- THE TIED CARD OF 'sheavelaw43.WavesOrders'. -/
def wavesOrdersCard : Claim7 := { stood := { row := wavesOrdersRow, standIns := [], harness := (true, "b9b3f5dfc8403cf1e27b77ffa00266c79291a758b11500337d5b3e9584ee196b"), looks := false }, kinds := [], alts := [], laidByText := true, laidKinds := [.data, .data, .data], laidTests := true, laidLooks := .later }
def WavesOrdersCardSaid : Prop := Claim7.holds Tryd.pinned (.plain (OpenSpec.ofChange wavesOrdersSpec)) wavesOrdersCard

/-- THE SECOND FORM's CARD OF 'sheavelaw43.WavesOrder'. -/
def wavesOrderUptoCard : Claim7 := { stood := { row := wavesOrderUptoRow, standIns := [], harness := (true, "b9b3f5dfc8403cf1e27b77ffa00266c79291a758b11500337d5b3e9584ee196b"), looks := false }, kinds := [], alts := [], laidByText := true, laidKinds := [.data, .data, .data], laidTests := true, laidLooks := .later }
def WavesOrderUptoCardSaid : Prop := Claim7.holds Tryd.pinned (.plain (OpenSpec.upto wavesOrderSpec)) wavesOrderUptoCard

/-- THE SECOND FORM's CARD OF 'sheavelaw43.WavesErrors'. -/
def wavesErrorsUptoCard : Claim7 := { stood := { row := wavesErrorsUptoRow, standIns := [], harness := (true, "b9b3f5dfc8403cf1e27b77ffa00266c79291a758b11500337d5b3e9584ee196b"), looks := false }, kinds := [], alts := [], laidByText := true, laidKinds := [.data, .data, .data], laidTests := true, laidLooks := .later }
def WavesErrorsUptoCardSaid : Prop := Claim7.holds Tryd.pinned (.plain (OpenSpec.upto wavesErrorsSpec)) wavesErrorsUptoCard

/-- THE SECOND FORM's CARD OF 'sheavelaw43.WavesOrders'. -/
def wavesOrdersUptoCard : Claim7 := { stood := { row := wavesOrdersUptoRow, standIns := [], harness := (true, "b9b3f5dfc8403cf1e27b77ffa00266c79291a758b11500337d5b3e9584ee196b"), looks := false }, kinds := [], alts := [], laidByText := true, laidKinds := [.data, .data, .data], laidTests := true, laidLooks := .later }
def WavesOrdersUptoCardSaid : Prop := Claim7.holds Tryd.pinned (.plain (OpenSpec.upto wavesOrdersSpec)) wavesOrdersUptoCard
end Rows
end Go.Proofs.YtncnphcfgojgmaaDoor
