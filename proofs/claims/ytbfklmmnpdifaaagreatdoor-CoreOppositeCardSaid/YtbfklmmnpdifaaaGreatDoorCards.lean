/-
  DERIVED. GIVEN WITH THE SEED: THE CARDS: each row of YtbfklmmnpdifaaaGreatDoorRows.lean that lists a variable, with what it lists TIED to the program's text (the seventh form; the later family's looks); each row that meets fmt, with fmt's text TOLD by the authors' own Lean function (tested against real Go, not proved from fmt's source: count such statements apart). THE CARD IS WHAT COUNTS. Prove the row's statement (the work); the ties are given (YtbfklmmnpdifaaaGreatDoorTie.lean); close each card by the builder's one call (the guide's Derived/Test/ToyasCard.lean, 'card_holds'). Laid BY PROGRAM, IN A SANDBOX (cutbox-door.mjs). By AI agents, Wed Nov 11 2026. No macro, syntax, notation, axiom, sorry.
-/
import Derived.Test.YtbfklmmnpdifaaaGreatDoorRows
import GoSem.ClaimSeven
namespace Go.Proofs.YtbfklmmnpdifaaaGreatDoor
namespace Rows

/-- THE TIED CARD OF 'sheavelaw41.CoreBlocks'. -/
def coreBlocksCard : Claim7 := { stood := { row := coreBlocksRow, standIns := [], harness := (true, "fcddfdc6d44c0b7914a0e085a67848f623285ed36f4788702ab1c5180702fea8"), looks := false }, kinds := [], alts := [], laidByText := true, laidKinds := [.data, .data], laidTests := true, laidLooks := .later }
def CoreBlocksCardSaid : Prop := Claim7.holds Tryz.pinned (.plain (OpenSpec.ofChange coreBlocksSpec)) coreBlocksCard

/-- THE TIED CARD OF 'sheavelaw41.CoreFree'. -/
def coreFreeCard : Claim7 := { stood := { row := coreFreeRow, standIns := [], harness := (true, "fcddfdc6d44c0b7914a0e085a67848f623285ed36f4788702ab1c5180702fea8"), looks := false }, kinds := [], alts := [], laidByText := true, laidKinds := [.data, .data], laidTests := true, laidLooks := .later }
def CoreFreeCardSaid : Prop := Claim7.holds Tryz.pinned (.plain (OpenSpec.ofChange coreFreeSpec)) coreFreeCard

/-- THE TIED CARD OF 'sheavelaw41.CoreOpposite'. -/
def coreOppositeCard : Claim7 := { stood := { row := coreOppositeRow, standIns := [], harness := (true, "fcddfdc6d44c0b7914a0e085a67848f623285ed36f4788702ab1c5180702fea8"), looks := false }, kinds := [], alts := [], laidByText := true, laidKinds := [.data, .data], laidTests := true, laidLooks := .later }
def CoreOppositeCardSaid : Prop := Claim7.holds Tryz.pinned (.plain (OpenSpec.ofChange coreOppositeSpec)) coreOppositeCard

/-- THE TIED CARD OF 'sheavelaw41.CoreAll'. -/
def coreAllCard : Claim7 := { stood := { row := coreAllRow, standIns := [], harness := (true, "fcddfdc6d44c0b7914a0e085a67848f623285ed36f4788702ab1c5180702fea8"), looks := false }, kinds := [], alts := [], laidByText := true, laidKinds := [.data, .data], laidTests := true, laidLooks := .later }
def CoreAllCardSaid : Prop := Claim7.holds Tryz.pinned (.plain (OpenSpec.ofChange coreAllSpec)) coreAllCard

/-- THE TIED CARD OF 'sheavelaw41.CoreCheck'. -/
def coreCheckCard : Claim7 := { stood := { row := coreCheckRow, standIns := [], harness := (true, "fcddfdc6d44c0b7914a0e085a67848f623285ed36f4788702ab1c5180702fea8"), looks := false }, kinds := [], alts := [], laidByText := true, laidKinds := [.data, .data], laidTests := true, laidLooks := .later }
def CoreCheckCardSaid : Prop := Claim7.holds Tryz.pinned (.plain (OpenSpec.ofChange coreCheckSpec)) coreCheckCard

/-- THE TIED CARD OF 'sheavelaw41.CoreCertificate'. -/
def coreCertificateCard : Claim7 := { stood := { row := coreCertificateRow, standIns := [], harness := (true, "fcddfdc6d44c0b7914a0e085a67848f623285ed36f4788702ab1c5180702fea8"), looks := false }, kinds := [], alts := [], laidByText := true, laidKinds := [.data, .data], laidTests := true, laidLooks := .later }
def CoreCertificateCardSaid : Prop := Claim7.holds Tryz.pinned (.plain (OpenSpec.ofChange coreCertificateSpec)) coreCertificateCard

/-- THE TIED CARD OF 'sheavelaw41.CoreErrors'. -/
def coreErrorsCard : Claim7 := { stood := { row := coreErrorsRow, standIns := [], harness := (true, "fcddfdc6d44c0b7914a0e085a67848f623285ed36f4788702ab1c5180702fea8"), looks := false }, kinds := [], alts := [], laidByText := true, laidKinds := [.data, .data], laidTests := true, laidLooks := .later }
def CoreErrorsCardSaid : Prop := Claim7.holds Tryz.pinned (.plain (OpenSpec.ofChange coreErrorsSpec)) coreErrorsCard

/-- THE SECOND FORM's CARD OF 'sheavelaw41.CoreBlocks'. -/
def coreBlocksUptoCard : Claim7 := { stood := { row := coreBlocksUptoRow, standIns := [], harness := (true, "fcddfdc6d44c0b7914a0e085a67848f623285ed36f4788702ab1c5180702fea8"), looks := false }, kinds := [], alts := [], laidByText := true, laidKinds := [.data, .data], laidTests := true, laidLooks := .later }
def CoreBlocksUptoCardSaid : Prop := Claim7.holds Tryz.pinned (.plain (OpenSpec.upto coreBlocksSpec)) coreBlocksUptoCard

/-- THE SECOND FORM's CARD OF 'sheavelaw41.CoreFree'. -/
def coreFreeUptoCard : Claim7 := { stood := { row := coreFreeUptoRow, standIns := [], harness := (true, "fcddfdc6d44c0b7914a0e085a67848f623285ed36f4788702ab1c5180702fea8"), looks := false }, kinds := [], alts := [], laidByText := true, laidKinds := [.data, .data], laidTests := true, laidLooks := .later }
def CoreFreeUptoCardSaid : Prop := Claim7.holds Tryz.pinned (.plain (OpenSpec.upto coreFreeSpec)) coreFreeUptoCard

/-- THE SECOND FORM's CARD OF 'sheavelaw41.CoreOpposite'. -/
def coreOppositeUptoCard : Claim7 := { stood := { row := coreOppositeUptoRow, standIns := [], harness := (true, "fcddfdc6d44c0b7914a0e085a67848f623285ed36f4788702ab1c5180702fea8"), looks := false }, kinds := [], alts := [], laidByText := true, laidKinds := [.data, .data], laidTests := true, laidLooks := .later }
def CoreOppositeUptoCardSaid : Prop := Claim7.holds Tryz.pinned (.plain (OpenSpec.upto coreOppositeSpec)) coreOppositeUptoCard

/-- THE SECOND FORM's CARD OF 'sheavelaw41.CoreAll'. -/
def coreAllUptoCard : Claim7 := { stood := { row := coreAllUptoRow, standIns := [], harness := (true, "fcddfdc6d44c0b7914a0e085a67848f623285ed36f4788702ab1c5180702fea8"), looks := false }, kinds := [], alts := [], laidByText := true, laidKinds := [.data, .data], laidTests := true, laidLooks := .later }
def CoreAllUptoCardSaid : Prop := Claim7.holds Tryz.pinned (.plain (OpenSpec.upto coreAllSpec)) coreAllUptoCard

/-- THE SECOND FORM's CARD OF 'sheavelaw41.CoreCheck'. -/
def coreCheckUptoCard : Claim7 := { stood := { row := coreCheckUptoRow, standIns := [], harness := (true, "fcddfdc6d44c0b7914a0e085a67848f623285ed36f4788702ab1c5180702fea8"), looks := false }, kinds := [], alts := [], laidByText := true, laidKinds := [.data, .data], laidTests := true, laidLooks := .later }
def CoreCheckUptoCardSaid : Prop := Claim7.holds Tryz.pinned (.plain (OpenSpec.upto coreCheckSpec)) coreCheckUptoCard

/-- THE SECOND FORM's CARD OF 'sheavelaw41.CoreCertificate'. -/
def coreCertificateUptoCard : Claim7 := { stood := { row := coreCertificateUptoRow, standIns := [], harness := (true, "fcddfdc6d44c0b7914a0e085a67848f623285ed36f4788702ab1c5180702fea8"), looks := false }, kinds := [], alts := [], laidByText := true, laidKinds := [.data, .data], laidTests := true, laidLooks := .later }
def CoreCertificateUptoCardSaid : Prop := Claim7.holds Tryz.pinned (.plain (OpenSpec.upto coreCertificateSpec)) coreCertificateUptoCard

/-- THE SECOND FORM's CARD OF 'sheavelaw41.CoreErrors'. -/
def coreErrorsUptoCard : Claim7 := { stood := { row := coreErrorsUptoRow, standIns := [], harness := (true, "fcddfdc6d44c0b7914a0e085a67848f623285ed36f4788702ab1c5180702fea8"), looks := false }, kinds := [], alts := [], laidByText := true, laidKinds := [.data, .data], laidTests := true, laidLooks := .later }
def CoreErrorsUptoCardSaid : Prop := Claim7.holds Tryz.pinned (.plain (OpenSpec.upto coreErrorsSpec)) coreErrorsUptoCard
end Rows
end Go.Proofs.YtbfklmmnpdifaaaGreatDoor
