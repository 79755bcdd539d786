/-
  DERIVED. GIVEN WITH THE SEED: THE CARDS: each row of YtfgobbnahihlfaaGreatDoorRows.lean that lists a variable, with what it lists TIED to the program's text (the seventh form; the later family's looks); each row that meets fmt, with fmt's text TOLD by the authors' own Lean function (tested against real Go, not proved from fmt's source: count such statements apart). THE CARD IS WHAT COUNTS. Prove the row's statement (the work); the ties are given (YtfgobbnahihlfaaGreatDoorTie.lean); close each card by the builder's one call (the guide's Derived/Test/ToyasCard.lean, 'card_holds'). Laid BY PROGRAM, IN A SANDBOX (cutbox-door.mjs). By AI agents, Wed Nov 11 2026. No macro, syntax, notation, axiom, sorry.
-/
import Derived.Test.YtfgobbnahihlfaaGreatDoorRows
import GoSem.ClaimSeven
namespace Go.Proofs.YtfgobbnahihlfaaGreatDoor
namespace Rows

/-- THE TIED CARD OF 'sheavelaw57.AuditFirst'. -/
def auditFirstCard : Claim7 := { stood := { row := auditFirstRow, standIns := [], harness := (true, "f02cfd2a81092eafde4a34b1e110c34e956ef007a8919ef01295b10445f264fb"), looks := false }, kinds := [], alts := [], laidByText := true, laidKinds := [.data, .data, .data], laidTests := true, laidLooks := .later }
def AuditFirstCardSaid : Prop := Claim7.holds Tryz.pinned (.plain (OpenSpec.ofChange auditFirstSpec)) auditFirstCard

/-- THE TIED CARD OF 'sheavelaw57.AuditMix'. -/
def auditMixCard : Claim7 := { stood := { row := auditMixRow, standIns := [], harness := (true, "f02cfd2a81092eafde4a34b1e110c34e956ef007a8919ef01295b10445f264fb"), looks := false }, kinds := [], alts := [], laidByText := true, laidKinds := [.data, .data, .data], laidTests := true, laidLooks := .later }
def AuditMixCardSaid : Prop := Claim7.holds Tryz.pinned (.plain (OpenSpec.ofChange auditMixSpec)) auditMixCard

/-- THE TIED CARD OF 'sheavelaw57.AuditFormat'. -/
def auditFormatCard : Claim7 := { stood := { row := auditFormatRow, standIns := [], harness := (true, "f02cfd2a81092eafde4a34b1e110c34e956ef007a8919ef01295b10445f264fb"), looks := false }, kinds := [], alts := [], laidByText := true, laidKinds := [.data, .data, .data], laidTests := true, laidLooks := .later }
def AuditFormatCardSaid : Prop := Claim7.holds Tryz.pinned (.plain (OpenSpec.ofChange auditFormatSpec)) auditFormatCard

/-- THE TIED CARD OF 'sheavelaw57.AuditCorrect'. -/
def auditCorrectCard : Claim7 := { stood := { row := auditCorrectRow, standIns := [], harness := (true, "f02cfd2a81092eafde4a34b1e110c34e956ef007a8919ef01295b10445f264fb"), looks := false }, kinds := [], alts := [], laidByText := true, laidKinds := [.data, .data, .data], laidTests := true, laidLooks := .later }
def AuditCorrectCardSaid : Prop := Claim7.holds Tryz.pinned (.plain (OpenSpec.ofChange auditCorrectSpec)) auditCorrectCard

/-- THE TIED CARD OF 'sheavelaw57.AuditLonger'. -/
def auditLongerCard : Claim7 := { stood := { row := auditLongerRow, standIns := [], harness := (true, "f02cfd2a81092eafde4a34b1e110c34e956ef007a8919ef01295b10445f264fb"), looks := false }, kinds := [], alts := [], laidByText := true, laidKinds := [.data, .data, .data], laidTests := true, laidLooks := .later }
def AuditLongerCardSaid : Prop := Claim7.holds Tryz.pinned (.plain (OpenSpec.ofChange auditLongerSpec)) auditLongerCard

/-- THE TIED CARD OF 'sheavelaw57.AuditComplete'. -/
def auditCompleteCard : Claim7 := { stood := { row := auditCompleteRow, standIns := [], harness := (true, "f02cfd2a81092eafde4a34b1e110c34e956ef007a8919ef01295b10445f264fb"), looks := false }, kinds := [], alts := [], laidByText := true, laidKinds := [.data, .data, .data], laidTests := true, laidLooks := .later }
def AuditCompleteCardSaid : Prop := Claim7.holds Tryz.pinned (.plain (OpenSpec.ofChange auditCompleteSpec)) auditCompleteCard

/-- THE TIED CARD OF 'sheavelaw57.AuditParts'. -/
def auditPartsCard : Claim7 := { stood := { row := auditPartsRow, standIns := [], harness := (true, "f02cfd2a81092eafde4a34b1e110c34e956ef007a8919ef01295b10445f264fb"), looks := false }, kinds := [], alts := [], laidByText := true, laidKinds := [.data, .data, .data], laidTests := true, laidLooks := .later }
def AuditPartsCardSaid : Prop := Claim7.holds Tryz.pinned (.plain (OpenSpec.ofChange auditPartsSpec)) auditPartsCard

/-- THE TIED CARD OF 'sheavelaw57.AuditSpoiled'. -/
def auditSpoiledCard : Claim7 := { stood := { row := auditSpoiledRow, standIns := [], harness := (true, "f02cfd2a81092eafde4a34b1e110c34e956ef007a8919ef01295b10445f264fb"), looks := false }, kinds := [], alts := [], laidByText := true, laidKinds := [.data, .data, .data], laidTests := true, laidLooks := .later }
def AuditSpoiledCardSaid : Prop := Claim7.holds Tryz.pinned (.plain (OpenSpec.ofChange auditSpoiledSpec)) auditSpoiledCard

/-- THE SECOND FORM's CARD OF 'sheavelaw57.AuditFirst'. -/
def auditFirstUptoCard : Claim7 := { stood := { row := auditFirstUptoRow, standIns := [], harness := (true, "f02cfd2a81092eafde4a34b1e110c34e956ef007a8919ef01295b10445f264fb"), looks := false }, kinds := [], alts := [], laidByText := true, laidKinds := [.data, .data, .data], laidTests := true, laidLooks := .later }
def AuditFirstUptoCardSaid : Prop := Claim7.holds Tryz.pinned (.plain (OpenSpec.upto auditFirstSpec)) auditFirstUptoCard

/-- THE SECOND FORM's CARD OF 'sheavelaw57.AuditMix'. -/
def auditMixUptoCard : Claim7 := { stood := { row := auditMixUptoRow, standIns := [], harness := (true, "f02cfd2a81092eafde4a34b1e110c34e956ef007a8919ef01295b10445f264fb"), looks := false }, kinds := [], alts := [], laidByText := true, laidKinds := [.data, .data, .data], laidTests := true, laidLooks := .later }
def AuditMixUptoCardSaid : Prop := Claim7.holds Tryz.pinned (.plain (OpenSpec.upto auditMixSpec)) auditMixUptoCard

/-- THE SECOND FORM's CARD OF 'sheavelaw57.AuditFormat'. -/
def auditFormatUptoCard : Claim7 := { stood := { row := auditFormatUptoRow, standIns := [], harness := (true, "f02cfd2a81092eafde4a34b1e110c34e956ef007a8919ef01295b10445f264fb"), looks := false }, kinds := [], alts := [], laidByText := true, laidKinds := [.data, .data, .data], laidTests := true, laidLooks := .later }
def AuditFormatUptoCardSaid : Prop := Claim7.holds Tryz.pinned (.plain (OpenSpec.upto auditFormatSpec)) auditFormatUptoCard

/-- THE SECOND FORM's CARD OF 'sheavelaw57.AuditCorrect'. -/
def auditCorrectUptoCard : Claim7 := { stood := { row := auditCorrectUptoRow, standIns := [], harness := (true, "f02cfd2a81092eafde4a34b1e110c34e956ef007a8919ef01295b10445f264fb"), looks := false }, kinds := [], alts := [], laidByText := true, laidKinds := [.data, .data, .data], laidTests := true, laidLooks := .later }
def AuditCorrectUptoCardSaid : Prop := Claim7.holds Tryz.pinned (.plain (OpenSpec.upto auditCorrectSpec)) auditCorrectUptoCard

/-- THE SECOND FORM's CARD OF 'sheavelaw57.AuditLonger'. -/
def auditLongerUptoCard : Claim7 := { stood := { row := auditLongerUptoRow, standIns := [], harness := (true, "f02cfd2a81092eafde4a34b1e110c34e956ef007a8919ef01295b10445f264fb"), looks := false }, kinds := [], alts := [], laidByText := true, laidKinds := [.data, .data, .data], laidTests := true, laidLooks := .later }
def AuditLongerUptoCardSaid : Prop := Claim7.holds Tryz.pinned (.plain (OpenSpec.upto auditLongerSpec)) auditLongerUptoCard

/-- THE SECOND FORM's CARD OF 'sheavelaw57.AuditComplete'. -/
def auditCompleteUptoCard : Claim7 := { stood := { row := auditCompleteUptoRow, standIns := [], harness := (true, "f02cfd2a81092eafde4a34b1e110c34e956ef007a8919ef01295b10445f264fb"), looks := false }, kinds := [], alts := [], laidByText := true, laidKinds := [.data, .data, .data], laidTests := true, laidLooks := .later }
def AuditCompleteUptoCardSaid : Prop := Claim7.holds Tryz.pinned (.plain (OpenSpec.upto auditCompleteSpec)) auditCompleteUptoCard

/-- THE SECOND FORM's CARD OF 'sheavelaw57.AuditParts'. -/
def auditPartsUptoCard : Claim7 := { stood := { row := auditPartsUptoRow, standIns := [], harness := (true, "f02cfd2a81092eafde4a34b1e110c34e956ef007a8919ef01295b10445f264fb"), looks := false }, kinds := [], alts := [], laidByText := true, laidKinds := [.data, .data, .data], laidTests := true, laidLooks := .later }
def AuditPartsUptoCardSaid : Prop := Claim7.holds Tryz.pinned (.plain (OpenSpec.upto auditPartsSpec)) auditPartsUptoCard

/-- THE SECOND FORM's CARD OF 'sheavelaw57.AuditSpoiled'. -/
def auditSpoiledUptoCard : Claim7 := { stood := { row := auditSpoiledUptoRow, standIns := [], harness := (true, "f02cfd2a81092eafde4a34b1e110c34e956ef007a8919ef01295b10445f264fb"), looks := false }, kinds := [], alts := [], laidByText := true, laidKinds := [.data, .data, .data], laidTests := true, laidLooks := .later }
def AuditSpoiledUptoCardSaid : Prop := Claim7.holds Tryz.pinned (.plain (OpenSpec.upto auditSpoiledSpec)) auditSpoiledUptoCard
end Rows
end Go.Proofs.YtfgobbnahihlfaaGreatDoor
