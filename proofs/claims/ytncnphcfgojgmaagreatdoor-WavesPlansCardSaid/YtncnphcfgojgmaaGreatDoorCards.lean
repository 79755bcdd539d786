/-
  DERIVED. GIVEN WITH THE SEED: THE CARDS: each row of YtncnphcfgojgmaaGreatDoorRows.lean that lists a variable, with what it lists TIED to the program's text (the seventh form; the later family's looks); each row that meets fmt, with fmt's text TOLD by the authors' own Lean function (tested against real Go, not proved from fmt's source: count such statements apart). THE CARD IS WHAT COUNTS. Prove the row's statement (the work); the ties are given (YtncnphcfgojgmaaGreatDoorTie.lean); close each card by the builder's one call (the guide's Derived/Test/ToyasCard.lean, 'card_holds'). Laid BY PROGRAM, IN A SANDBOX (cutbox-door.mjs). By AI agents, Wed Nov 11 2026. No macro, syntax, notation, axiom, sorry.
-/
import Derived.Test.YtncnphcfgojgmaaGreatDoorRows
import GoSem.ClaimSeven
namespace Go.Proofs.YtncnphcfgojgmaaGreatDoor
namespace Rows

/-- THE TIED CARD OF 'sheavelaw43.WavesFine'. -/
def wavesFineCard : Claim7 := { stood := { row := wavesFineRow, standIns := [], harness := (true, "709223896d8dc21d4abb6f17d208ec6cc1e08b0841b4c4726a91b42f2976ee8c"), looks := false }, kinds := [], alts := [], laidByText := true, laidKinds := [.data, .data, .data], laidTests := true, laidLooks := .later }
def WavesFineCardSaid : Prop := Claim7.holds Tryz.pinned (.plain (OpenSpec.ofChange wavesFineSpec)) wavesFineCard

/-- THE TIED CARD OF 'sheavelaw43.WavesBad'. -/
def wavesBadCard : Claim7 := { stood := { row := wavesBadRow, standIns := [], harness := (true, "709223896d8dc21d4abb6f17d208ec6cc1e08b0841b4c4726a91b42f2976ee8c"), looks := false }, kinds := [], alts := [], laidByText := true, laidKinds := [.data, .data, .data], laidTests := true, laidLooks := .later }
def WavesBadCardSaid : Prop := Claim7.holds Tryz.pinned (.plain (OpenSpec.ofChange wavesBadSpec)) wavesBadCard

/-- THE TIED CARD OF 'sheavelaw43.WavesOf'. -/
def wavesOfCard : Claim7 := { stood := { row := wavesOfRow, standIns := [], harness := (true, "709223896d8dc21d4abb6f17d208ec6cc1e08b0841b4c4726a91b42f2976ee8c"), looks := false }, kinds := [], alts := [], laidByText := true, laidKinds := [.data, .data, .data], laidTests := true, laidLooks := .later }
def WavesOfCardSaid : Prop := Claim7.holds Tryz.pinned (.plain (OpenSpec.ofChange wavesOfSpec)) wavesOfCard

/-- THE TIED CARD OF 'sheavelaw43.WavesPlans'. -/
def wavesPlansCard : Claim7 := { stood := { row := wavesPlansRow, standIns := [], harness := (true, "709223896d8dc21d4abb6f17d208ec6cc1e08b0841b4c4726a91b42f2976ee8c"), looks := false }, kinds := [], alts := [], laidByText := true, laidKinds := [.data, .data, .data], laidTests := true, laidLooks := .later }
def WavesPlansCardSaid : Prop := Claim7.holds Tryz.pinned (.plain (OpenSpec.ofChange wavesPlansSpec)) wavesPlansCard

/-- THE SECOND FORM's CARD OF 'sheavelaw43.WavesFine'. -/
def wavesFineUptoCard : Claim7 := { stood := { row := wavesFineUptoRow, standIns := [], harness := (true, "709223896d8dc21d4abb6f17d208ec6cc1e08b0841b4c4726a91b42f2976ee8c"), looks := false }, kinds := [], alts := [], laidByText := true, laidKinds := [.data, .data, .data], laidTests := true, laidLooks := .later }
def WavesFineUptoCardSaid : Prop := Claim7.holds Tryz.pinned (.plain (OpenSpec.upto wavesFineSpec)) wavesFineUptoCard

/-- THE SECOND FORM's CARD OF 'sheavelaw43.WavesBad'. -/
def wavesBadUptoCard : Claim7 := { stood := { row := wavesBadUptoRow, standIns := [], harness := (true, "709223896d8dc21d4abb6f17d208ec6cc1e08b0841b4c4726a91b42f2976ee8c"), looks := false }, kinds := [], alts := [], laidByText := true, laidKinds := [.data, .data, .data], laidTests := true, laidLooks := .later }
def WavesBadUptoCardSaid : Prop := Claim7.holds Tryz.pinned (.plain (OpenSpec.upto wavesBadSpec)) wavesBadUptoCard

/-- THE SECOND FORM's CARD OF 'sheavelaw43.WavesOf'. -/
def wavesOfUptoCard : Claim7 := { stood := { row := wavesOfUptoRow, standIns := [], harness := (true, "709223896d8dc21d4abb6f17d208ec6cc1e08b0841b4c4726a91b42f2976ee8c"), looks := false }, kinds := [], alts := [], laidByText := true, laidKinds := [.data, .data, .data], laidTests := true, laidLooks := .later }
def WavesOfUptoCardSaid : Prop := Claim7.holds Tryz.pinned (.plain (OpenSpec.upto wavesOfSpec)) wavesOfUptoCard

/-- THE SECOND FORM's CARD OF 'sheavelaw43.WavesPlans'. -/
def wavesPlansUptoCard : Claim7 := { stood := { row := wavesPlansUptoRow, standIns := [], harness := (true, "709223896d8dc21d4abb6f17d208ec6cc1e08b0841b4c4726a91b42f2976ee8c"), looks := false }, kinds := [], alts := [], laidByText := true, laidKinds := [.data, .data, .data], laidTests := true, laidLooks := .later }
def WavesPlansUptoCardSaid : Prop := Claim7.holds Tryz.pinned (.plain (OpenSpec.upto wavesPlansSpec)) wavesPlansUptoCard
end Rows
end Go.Proofs.YtncnphcfgojgmaaGreatDoor
