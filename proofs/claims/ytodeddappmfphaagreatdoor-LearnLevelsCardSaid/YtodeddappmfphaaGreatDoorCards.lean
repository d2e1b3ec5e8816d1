/-
  DERIVED. GIVEN WITH THE SEED: THE CARDS: each row of YtodeddappmfphaaGreatDoorRows.lean that lists a variable, with what it lists TIED to the program's text (the seventh form; the later family's looks); each row that meets fmt, with fmt's text TOLD by the authors' own Lean function (tested against real Go, not proved from fmt's source: count such statements apart). THE CARD IS WHAT COUNTS. Prove the row's statement (the work); the ties are given (YtodeddappmfphaaGreatDoorTie.lean); close each card by the builder's one call (the guide's Derived/Test/ToyasCard.lean, 'card_holds'). Laid BY PROGRAM, IN A SANDBOX (cutbox-door.mjs). By AI agents, Wed Nov 11 2026. No macro, syntax, notation, axiom, sorry.
-/
import Derived.Test.YtodeddappmfphaaGreatDoorRows
import GoSem.ClaimSeven
namespace Go.Proofs.YtodeddappmfphaaGreatDoor
namespace Rows

/-- THE TIED CARD OF 'theodolitelaw20.TrailActs'. -/
def trailActsCard : Claim7 := { stood := { row := trailActsRow, standIns := [], harness := (true, "efdd462a98b2a98613c0073963344c80e3e5dec8ae00cf93b7d857df38240785"), looks := false }, kinds := [], alts := [], laidByText := true, laidKinds := [.data, .data, .data], laidTests := true, laidLooks := .later }
def TrailActsCardSaid : Prop := Claim7.holds Tryz.pinned (.plain (OpenSpec.ofChange trailActsSpec)) trailActsCard

/-- THE TIED CARD OF 'theodolitelaw20.TrailBack'. -/
def trailBackCard : Claim7 := { stood := { row := trailBackRow, standIns := [], harness := (true, "efdd462a98b2a98613c0073963344c80e3e5dec8ae00cf93b7d857df38240785"), looks := false }, kinds := [], alts := [], laidByText := true, laidKinds := [.data, .data, .data], laidTests := true, laidLooks := .later }
def TrailBackCardSaid : Prop := Claim7.holds Tryz.pinned (.plain (OpenSpec.ofChange trailBackSpec)) trailBackCard

/-- THE TIED CARD OF 'theodolitelaw20.TrailLits'. -/
def trailLitsCard : Claim7 := { stood := { row := trailLitsRow, standIns := [], harness := (true, "efdd462a98b2a98613c0073963344c80e3e5dec8ae00cf93b7d857df38240785"), looks := false }, kinds := [], alts := [], laidByText := true, laidKinds := [.data, .data, .data], laidTests := true, laidLooks := .later }
def TrailLitsCardSaid : Prop := Claim7.holds Tryz.pinned (.plain (OpenSpec.ofChange trailLitsSpec)) trailLitsCard

/-- THE TIED CARD OF 'theodolitelaw20.TrailValues'. -/
def trailValuesCard : Claim7 := { stood := { row := trailValuesRow, standIns := [], harness := (true, "efdd462a98b2a98613c0073963344c80e3e5dec8ae00cf93b7d857df38240785"), looks := false }, kinds := [], alts := [], laidByText := true, laidKinds := [.data, .data, .data], laidTests := true, laidLooks := .later }
def TrailValuesCardSaid : Prop := Claim7.holds Tryz.pinned (.plain (OpenSpec.ofChange trailValuesSpec)) trailValuesCard

/-- THE TIED CARD OF 'theodolitelaw25.LearnRow'. -/
def learnRowCard : Claim7 := { stood := { row := learnRowRow, standIns := [], harness := (true, "efdd462a98b2a98613c0073963344c80e3e5dec8ae00cf93b7d857df38240785"), looks := false }, kinds := [], alts := [], laidByText := true, laidKinds := [.data, .data, .data], laidTests := true, laidLooks := .later }
def LearnRowCardSaid : Prop := Claim7.holds Tryz.pinned (.plain (OpenSpec.ofChange learnRowSpec)) learnRowCard

/-- THE TIED CARD OF 'theodolitelaw25.LearnLevels'. -/
def learnLevelsCard : Claim7 := { stood := { row := learnLevelsRow, standIns := [], harness := (true, "efdd462a98b2a98613c0073963344c80e3e5dec8ae00cf93b7d857df38240785"), looks := false }, kinds := [], alts := [], laidByText := true, laidKinds := [.data, .data, .data], laidTests := true, laidLooks := .later }
def LearnLevelsCardSaid : Prop := Claim7.holds Tryz.pinned (.plain (OpenSpec.ofChange learnLevelsSpec)) learnLevelsCard

/-- THE SECOND FORM's CARD OF 'theodolitelaw20.TrailActs'. -/
def trailActsUptoCard : Claim7 := { stood := { row := trailActsUptoRow, standIns := [], harness := (true, "efdd462a98b2a98613c0073963344c80e3e5dec8ae00cf93b7d857df38240785"), looks := false }, kinds := [], alts := [], laidByText := true, laidKinds := [.data, .data, .data], laidTests := true, laidLooks := .later }
def TrailActsUptoCardSaid : Prop := Claim7.holds Tryz.pinned (.plain (OpenSpec.upto trailActsSpec)) trailActsUptoCard

/-- THE SECOND FORM's CARD OF 'theodolitelaw20.TrailBack'. -/
def trailBackUptoCard : Claim7 := { stood := { row := trailBackUptoRow, standIns := [], harness := (true, "efdd462a98b2a98613c0073963344c80e3e5dec8ae00cf93b7d857df38240785"), looks := false }, kinds := [], alts := [], laidByText := true, laidKinds := [.data, .data, .data], laidTests := true, laidLooks := .later }
def TrailBackUptoCardSaid : Prop := Claim7.holds Tryz.pinned (.plain (OpenSpec.upto trailBackSpec)) trailBackUptoCard

/-- THE SECOND FORM's CARD OF 'theodolitelaw20.TrailLits'. -/
def trailLitsUptoCard : Claim7 := { stood := { row := trailLitsUptoRow, standIns := [], harness := (true, "efdd462a98b2a98613c0073963344c80e3e5dec8ae00cf93b7d857df38240785"), looks := false }, kinds := [], alts := [], laidByText := true, laidKinds := [.data, .data, .data], laidTests := true, laidLooks := .later }
def TrailLitsUptoCardSaid : Prop := Claim7.holds Tryz.pinned (.plain (OpenSpec.upto trailLitsSpec)) trailLitsUptoCard

/-- THE SECOND FORM's CARD OF 'theodolitelaw20.TrailValues'. -/
def trailValuesUptoCard : Claim7 := { stood := { row := trailValuesUptoRow, standIns := [], harness := (true, "efdd462a98b2a98613c0073963344c80e3e5dec8ae00cf93b7d857df38240785"), looks := false }, kinds := [], alts := [], laidByText := true, laidKinds := [.data, .data, .data], laidTests := true, laidLooks := .later }
def TrailValuesUptoCardSaid : Prop := Claim7.holds Tryz.pinned (.plain (OpenSpec.upto trailValuesSpec)) trailValuesUptoCard

/-- THE SECOND FORM's CARD OF 'theodolitelaw25.LearnRow'. -/
def learnRowUptoCard : Claim7 := { stood := { row := learnRowUptoRow, standIns := [], harness := (true, "efdd462a98b2a98613c0073963344c80e3e5dec8ae00cf93b7d857df38240785"), looks := false }, kinds := [], alts := [], laidByText := true, laidKinds := [.data, .data, .data], laidTests := true, laidLooks := .later }
def LearnRowUptoCardSaid : Prop := Claim7.holds Tryz.pinned (.plain (OpenSpec.upto learnRowSpec)) learnRowUptoCard

/-- THE SECOND FORM's CARD OF 'theodolitelaw25.LearnLevels'. -/
def learnLevelsUptoCard : Claim7 := { stood := { row := learnLevelsUptoRow, standIns := [], harness := (true, "efdd462a98b2a98613c0073963344c80e3e5dec8ae00cf93b7d857df38240785"), looks := false }, kinds := [], alts := [], laidByText := true, laidKinds := [.data, .data, .data], laidTests := true, laidLooks := .later }
def LearnLevelsUptoCardSaid : Prop := Claim7.holds Tryz.pinned (.plain (OpenSpec.upto learnLevelsSpec)) learnLevelsUptoCard
end Rows
end Go.Proofs.YtodeddappmfphaaGreatDoor
