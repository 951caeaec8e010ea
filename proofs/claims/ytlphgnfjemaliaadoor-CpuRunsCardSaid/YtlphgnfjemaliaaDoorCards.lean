/-
  DERIVED. GIVEN WITH THE SEED: THE CARDS: each row of YtlphgnfjemaliaaDoorRows.lean that lists a variable, with what it lists TIED to the program's text (the seventh form; the later family's looks); each row that meets fmt, with fmt's text TOLD by the authors' own Lean function (tested against real Go, not proved from fmt's source: count such statements apart). THE CARD IS WHAT COUNTS. Prove the row's statement (the work); the ties are given (YtlphgnfjemaliaaDoorTie.lean); close each card by the builder's one call (the guide's Derived/Test/ToyasCard.lean, 'card_holds'). Laid BY PROGRAM, IN A SANDBOX (cutbox-door.mjs). By AI agents, Wed Nov 11 2026. No macro, syntax, notation, axiom, sorry.
-/
import Derived.Test.YtlphgnfjemaliaaDoorRows
import GoSem.ClaimSeven
namespace Go.Proofs.YtlphgnfjemaliaaDoor
namespace Rows

/-- THE TIED CARD OF 'quarterdecklaw05.CpuStores'. -/
def cpuStoresCard : Claim7 := { stood := { row := cpuStoresRow, standIns := [], harness := (true, "68fa7e91187d25d5a423ab68f2f4f52054c843595139caf6b646b70df189c281"), looks := true }, kinds := [], alts := [], laidByText := true, laidKinds := [.data, .data], laidTests := true, laidLooks := .later }
def CpuStoresCardSaid : Prop := Claim7.holds Tryd.pinned (.plain (OpenSpec.ofChange cpuStoresSpec)) cpuStoresCard

/-- THE TIED CARD OF 'quarterdecklaw05.CpuRuns'. -/
def cpuRunsCard : Claim7 := { stood := { row := cpuRunsRow, standIns := [], harness := (true, "68fa7e91187d25d5a423ab68f2f4f52054c843595139caf6b646b70df189c281"), looks := true }, kinds := [], alts := [], laidByText := true, laidKinds := [.data, .data], laidTests := true, laidLooks := .later }
def CpuRunsCardSaid : Prop := Claim7.holds Tryd.pinned (.plain (OpenSpec.ofChange cpuRunsSpec)) cpuRunsCard

/-- THE TIED CARD OF 'quarterdecklaw05.CpuSteps'. -/
def cpuStepsCard : Claim7 := { stood := { row := cpuStepsRow, standIns := [], harness := (true, "68fa7e91187d25d5a423ab68f2f4f52054c843595139caf6b646b70df189c281"), looks := true }, kinds := [], alts := [], laidByText := true, laidKinds := [.data, .data], laidTests := true, laidLooks := .later }
def CpuStepsCardSaid : Prop := Claim7.holds Tryd.pinned (.plain (OpenSpec.ofChange cpuStepsSpec)) cpuStepsCard

/-- THE TIED CARD OF 'quarterdecklaw05.CpuFaults'. -/
def cpuFaultsCard : Claim7 := { stood := { row := cpuFaultsRow, standIns := [], harness := (true, "68fa7e91187d25d5a423ab68f2f4f52054c843595139caf6b646b70df189c281"), looks := true }, kinds := [], alts := [], laidByText := true, laidKinds := [.data, .data], laidTests := true, laidLooks := .later }
def CpuFaultsCardSaid : Prop := Claim7.holds Tryd.pinned (.plain (OpenSpec.ofChange cpuFaultsSpec)) cpuFaultsCard

/-- THE TIED CARD OF 'quarterdecklaw05.CpuBlind'. -/
def cpuBlindCard : Claim7 := { stood := { row := cpuBlindRow, standIns := [], harness := (true, "68fa7e91187d25d5a423ab68f2f4f52054c843595139caf6b646b70df189c281"), looks := true }, kinds := [], alts := [], laidByText := true, laidKinds := [.data, .data], laidTests := true, laidLooks := .later }
def CpuBlindCardSaid : Prop := Claim7.holds Tryd.pinned (.plain (OpenSpec.ofChange cpuBlindSpec)) cpuBlindCard

/-- THE TIED CARD OF 'quarterdecklaw05.CpuAdds'. -/
def cpuAddsCard : Claim7 := { stood := { row := cpuAddsRow, standIns := [], harness := (true, "68fa7e91187d25d5a423ab68f2f4f52054c843595139caf6b646b70df189c281"), looks := true }, kinds := [], alts := [], laidByText := true, laidKinds := [.data, .data], laidTests := true, laidLooks := .later }
def CpuAddsCardSaid : Prop := Claim7.holds Tryd.pinned (.plain (OpenSpec.ofChange cpuAddsSpec)) cpuAddsCard

/-- THE TIED CARD OF 'quarterdecklaw05.CpuJumps'. -/
def cpuJumpsCard : Claim7 := { stood := { row := cpuJumpsRow, standIns := [], harness := (true, "68fa7e91187d25d5a423ab68f2f4f52054c843595139caf6b646b70df189c281"), looks := true }, kinds := [], alts := [], laidByText := true, laidKinds := [.data, .data], laidTests := true, laidLooks := .later }
def CpuJumpsCardSaid : Prop := Claim7.holds Tryd.pinned (.plain (OpenSpec.ofChange cpuJumpsSpec)) cpuJumpsCard

/-- THE SECOND FORM's CARD OF 'quarterdecklaw05.CpuStores'. -/
def cpuStoresUptoCard : Claim7 := { stood := { row := cpuStoresUptoRow, standIns := [], harness := (true, "68fa7e91187d25d5a423ab68f2f4f52054c843595139caf6b646b70df189c281"), looks := true }, kinds := [], alts := [], laidByText := true, laidKinds := [.data, .data], laidTests := true, laidLooks := .later }
def CpuStoresUptoCardSaid : Prop := Claim7.holds Tryd.pinned (.plain (OpenSpec.upto cpuStoresSpec)) cpuStoresUptoCard

/-- THE SECOND FORM's CARD OF 'quarterdecklaw05.CpuRuns'. -/
def cpuRunsUptoCard : Claim7 := { stood := { row := cpuRunsUptoRow, standIns := [], harness := (true, "68fa7e91187d25d5a423ab68f2f4f52054c843595139caf6b646b70df189c281"), looks := true }, kinds := [], alts := [], laidByText := true, laidKinds := [.data, .data], laidTests := true, laidLooks := .later }
def CpuRunsUptoCardSaid : Prop := Claim7.holds Tryd.pinned (.plain (OpenSpec.upto cpuRunsSpec)) cpuRunsUptoCard

/-- THE SECOND FORM's CARD OF 'quarterdecklaw05.CpuSteps'. -/
def cpuStepsUptoCard : Claim7 := { stood := { row := cpuStepsUptoRow, standIns := [], harness := (true, "68fa7e91187d25d5a423ab68f2f4f52054c843595139caf6b646b70df189c281"), looks := true }, kinds := [], alts := [], laidByText := true, laidKinds := [.data, .data], laidTests := true, laidLooks := .later }
def CpuStepsUptoCardSaid : Prop := Claim7.holds Tryd.pinned (.plain (OpenSpec.upto cpuStepsSpec)) cpuStepsUptoCard

/-- THE SECOND FORM's CARD OF 'quarterdecklaw05.CpuFaults'. -/
def cpuFaultsUptoCard : Claim7 := { stood := { row := cpuFaultsUptoRow, standIns := [], harness := (true, "68fa7e91187d25d5a423ab68f2f4f52054c843595139caf6b646b70df189c281"), looks := true }, kinds := [], alts := [], laidByText := true, laidKinds := [.data, .data], laidTests := true, laidLooks := .later }
def CpuFaultsUptoCardSaid : Prop := Claim7.holds Tryd.pinned (.plain (OpenSpec.upto cpuFaultsSpec)) cpuFaultsUptoCard

/-- THE SECOND FORM's CARD OF 'quarterdecklaw05.CpuBlind'. -/
def cpuBlindUptoCard : Claim7 := { stood := { row := cpuBlindUptoRow, standIns := [], harness := (true, "68fa7e91187d25d5a423ab68f2f4f52054c843595139caf6b646b70df189c281"), looks := true }, kinds := [], alts := [], laidByText := true, laidKinds := [.data, .data], laidTests := true, laidLooks := .later }
def CpuBlindUptoCardSaid : Prop := Claim7.holds Tryd.pinned (.plain (OpenSpec.upto cpuBlindSpec)) cpuBlindUptoCard

/-- THE SECOND FORM's CARD OF 'quarterdecklaw05.CpuAdds'. -/
def cpuAddsUptoCard : Claim7 := { stood := { row := cpuAddsUptoRow, standIns := [], harness := (true, "68fa7e91187d25d5a423ab68f2f4f52054c843595139caf6b646b70df189c281"), looks := true }, kinds := [], alts := [], laidByText := true, laidKinds := [.data, .data], laidTests := true, laidLooks := .later }
def CpuAddsUptoCardSaid : Prop := Claim7.holds Tryd.pinned (.plain (OpenSpec.upto cpuAddsSpec)) cpuAddsUptoCard

/-- THE SECOND FORM's CARD OF 'quarterdecklaw05.CpuJumps'. -/
def cpuJumpsUptoCard : Claim7 := { stood := { row := cpuJumpsUptoRow, standIns := [], harness := (true, "68fa7e91187d25d5a423ab68f2f4f52054c843595139caf6b646b70df189c281"), looks := true }, kinds := [], alts := [], laidByText := true, laidKinds := [.data, .data], laidTests := true, laidLooks := .later }
def CpuJumpsUptoCardSaid : Prop := Claim7.holds Tryd.pinned (.plain (OpenSpec.upto cpuJumpsSpec)) cpuJumpsUptoCard
end Rows
end Go.Proofs.YtlphgnfjemaliaaDoor
