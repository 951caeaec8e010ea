/-
  DERIVED. GIVEN WITH THE SEED: THE CARDS: each row of YtiacjnmkomfdaaaDoorRows.lean that lists a variable, with what it lists TIED to the program's text (the seventh form; the later family's looks); each row that meets fmt, with fmt's text TOLD by the authors' own Lean function (tested against real Go, not proved from fmt's source: count such statements apart). THE CARD IS WHAT COUNTS. Prove the row's statement (the work); the ties are given (YtiacjnmkomfdaaaDoorTie.lean); close each card by the builder's one call (the guide's Derived/Test/ToyasCard.lean, 'card_holds'). Laid BY PROGRAM, IN A SANDBOX (cutbox-door.mjs). By AI agents, Wed Nov 11 2026. No macro, syntax, notation, axiom, sorry.
-/
import Derived.Test.YtiacjnmkomfdaaaDoorRows
import GoSem.ClaimSeven
namespace Go.Proofs.YtiacjnmkomfdaaaDoor
namespace Rows

/-- THE TIED CARD OF 'quarterdecklaw04.InstrRange'. -/
def instrRangeCard : Claim7 := { stood := { row := instrRangeRow, standIns := [], harness := (true, "f3261fe95f0a21700575a6536125b99884862be227d8c2d03f3ba74335248dfa"), looks := false }, kinds := [], alts := [], laidByText := true, laidKinds := [.data, .data], laidTests := true, laidLooks := .later }
def InstrRangeCardSaid : Prop := Claim7.holds Tryd.pinned (.plain (OpenSpec.ofChange instrRangeSpec)) instrRangeCard

/-- THE TIED CARD OF 'quarterdecklaw04.InstrPuts'. -/
def instrPutsCard : Claim7 := { stood := { row := instrPutsRow, standIns := [], harness := (true, "f3261fe95f0a21700575a6536125b99884862be227d8c2d03f3ba74335248dfa"), looks := false }, kinds := [], alts := [], laidByText := true, laidKinds := [.data, .data], laidTests := true, laidLooks := .later }
def InstrPutsCardSaid : Prop := Claim7.holds Tryd.pinned (.plain (OpenSpec.ofChange instrPutsSpec)) instrPutsCard

/-- THE TIED CARD OF 'quarterdecklaw04.InstrJoins'. -/
def instrJoinsCard : Claim7 := { stood := { row := instrJoinsRow, standIns := [], harness := (true, "f3261fe95f0a21700575a6536125b99884862be227d8c2d03f3ba74335248dfa"), looks := false }, kinds := [], alts := [], laidByText := true, laidKinds := [.data, .data], laidTests := true, laidLooks := .later }
def InstrJoinsCardSaid : Prop := Claim7.holds Tryd.pinned (.plain (OpenSpec.ofChange instrJoinsSpec)) instrJoinsCard

/-- THE TIED CARD OF 'quarterdecklaw04.InstrGets'. -/
def instrGetsCard : Claim7 := { stood := { row := instrGetsRow, standIns := [], harness := (true, "f3261fe95f0a21700575a6536125b99884862be227d8c2d03f3ba74335248dfa"), looks := false }, kinds := [], alts := [], laidByText := true, laidKinds := [.data, .data], laidTests := true, laidLooks := .later }
def InstrGetsCardSaid : Prop := Claim7.holds Tryd.pinned (.plain (OpenSpec.ofChange instrGetsSpec)) instrGetsCard

/-- THE TIED CARD OF 'quarterdecklaw04.InstrBack'. -/
def instrBackCard : Claim7 := { stood := { row := instrBackRow, standIns := [], harness := (true, "f3261fe95f0a21700575a6536125b99884862be227d8c2d03f3ba74335248dfa"), looks := false }, kinds := [], alts := [], laidByText := true, laidKinds := [.data, .data], laidTests := true, laidLooks := .later }
def InstrBackCardSaid : Prop := Claim7.holds Tryd.pinned (.plain (OpenSpec.ofChange instrBackSpec)) instrBackCard

/-- THE TIED CARD OF 'quarterdecklaw04.InstrOnce'. -/
def instrOnceCard : Claim7 := { stood := { row := instrOnceRow, standIns := [], harness := (true, "f3261fe95f0a21700575a6536125b99884862be227d8c2d03f3ba74335248dfa"), looks := false }, kinds := [], alts := [], laidByText := true, laidKinds := [.data, .data], laidTests := true, laidLooks := .later }
def InstrOnceCardSaid : Prop := Claim7.holds Tryd.pinned (.plain (OpenSpec.ofChange instrOnceSpec)) instrOnceCard

/-- THE SECOND FORM's CARD OF 'quarterdecklaw04.InstrRange'. -/
def instrRangeUptoCard : Claim7 := { stood := { row := instrRangeUptoRow, standIns := [], harness := (true, "f3261fe95f0a21700575a6536125b99884862be227d8c2d03f3ba74335248dfa"), looks := false }, kinds := [], alts := [], laidByText := true, laidKinds := [.data, .data], laidTests := true, laidLooks := .later }
def InstrRangeUptoCardSaid : Prop := Claim7.holds Tryd.pinned (.plain (OpenSpec.upto instrRangeSpec)) instrRangeUptoCard

/-- THE SECOND FORM's CARD OF 'quarterdecklaw04.InstrPuts'. -/
def instrPutsUptoCard : Claim7 := { stood := { row := instrPutsUptoRow, standIns := [], harness := (true, "f3261fe95f0a21700575a6536125b99884862be227d8c2d03f3ba74335248dfa"), looks := false }, kinds := [], alts := [], laidByText := true, laidKinds := [.data, .data], laidTests := true, laidLooks := .later }
def InstrPutsUptoCardSaid : Prop := Claim7.holds Tryd.pinned (.plain (OpenSpec.upto instrPutsSpec)) instrPutsUptoCard

/-- THE SECOND FORM's CARD OF 'quarterdecklaw04.InstrJoins'. -/
def instrJoinsUptoCard : Claim7 := { stood := { row := instrJoinsUptoRow, standIns := [], harness := (true, "f3261fe95f0a21700575a6536125b99884862be227d8c2d03f3ba74335248dfa"), looks := false }, kinds := [], alts := [], laidByText := true, laidKinds := [.data, .data], laidTests := true, laidLooks := .later }
def InstrJoinsUptoCardSaid : Prop := Claim7.holds Tryd.pinned (.plain (OpenSpec.upto instrJoinsSpec)) instrJoinsUptoCard

/-- THE SECOND FORM's CARD OF 'quarterdecklaw04.InstrGets'. -/
def instrGetsUptoCard : Claim7 := { stood := { row := instrGetsUptoRow, standIns := [], harness := (true, "f3261fe95f0a21700575a6536125b99884862be227d8c2d03f3ba74335248dfa"), looks := false }, kinds := [], alts := [], laidByText := true, laidKinds := [.data, .data], laidTests := true, laidLooks := .later }
def InstrGetsUptoCardSaid : Prop := Claim7.holds Tryd.pinned (.plain (OpenSpec.upto instrGetsSpec)) instrGetsUptoCard

/-- THE SECOND FORM's CARD OF 'quarterdecklaw04.InstrBack'. -/
def instrBackUptoCard : Claim7 := { stood := { row := instrBackUptoRow, standIns := [], harness := (true, "f3261fe95f0a21700575a6536125b99884862be227d8c2d03f3ba74335248dfa"), looks := false }, kinds := [], alts := [], laidByText := true, laidKinds := [.data, .data], laidTests := true, laidLooks := .later }
def InstrBackUptoCardSaid : Prop := Claim7.holds Tryd.pinned (.plain (OpenSpec.upto instrBackSpec)) instrBackUptoCard

/-- THE SECOND FORM's CARD OF 'quarterdecklaw04.InstrOnce'. -/
def instrOnceUptoCard : Claim7 := { stood := { row := instrOnceUptoRow, standIns := [], harness := (true, "f3261fe95f0a21700575a6536125b99884862be227d8c2d03f3ba74335248dfa"), looks := false }, kinds := [], alts := [], laidByText := true, laidKinds := [.data, .data], laidTests := true, laidLooks := .later }
def InstrOnceUptoCardSaid : Prop := Claim7.holds Tryd.pinned (.plain (OpenSpec.upto instrOnceSpec)) instrOnceUptoCard
end Rows
end Go.Proofs.YtiacjnmkomfdaaaDoor
