/-
  NARROWER THAN 'FOR EVERY INPUT', by the rows' own cells (each row's printed sentence says how): CpuStores: laid · CpuRuns: laid · CpuSteps: laid · CpuFaults: laid · CpuBlind: laid · CpuAdds: laid · CpuJumps: laid.
  DERIVED. THE GIVEN ROWS OF THIS SEAT. 7 by the template 'for every input the law returns true; each argument reads behind the call as it read before'; 0 by the template 'total and deterministic' (their statements: YtlphgnfjemaliaaDoorTotals.lean).
  GIVEN WITH THE SEED: the statements are not yours to turn. If you find one false, say at which input.
  Laid BY PROGRAM, IN A SANDBOX (cutbox-rows.mjs): the forced cells as the released guide's own fill.sh prints them over the translation 93807c6ebf6e3687… (all of the seat's roots in one cut). By AI agents, Wed Nov 11 2026. No macro, syntax, notation, axiom, sorry.
-/
import Derived.Test.YtlphgnfjemaliaaDoorChecked
import GoSem.Claim
import GoSem.ClaimJoined
import GoSem.ClaimMapViews
import Derived.JoinedTies
import Derived.KernelRfl
namespace Go.Proofs.YtlphgnfjemaliaaDoor
/- THE CELL 'sum', in the pinned program and in every row, IS THE sha256 OF THE DUMP (.gsa) THAT YtlphgnfjemaliaaDoorProg.lean LOADS. Nothing in Lean hashes anything: it is a label: what it is worth is what the hold of that sum in a sandbox is worth. -/
noncomputable def Tryd.pinned : Pinned := { name := "ytlphgnfjemaliaadoor", sum := "93807c6ebf6e3687d7c5fed4599b014775f43eb1847eadc7fbc6931b1a5ad246", checked := Tryd.checked }
namespace Rows
def none {H : Type} : Left H := { results := [], args := [] }

/- WHAT THE LISTED PACKAGE-LEVEL VARIABLES READ AS WHEN THE CALL BEGINS. Each datum BY PROGRAM (the guide's laid-datum.mjs) off the statement by which the dump's own 'gosem.cut.vars' lays the variable. In a bare row this is a premise. The card (YtlphgnfjemaliaaDoorCards.lean) ties it to the program's text. -/
def laid_quarterdeck_instr_kinds {H : Type} : DataW H := .agg [.agg [.lit (.int .i64 0), .lit (.int .i64 0)], .agg [.lit (.int .i64 1), .lit (.int .i64 2)], .agg [.lit (.int .i64 1), .lit (.int .i64 1)], .agg [.lit (.int .i64 1), .lit (.int .i64 1)], .agg [.lit (.int .i64 1), .lit (.int .i64 1)], .agg [.lit (.int .i64 1), .lit (.int .i64 1)], .agg [.lit (.int .i64 1), .lit (.int .i64 1)], .agg [.lit (.int .i64 1), .lit (.int .i64 1)], .agg [.lit (.int .i64 1), .lit (.int .i64 1)], .agg [.lit (.int .i64 1), .lit (.int .i64 1)], .agg [.lit (.int .i64 0), .lit (.int .i64 3)], .agg [.lit (.int .i64 1), .lit (.int .i64 3)], .agg [.lit (.int .i64 1), .lit (.int .i64 0)], .agg [.lit (.int .i64 1), .lit (.int .i64 0)], .agg [.lit (.int .i64 1), .lit (.int .i64 0)], .agg [.lit (.int .i64 1), .lit (.int .i64 1)], .agg [.lit (.int .i64 1), .lit (.int .i64 0)], .agg [.lit (.int .i64 1), .lit (.int .i64 0)], .agg [.lit (.int .i64 1), .lit (.int .i64 0)], .agg [.lit (.int .i64 0), .lit (.int .i64 4)]]
def laid_quarterdeck_instr_bounds {H : Type} : DataW H := .agg [.agg [.lit (.int .i64 0), .lit (.int .i64 0)], .agg [.lit (.int .i64 0), .lit (.int .i64 3)], .agg [.lit (.int .i64 (-549755813888)), .lit (.int .i64 549755813888)], .agg [.lit (.int .i64 0), .lit (.int .i64 63)], .agg [.lit (.int .i64 0), .lit (.int .i64 25)]]

/-- 'quarterdecklaw05.CpuStores': WHATEVER THE INPUT: true; the input reads as it did. -/
def cpuStoresSpec : ChangeSpec := { name := "cpuStores", fn := fun _ => fun
  | [d1, d2, d3] => { results := [.lit (.bool true)], args := [d1, d2, d3] }
  | _ => none }
def cpuStoresRow : OpenClaim := { program := "ytlphgnfjemaliaadoor", sum := "93807c6ebf6e3687d7c5fed4599b014775f43eb1847eadc7fbc6931b1a5ad246", func := "quarterdeck/quarterdecklaw05.CpuStores", spec := "cpuStores", inPlace := ["math.Float64frombits", "math.Float64bits", "math.archTrunc"], unfollowed := true, recurses := true, named := ["quarterdeck/instr.kinds", "quarterdeck/instr.bounds"], apart := false, laid := [("quarterdeck/instr.kinds", laid_quarterdeck_instr_kinds), ("quarterdeck/instr.bounds", laid_quarterdeck_instr_bounds)] }
def CpuStoresSaid : Prop := cpuStoresRow.holds Tryd.pinned (OpenSpec.ofChange cpuStoresSpec)

/-- ITS FALSE NEIGHBOUR: 'it returns false'. Refute it at one input. -/
def cpuStoresWrong : ChangeSpec := { name := "cpuStores", fn := fun _ => fun
  | [d1, d2, d3] => { results := [.lit (.bool false)], args := [d1, d2, d3] }
  | _ => none }
def CpuStoresWrongFalsely : Prop := cpuStoresRow.holds Tryd.pinned (OpenSpec.ofChange cpuStoresWrong)

/-- 'quarterdecklaw05.CpuRuns': WHATEVER THE INPUT: true; the input reads as it did. -/
def cpuRunsSpec : ChangeSpec := { name := "cpuRuns", fn := fun _ => fun
  | [d1, d2, d3, d4, d5] => { results := [.lit (.bool true)], args := [d1, d2, d3, d4, d5] }
  | _ => none }
def cpuRunsRow : OpenClaim := { program := "ytlphgnfjemaliaadoor", sum := "93807c6ebf6e3687d7c5fed4599b014775f43eb1847eadc7fbc6931b1a5ad246", func := "quarterdeck/quarterdecklaw05.CpuRuns", spec := "cpuRuns", inPlace := ["math.Float64frombits", "math.Float64bits", "math.archTrunc"], unfollowed := true, recurses := true, named := ["quarterdeck/instr.kinds", "quarterdeck/instr.bounds"], apart := false, laid := [("quarterdeck/instr.kinds", laid_quarterdeck_instr_kinds), ("quarterdeck/instr.bounds", laid_quarterdeck_instr_bounds)] }
def CpuRunsSaid : Prop := cpuRunsRow.holds Tryd.pinned (OpenSpec.ofChange cpuRunsSpec)

/-- ITS FALSE NEIGHBOUR: 'it returns false'. Refute it at one input. -/
def cpuRunsWrong : ChangeSpec := { name := "cpuRuns", fn := fun _ => fun
  | [d1, d2, d3, d4, d5] => { results := [.lit (.bool false)], args := [d1, d2, d3, d4, d5] }
  | _ => none }
def CpuRunsWrongFalsely : Prop := cpuRunsRow.holds Tryd.pinned (OpenSpec.ofChange cpuRunsWrong)

/-- 'quarterdecklaw05.CpuSteps': WHATEVER THE INPUT: true; the input reads as it did. -/
def cpuStepsSpec : ChangeSpec := { name := "cpuSteps", fn := fun _ => fun
  | [d1, d2, d3, d4, d5] => { results := [.lit (.bool true)], args := [d1, d2, d3, d4, d5] }
  | _ => none }
def cpuStepsRow : OpenClaim := { program := "ytlphgnfjemaliaadoor", sum := "93807c6ebf6e3687d7c5fed4599b014775f43eb1847eadc7fbc6931b1a5ad246", func := "quarterdeck/quarterdecklaw05.CpuSteps", spec := "cpuSteps", inPlace := ["math.Float64frombits", "math.Float64bits", "math.archTrunc"], unfollowed := true, recurses := true, named := ["quarterdeck/instr.kinds", "quarterdeck/instr.bounds"], apart := false, laid := [("quarterdeck/instr.kinds", laid_quarterdeck_instr_kinds), ("quarterdeck/instr.bounds", laid_quarterdeck_instr_bounds)] }
def CpuStepsSaid : Prop := cpuStepsRow.holds Tryd.pinned (OpenSpec.ofChange cpuStepsSpec)

/-- ITS FALSE NEIGHBOUR: 'it returns false'. Refute it at one input. -/
def cpuStepsWrong : ChangeSpec := { name := "cpuSteps", fn := fun _ => fun
  | [d1, d2, d3, d4, d5] => { results := [.lit (.bool false)], args := [d1, d2, d3, d4, d5] }
  | _ => none }
def CpuStepsWrongFalsely : Prop := cpuStepsRow.holds Tryd.pinned (OpenSpec.ofChange cpuStepsWrong)

/-- 'quarterdecklaw05.CpuFaults': WHATEVER THE INPUT: true; the input reads as it did. -/
def cpuFaultsSpec : ChangeSpec := { name := "cpuFaults", fn := fun _ => fun
  | [d1, d2, d3, d4, d5] => { results := [.lit (.bool true)], args := [d1, d2, d3, d4, d5] }
  | _ => none }
def cpuFaultsRow : OpenClaim := { program := "ytlphgnfjemaliaadoor", sum := "93807c6ebf6e3687d7c5fed4599b014775f43eb1847eadc7fbc6931b1a5ad246", func := "quarterdeck/quarterdecklaw05.CpuFaults", spec := "cpuFaults", inPlace := ["math.Float64frombits", "math.Float64bits", "math.archTrunc"], unfollowed := true, recurses := true, named := ["quarterdeck/instr.kinds", "quarterdeck/instr.bounds"], apart := false, laid := [("quarterdeck/instr.kinds", laid_quarterdeck_instr_kinds), ("quarterdeck/instr.bounds", laid_quarterdeck_instr_bounds)] }
def CpuFaultsSaid : Prop := cpuFaultsRow.holds Tryd.pinned (OpenSpec.ofChange cpuFaultsSpec)

/-- ITS FALSE NEIGHBOUR: 'it returns false'. Refute it at one input. -/
def cpuFaultsWrong : ChangeSpec := { name := "cpuFaults", fn := fun _ => fun
  | [d1, d2, d3, d4, d5] => { results := [.lit (.bool false)], args := [d1, d2, d3, d4, d5] }
  | _ => none }
def CpuFaultsWrongFalsely : Prop := cpuFaultsRow.holds Tryd.pinned (OpenSpec.ofChange cpuFaultsWrong)

/-- 'quarterdecklaw05.CpuBlind': WHATEVER THE INPUT: true; the input reads as it did. -/
def cpuBlindSpec : ChangeSpec := { name := "cpuBlind", fn := fun _ => fun
  | [d1, d2, d3, d4, d5, d6, d7] => { results := [.lit (.bool true)], args := [d1, d2, d3, d4, d5, d6, d7] }
  | _ => none }
def cpuBlindRow : OpenClaim := { program := "ytlphgnfjemaliaadoor", sum := "93807c6ebf6e3687d7c5fed4599b014775f43eb1847eadc7fbc6931b1a5ad246", func := "quarterdeck/quarterdecklaw05.CpuBlind", spec := "cpuBlind", inPlace := ["math.Float64frombits", "math.Float64bits", "math.archTrunc"], unfollowed := true, recurses := true, named := ["quarterdeck/instr.kinds", "quarterdeck/instr.bounds"], apart := false, laid := [("quarterdeck/instr.kinds", laid_quarterdeck_instr_kinds), ("quarterdeck/instr.bounds", laid_quarterdeck_instr_bounds)] }
def CpuBlindSaid : Prop := cpuBlindRow.holds Tryd.pinned (OpenSpec.ofChange cpuBlindSpec)

/-- ITS FALSE NEIGHBOUR: 'it returns false'. Refute it at one input. -/
def cpuBlindWrong : ChangeSpec := { name := "cpuBlind", fn := fun _ => fun
  | [d1, d2, d3, d4, d5, d6, d7] => { results := [.lit (.bool false)], args := [d1, d2, d3, d4, d5, d6, d7] }
  | _ => none }
def CpuBlindWrongFalsely : Prop := cpuBlindRow.holds Tryd.pinned (OpenSpec.ofChange cpuBlindWrong)

/-- 'quarterdecklaw05.CpuAdds': WHATEVER THE INPUT: true; the input reads as it did. -/
def cpuAddsSpec : ChangeSpec := { name := "cpuAdds", fn := fun _ => fun
  | [d1, d2] => { results := [.lit (.bool true)], args := [d1, d2] }
  | _ => none }
def cpuAddsRow : OpenClaim := { program := "ytlphgnfjemaliaadoor", sum := "93807c6ebf6e3687d7c5fed4599b014775f43eb1847eadc7fbc6931b1a5ad246", func := "quarterdeck/quarterdecklaw05.CpuAdds", spec := "cpuAdds", inPlace := ["math.Float64frombits", "math.Float64bits", "math.archTrunc"], unfollowed := true, recurses := true, named := ["quarterdeck/instr.kinds", "quarterdeck/instr.bounds"], apart := false, laid := [("quarterdeck/instr.kinds", laid_quarterdeck_instr_kinds), ("quarterdeck/instr.bounds", laid_quarterdeck_instr_bounds)] }
def CpuAddsSaid : Prop := cpuAddsRow.holds Tryd.pinned (OpenSpec.ofChange cpuAddsSpec)

/-- ITS FALSE NEIGHBOUR: 'it returns false'. Refute it at one input. -/
def cpuAddsWrong : ChangeSpec := { name := "cpuAdds", fn := fun _ => fun
  | [d1, d2] => { results := [.lit (.bool false)], args := [d1, d2] }
  | _ => none }
def CpuAddsWrongFalsely : Prop := cpuAddsRow.holds Tryd.pinned (OpenSpec.ofChange cpuAddsWrong)

/-- 'quarterdecklaw05.CpuJumps': WHATEVER THE INPUT: true; the input reads as it did. -/
def cpuJumpsSpec : ChangeSpec := { name := "cpuJumps", fn := fun _ => fun
  | [d1, d2, d3, d4, d5] => { results := [.lit (.bool true)], args := [d1, d2, d3, d4, d5] }
  | _ => none }
def cpuJumpsRow : OpenClaim := { program := "ytlphgnfjemaliaadoor", sum := "93807c6ebf6e3687d7c5fed4599b014775f43eb1847eadc7fbc6931b1a5ad246", func := "quarterdeck/quarterdecklaw05.CpuJumps", spec := "cpuJumps", inPlace := ["math.Float64frombits", "math.Float64bits", "math.archTrunc"], unfollowed := true, recurses := true, named := ["quarterdeck/instr.kinds", "quarterdeck/instr.bounds"], apart := false, laid := [("quarterdeck/instr.kinds", laid_quarterdeck_instr_kinds), ("quarterdeck/instr.bounds", laid_quarterdeck_instr_bounds)] }
def CpuJumpsSaid : Prop := cpuJumpsRow.holds Tryd.pinned (OpenSpec.ofChange cpuJumpsSpec)

/-- ITS FALSE NEIGHBOUR: 'it returns false'. Refute it at one input. -/
def cpuJumpsWrong : ChangeSpec := { name := "cpuJumps", fn := fun _ => fun
  | [d1, d2, d3, d4, d5] => { results := [.lit (.bool false)], args := [d1, d2, d3, d4, d5] }
  | _ => none }
def CpuJumpsWrongFalsely : Prop := cpuJumpsRow.holds Tryd.pinned (OpenSpec.ofChange cpuJumpsWrong)

/- THE SECOND FORM. 'bulk': how many values and letters a reading holds, each counted each time it is reached (what is shared counts as often as it is met; a slice's spare places count too). A statement '..UptoSaid' is the law's where the arguments, and the package variables that the reading takes, are together of bulk at most 1048576: NARROWER than '..Said'. Prove '..Said' where nothing that the law and all that it calls make is longer than what came in: it says more and counts as full. Else prove '..UptoSaid'. A law counts once. -/
mutual
def uptoBulk {H : Type} : DataW H → Nat
  | .lit (.string bytes) => bytes.length + 1
  | .lit _ => 1
  | .nil => 1
  | .ptr d => uptoBulk d + 1
  | .slice elems spare => uptoBulkAll elems + uptoBulkAll spare + 1
  | .agg parts => uptoBulkAll parts + 1
  | .iface _ d => uptoBulk d + 1
  | .map entries => uptoBulkEntries entries + 1
  | .held _ => 1
def uptoBulkAll {H : Type} : List (DataW H) → Nat
  | [] => 0
  | d :: r => uptoBulk d + uptoBulkAll r
def uptoBulkEntries {H : Type} : List (Lit × DataW H) → Nat
  | [] => 0
  | x :: r => uptoBulkEntry x + uptoBulkEntries r
def uptoBulkEntry {H : Type} : Lit × DataW H → Nat
  | (.string bytes, d) => bytes.length + uptoBulk d + 1
  | (_, d) => uptoBulk d + 1
 end
def uptoSmall : (H : Type) → List (DataW H) → Bool := fun _ ds => decide (uptoBulkAll ds ≤ 1048576)
def OpenSpec.upto (s : _root_.Go.ChangeSpec) : _root_.Go.OpenSpec := { _root_.Go.OpenSpec.ofChange s with cond := some uptoSmall }

/-- 'quarterdecklaw05.CpuStores', WHERE WHAT IT READS IS OF BULK AT MOST 1048576: true; the input reads as it did. -/
def cpuStoresUptoRow : OpenClaim := { program := "ytlphgnfjemaliaadoor", sum := "93807c6ebf6e3687d7c5fed4599b014775f43eb1847eadc7fbc6931b1a5ad246", func := "quarterdeck/quarterdecklaw05.CpuStores", spec := "cpuStores", inPlace := ["math.Float64frombits", "math.Float64bits", "math.archTrunc"], unfollowed := true, recurses := true, named := ["quarterdeck/instr.kinds", "quarterdeck/instr.bounds"], apart := false, laid := [("quarterdeck/instr.kinds", laid_quarterdeck_instr_kinds), ("quarterdeck/instr.bounds", laid_quarterdeck_instr_bounds)], narrowed := true }
def CpuStoresUptoSaid : Prop := cpuStoresUptoRow.holds Tryd.pinned (OpenSpec.upto cpuStoresSpec)

/-- 'quarterdecklaw05.CpuRuns', WHERE WHAT IT READS IS OF BULK AT MOST 1048576: true; the input reads as it did. -/
def cpuRunsUptoRow : OpenClaim := { program := "ytlphgnfjemaliaadoor", sum := "93807c6ebf6e3687d7c5fed4599b014775f43eb1847eadc7fbc6931b1a5ad246", func := "quarterdeck/quarterdecklaw05.CpuRuns", spec := "cpuRuns", inPlace := ["math.Float64frombits", "math.Float64bits", "math.archTrunc"], unfollowed := true, recurses := true, named := ["quarterdeck/instr.kinds", "quarterdeck/instr.bounds"], apart := false, laid := [("quarterdeck/instr.kinds", laid_quarterdeck_instr_kinds), ("quarterdeck/instr.bounds", laid_quarterdeck_instr_bounds)], narrowed := true }
def CpuRunsUptoSaid : Prop := cpuRunsUptoRow.holds Tryd.pinned (OpenSpec.upto cpuRunsSpec)

/-- 'quarterdecklaw05.CpuSteps', WHERE WHAT IT READS IS OF BULK AT MOST 1048576: true; the input reads as it did. -/
def cpuStepsUptoRow : OpenClaim := { program := "ytlphgnfjemaliaadoor", sum := "93807c6ebf6e3687d7c5fed4599b014775f43eb1847eadc7fbc6931b1a5ad246", func := "quarterdeck/quarterdecklaw05.CpuSteps", spec := "cpuSteps", inPlace := ["math.Float64frombits", "math.Float64bits", "math.archTrunc"], unfollowed := true, recurses := true, named := ["quarterdeck/instr.kinds", "quarterdeck/instr.bounds"], apart := false, laid := [("quarterdeck/instr.kinds", laid_quarterdeck_instr_kinds), ("quarterdeck/instr.bounds", laid_quarterdeck_instr_bounds)], narrowed := true }
def CpuStepsUptoSaid : Prop := cpuStepsUptoRow.holds Tryd.pinned (OpenSpec.upto cpuStepsSpec)

/-- 'quarterdecklaw05.CpuFaults', WHERE WHAT IT READS IS OF BULK AT MOST 1048576: true; the input reads as it did. -/
def cpuFaultsUptoRow : OpenClaim := { program := "ytlphgnfjemaliaadoor", sum := "93807c6ebf6e3687d7c5fed4599b014775f43eb1847eadc7fbc6931b1a5ad246", func := "quarterdeck/quarterdecklaw05.CpuFaults", spec := "cpuFaults", inPlace := ["math.Float64frombits", "math.Float64bits", "math.archTrunc"], unfollowed := true, recurses := true, named := ["quarterdeck/instr.kinds", "quarterdeck/instr.bounds"], apart := false, laid := [("quarterdeck/instr.kinds", laid_quarterdeck_instr_kinds), ("quarterdeck/instr.bounds", laid_quarterdeck_instr_bounds)], narrowed := true }
def CpuFaultsUptoSaid : Prop := cpuFaultsUptoRow.holds Tryd.pinned (OpenSpec.upto cpuFaultsSpec)

/-- 'quarterdecklaw05.CpuBlind', WHERE WHAT IT READS IS OF BULK AT MOST 1048576: true; the input reads as it did. -/
def cpuBlindUptoRow : OpenClaim := { program := "ytlphgnfjemaliaadoor", sum := "93807c6ebf6e3687d7c5fed4599b014775f43eb1847eadc7fbc6931b1a5ad246", func := "quarterdeck/quarterdecklaw05.CpuBlind", spec := "cpuBlind", inPlace := ["math.Float64frombits", "math.Float64bits", "math.archTrunc"], unfollowed := true, recurses := true, named := ["quarterdeck/instr.kinds", "quarterdeck/instr.bounds"], apart := false, laid := [("quarterdeck/instr.kinds", laid_quarterdeck_instr_kinds), ("quarterdeck/instr.bounds", laid_quarterdeck_instr_bounds)], narrowed := true }
def CpuBlindUptoSaid : Prop := cpuBlindUptoRow.holds Tryd.pinned (OpenSpec.upto cpuBlindSpec)

/-- 'quarterdecklaw05.CpuAdds', WHERE WHAT IT READS IS OF BULK AT MOST 1048576: true; the input reads as it did. -/
def cpuAddsUptoRow : OpenClaim := { program := "ytlphgnfjemaliaadoor", sum := "93807c6ebf6e3687d7c5fed4599b014775f43eb1847eadc7fbc6931b1a5ad246", func := "quarterdeck/quarterdecklaw05.CpuAdds", spec := "cpuAdds", inPlace := ["math.Float64frombits", "math.Float64bits", "math.archTrunc"], unfollowed := true, recurses := true, named := ["quarterdeck/instr.kinds", "quarterdeck/instr.bounds"], apart := false, laid := [("quarterdeck/instr.kinds", laid_quarterdeck_instr_kinds), ("quarterdeck/instr.bounds", laid_quarterdeck_instr_bounds)], narrowed := true }
def CpuAddsUptoSaid : Prop := cpuAddsUptoRow.holds Tryd.pinned (OpenSpec.upto cpuAddsSpec)

/-- 'quarterdecklaw05.CpuJumps', WHERE WHAT IT READS IS OF BULK AT MOST 1048576: true; the input reads as it did. -/
def cpuJumpsUptoRow : OpenClaim := { program := "ytlphgnfjemaliaadoor", sum := "93807c6ebf6e3687d7c5fed4599b014775f43eb1847eadc7fbc6931b1a5ad246", func := "quarterdeck/quarterdecklaw05.CpuJumps", spec := "cpuJumps", inPlace := ["math.Float64frombits", "math.Float64bits", "math.archTrunc"], unfollowed := true, recurses := true, named := ["quarterdeck/instr.kinds", "quarterdeck/instr.bounds"], apart := false, laid := [("quarterdeck/instr.kinds", laid_quarterdeck_instr_kinds), ("quarterdeck/instr.bounds", laid_quarterdeck_instr_bounds)], narrowed := true }
def CpuJumpsUptoSaid : Prop := cpuJumpsUptoRow.holds Tryd.pinned (OpenSpec.upto cpuJumpsSpec)

end Rows
end Go.Proofs.YtlphgnfjemaliaaDoor
