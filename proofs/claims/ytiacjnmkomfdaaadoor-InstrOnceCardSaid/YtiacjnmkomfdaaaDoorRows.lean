/-
  NARROWER THAN 'FOR EVERY INPUT', by the rows' own cells (each row's printed sentence says how): InstrRange: laid · InstrPuts: laid · InstrJoins: laid · InstrGets: laid · InstrBack: laid · InstrOnce: laid.
  DERIVED. THE GIVEN ROWS OF THIS SEAT. 6 by the template 'for every input the law returns true; each argument reads behind the call as it read before'; 0 by the template 'total and deterministic' (their statements: YtiacjnmkomfdaaaDoorTotals.lean).
  GIVEN WITH THE SEED: the statements are not yours to turn. If you find one false, say at which input.
  Laid BY PROGRAM, IN A SANDBOX (cutbox-rows.mjs): the forced cells as the released guide's own fill.sh prints them over the translation 0992348e06cb2809… (all of the seat's roots in one cut). By AI agents, Wed Nov 11 2026. No macro, syntax, notation, axiom, sorry.
-/
import Derived.Test.YtiacjnmkomfdaaaDoorChecked
import GoSem.Claim
import GoSem.ClaimJoined
import GoSem.ClaimMapViews
import Derived.JoinedTies
import Derived.KernelRfl
namespace Go.Proofs.YtiacjnmkomfdaaaDoor
/- THE CELL 'sum', in the pinned program and in every row, IS THE sha256 OF THE DUMP (.gsa) THAT YtiacjnmkomfdaaaDoorProg.lean LOADS. Nothing in Lean hashes anything: it is a label: what it is worth is what the hold of that sum in a sandbox is worth. -/
noncomputable def Tryd.pinned : Pinned := { name := "ytiacjnmkomfdaaadoor", sum := "0992348e06cb2809d11375192bdd15fae0be6d1b44ea22a283ba763beb3f9a86", checked := Tryd.checked }
namespace Rows
def none {H : Type} : Left H := { results := [], args := [] }

/- WHAT THE LISTED PACKAGE-LEVEL VARIABLES READ AS WHEN THE CALL BEGINS. Each datum BY PROGRAM (the guide's laid-datum.mjs) off the statement by which the dump's own 'gosem.cut.vars' lays the variable. In a bare row this is a premise. The card (YtiacjnmkomfdaaaDoorCards.lean) ties it to the program's text. -/
def laid_quarterdeck_instr_kinds {H : Type} : DataW H := .agg [.agg [.lit (.int .i64 0), .lit (.int .i64 0)], .agg [.lit (.int .i64 1), .lit (.int .i64 2)], .agg [.lit (.int .i64 1), .lit (.int .i64 1)], .agg [.lit (.int .i64 1), .lit (.int .i64 1)], .agg [.lit (.int .i64 1), .lit (.int .i64 1)], .agg [.lit (.int .i64 1), .lit (.int .i64 1)], .agg [.lit (.int .i64 1), .lit (.int .i64 1)], .agg [.lit (.int .i64 1), .lit (.int .i64 1)], .agg [.lit (.int .i64 1), .lit (.int .i64 1)], .agg [.lit (.int .i64 1), .lit (.int .i64 1)], .agg [.lit (.int .i64 0), .lit (.int .i64 3)], .agg [.lit (.int .i64 1), .lit (.int .i64 3)], .agg [.lit (.int .i64 1), .lit (.int .i64 0)], .agg [.lit (.int .i64 1), .lit (.int .i64 0)], .agg [.lit (.int .i64 1), .lit (.int .i64 0)], .agg [.lit (.int .i64 1), .lit (.int .i64 1)], .agg [.lit (.int .i64 1), .lit (.int .i64 0)], .agg [.lit (.int .i64 1), .lit (.int .i64 0)], .agg [.lit (.int .i64 1), .lit (.int .i64 0)], .agg [.lit (.int .i64 0), .lit (.int .i64 4)]]
def laid_quarterdeck_instr_bounds {H : Type} : DataW H := .agg [.agg [.lit (.int .i64 0), .lit (.int .i64 0)], .agg [.lit (.int .i64 0), .lit (.int .i64 3)], .agg [.lit (.int .i64 (-549755813888)), .lit (.int .i64 549755813888)], .agg [.lit (.int .i64 0), .lit (.int .i64 63)], .agg [.lit (.int .i64 0), .lit (.int .i64 25)]]

/-- 'quarterdecklaw04.InstrRange': WHATEVER THE INPUT: true; the input reads as it did. -/
def instrRangeSpec : ChangeSpec := { name := "instrRange", fn := fun _ => fun
  | [d] => { results := [.lit (.bool true)], args := [d] }
  | _ => none }
def instrRangeRow : OpenClaim := { program := "ytiacjnmkomfdaaadoor", sum := "0992348e06cb2809d11375192bdd15fae0be6d1b44ea22a283ba763beb3f9a86", func := "quarterdeck/quarterdecklaw04.InstrRange", spec := "instrRange", named := ["quarterdeck/instr.kinds", "quarterdeck/instr.bounds"], apart := false, laid := [("quarterdeck/instr.kinds", laid_quarterdeck_instr_kinds), ("quarterdeck/instr.bounds", laid_quarterdeck_instr_bounds)] }
def InstrRangeSaid : Prop := instrRangeRow.holds Tryd.pinned (OpenSpec.ofChange instrRangeSpec)

/-- ITS FALSE NEIGHBOUR: 'it returns false'. Refute it at one input. -/
def instrRangeWrong : ChangeSpec := { name := "instrRange", fn := fun _ => fun
  | [d] => { results := [.lit (.bool false)], args := [d] }
  | _ => none }
def InstrRangeWrongFalsely : Prop := instrRangeRow.holds Tryd.pinned (OpenSpec.ofChange instrRangeWrong)

/-- 'quarterdecklaw04.InstrPuts': WHATEVER THE INPUT: true; the input reads as it did. -/
def instrPutsSpec : ChangeSpec := { name := "instrPuts", fn := fun _ => fun
  | [d1, d2] => { results := [.lit (.bool true)], args := [d1, d2] }
  | _ => none }
def instrPutsRow : OpenClaim := { program := "ytiacjnmkomfdaaadoor", sum := "0992348e06cb2809d11375192bdd15fae0be6d1b44ea22a283ba763beb3f9a86", func := "quarterdeck/quarterdecklaw04.InstrPuts", spec := "instrPuts", named := ["quarterdeck/instr.kinds", "quarterdeck/instr.bounds"], apart := false, laid := [("quarterdeck/instr.kinds", laid_quarterdeck_instr_kinds), ("quarterdeck/instr.bounds", laid_quarterdeck_instr_bounds)] }
def InstrPutsSaid : Prop := instrPutsRow.holds Tryd.pinned (OpenSpec.ofChange instrPutsSpec)

/-- ITS FALSE NEIGHBOUR: 'it returns false'. Refute it at one input. -/
def instrPutsWrong : ChangeSpec := { name := "instrPuts", fn := fun _ => fun
  | [d1, d2] => { results := [.lit (.bool false)], args := [d1, d2] }
  | _ => none }
def InstrPutsWrongFalsely : Prop := instrPutsRow.holds Tryd.pinned (OpenSpec.ofChange instrPutsWrong)

/-- 'quarterdecklaw04.InstrJoins': WHATEVER THE INPUT: true; the input reads as it did. -/
def instrJoinsSpec : ChangeSpec := { name := "instrJoins", fn := fun _ => fun
  | [d1, d2] => { results := [.lit (.bool true)], args := [d1, d2] }
  | _ => none }
def instrJoinsRow : OpenClaim := { program := "ytiacjnmkomfdaaadoor", sum := "0992348e06cb2809d11375192bdd15fae0be6d1b44ea22a283ba763beb3f9a86", func := "quarterdeck/quarterdecklaw04.InstrJoins", spec := "instrJoins", named := ["quarterdeck/instr.kinds", "quarterdeck/instr.bounds"], apart := false, laid := [("quarterdeck/instr.kinds", laid_quarterdeck_instr_kinds), ("quarterdeck/instr.bounds", laid_quarterdeck_instr_bounds)] }
def InstrJoinsSaid : Prop := instrJoinsRow.holds Tryd.pinned (OpenSpec.ofChange instrJoinsSpec)

/-- ITS FALSE NEIGHBOUR: 'it returns false'. Refute it at one input. -/
def instrJoinsWrong : ChangeSpec := { name := "instrJoins", fn := fun _ => fun
  | [d1, d2] => { results := [.lit (.bool false)], args := [d1, d2] }
  | _ => none }
def InstrJoinsWrongFalsely : Prop := instrJoinsRow.holds Tryd.pinned (OpenSpec.ofChange instrJoinsWrong)

/-- 'quarterdecklaw04.InstrGets': WHATEVER THE INPUT: true; the input reads as it did. -/
def instrGetsSpec : ChangeSpec := { name := "instrGets", fn := fun _ => fun
  | [d] => { results := [.lit (.bool true)], args := [d] }
  | _ => none }
def instrGetsRow : OpenClaim := { program := "ytiacjnmkomfdaaadoor", sum := "0992348e06cb2809d11375192bdd15fae0be6d1b44ea22a283ba763beb3f9a86", func := "quarterdeck/quarterdecklaw04.InstrGets", spec := "instrGets", named := ["quarterdeck/instr.kinds", "quarterdeck/instr.bounds"], apart := false, laid := [("quarterdeck/instr.kinds", laid_quarterdeck_instr_kinds), ("quarterdeck/instr.bounds", laid_quarterdeck_instr_bounds)] }
def InstrGetsSaid : Prop := instrGetsRow.holds Tryd.pinned (OpenSpec.ofChange instrGetsSpec)

/-- ITS FALSE NEIGHBOUR: 'it returns false'. Refute it at one input. -/
def instrGetsWrong : ChangeSpec := { name := "instrGets", fn := fun _ => fun
  | [d] => { results := [.lit (.bool false)], args := [d] }
  | _ => none }
def InstrGetsWrongFalsely : Prop := instrGetsRow.holds Tryd.pinned (OpenSpec.ofChange instrGetsWrong)

/-- 'quarterdecklaw04.InstrBack': WHATEVER THE INPUT: true; the input reads as it did. -/
def instrBackSpec : ChangeSpec := { name := "instrBack", fn := fun _ => fun
  | [d1, d2] => { results := [.lit (.bool true)], args := [d1, d2] }
  | _ => none }
def instrBackRow : OpenClaim := { program := "ytiacjnmkomfdaaadoor", sum := "0992348e06cb2809d11375192bdd15fae0be6d1b44ea22a283ba763beb3f9a86", func := "quarterdeck/quarterdecklaw04.InstrBack", spec := "instrBack", named := ["quarterdeck/instr.kinds", "quarterdeck/instr.bounds"], apart := false, laid := [("quarterdeck/instr.kinds", laid_quarterdeck_instr_kinds), ("quarterdeck/instr.bounds", laid_quarterdeck_instr_bounds)] }
def InstrBackSaid : Prop := instrBackRow.holds Tryd.pinned (OpenSpec.ofChange instrBackSpec)

/-- ITS FALSE NEIGHBOUR: 'it returns false'. Refute it at one input. -/
def instrBackWrong : ChangeSpec := { name := "instrBack", fn := fun _ => fun
  | [d1, d2] => { results := [.lit (.bool false)], args := [d1, d2] }
  | _ => none }
def InstrBackWrongFalsely : Prop := instrBackRow.holds Tryd.pinned (OpenSpec.ofChange instrBackWrong)

/-- 'quarterdecklaw04.InstrOnce': WHATEVER THE INPUT: true; the input reads as it did. -/
def instrOnceSpec : ChangeSpec := { name := "instrOnce", fn := fun _ => fun
  | [d] => { results := [.lit (.bool true)], args := [d] }
  | _ => none }
def instrOnceRow : OpenClaim := { program := "ytiacjnmkomfdaaadoor", sum := "0992348e06cb2809d11375192bdd15fae0be6d1b44ea22a283ba763beb3f9a86", func := "quarterdeck/quarterdecklaw04.InstrOnce", spec := "instrOnce", named := ["quarterdeck/instr.kinds", "quarterdeck/instr.bounds"], apart := false, laid := [("quarterdeck/instr.kinds", laid_quarterdeck_instr_kinds), ("quarterdeck/instr.bounds", laid_quarterdeck_instr_bounds)] }
def InstrOnceSaid : Prop := instrOnceRow.holds Tryd.pinned (OpenSpec.ofChange instrOnceSpec)

/-- ITS FALSE NEIGHBOUR: 'it returns false'. Refute it at one input. -/
def instrOnceWrong : ChangeSpec := { name := "instrOnce", fn := fun _ => fun
  | [d] => { results := [.lit (.bool false)], args := [d] }
  | _ => none }
def InstrOnceWrongFalsely : Prop := instrOnceRow.holds Tryd.pinned (OpenSpec.ofChange instrOnceWrong)

/- THE SECOND FORM. 'bulk': how many values and letters a reading holds, each counted each time it is reached (what is shared counts as often as it is met; a slice's spare places count too). A statement '..UptoSaid' is the law's where the arguments, and the package variables that the reading takes, are together of bulk at most 1048576: NARROWER than '..Said'. Prove '..Said' where nothing that the law and all that it calls make is longer than what came in: it says more and counts as full. Else prove '..UptoSaid'. A law counts once. -/
mutual
def uptoBulk {H : Type} : DataW H → Nat
  | .lit (.string bytes) => bytes.length + 1
  | .lit _ => 1
  | .nil => 1
  | .ptr d => uptoBulk d + 1
  | .slice elems spare => uptoBulkAll elems + uptoBulkAll spare + 1
  | .agg parts => uptoBulkAll parts + 1
  | .iface _ d => uptoBulk d + 1
  | .map entries => uptoBulkEntries entries + 1
  | .held _ => 1
def uptoBulkAll {H : Type} : List (DataW H) → Nat
  | [] => 0
  | d :: r => uptoBulk d + uptoBulkAll r
def uptoBulkEntries {H : Type} : List (Lit × DataW H) → Nat
  | [] => 0
  | x :: r => uptoBulkEntry x + uptoBulkEntries r
def uptoBulkEntry {H : Type} : Lit × DataW H → Nat
  | (.string bytes, d) => bytes.length + uptoBulk d + 1
  | (_, d) => uptoBulk d + 1
 end
def uptoSmall : (H : Type) → List (DataW H) → Bool := fun _ ds => decide (uptoBulkAll ds ≤ 1048576)
def OpenSpec.upto (s : _root_.Go.ChangeSpec) : _root_.Go.OpenSpec := { _root_.Go.OpenSpec.ofChange s with cond := some uptoSmall }

/-- 'quarterdecklaw04.InstrRange', WHERE WHAT IT READS IS OF BULK AT MOST 1048576: true; the input reads as it did. -/
def instrRangeUptoRow : OpenClaim := { program := "ytiacjnmkomfdaaadoor", sum := "0992348e06cb2809d11375192bdd15fae0be6d1b44ea22a283ba763beb3f9a86", func := "quarterdeck/quarterdecklaw04.InstrRange", spec := "instrRange", named := ["quarterdeck/instr.kinds", "quarterdeck/instr.bounds"], apart := false, laid := [("quarterdeck/instr.kinds", laid_quarterdeck_instr_kinds), ("quarterdeck/instr.bounds", laid_quarterdeck_instr_bounds)], narrowed := true }
def InstrRangeUptoSaid : Prop := instrRangeUptoRow.holds Tryd.pinned (OpenSpec.upto instrRangeSpec)

/-- 'quarterdecklaw04.InstrPuts', WHERE WHAT IT READS IS OF BULK AT MOST 1048576: true; the input reads as it did. -/
def instrPutsUptoRow : OpenClaim := { program := "ytiacjnmkomfdaaadoor", sum := "0992348e06cb2809d11375192bdd15fae0be6d1b44ea22a283ba763beb3f9a86", func := "quarterdeck/quarterdecklaw04.InstrPuts", spec := "instrPuts", named := ["quarterdeck/instr.kinds", "quarterdeck/instr.bounds"], apart := false, laid := [("quarterdeck/instr.kinds", laid_quarterdeck_instr_kinds), ("quarterdeck/instr.bounds", laid_quarterdeck_instr_bounds)], narrowed := true }
def InstrPutsUptoSaid : Prop := instrPutsUptoRow.holds Tryd.pinned (OpenSpec.upto instrPutsSpec)

/-- 'quarterdecklaw04.InstrJoins', WHERE WHAT IT READS IS OF BULK AT MOST 1048576: true; the input reads as it did. -/
def instrJoinsUptoRow : OpenClaim := { program := "ytiacjnmkomfdaaadoor", sum := "0992348e06cb2809d11375192bdd15fae0be6d1b44ea22a283ba763beb3f9a86", func := "quarterdeck/quarterdecklaw04.InstrJoins", spec := "instrJoins", named := ["quarterdeck/instr.kinds", "quarterdeck/instr.bounds"], apart := false, laid := [("quarterdeck/instr.kinds", laid_quarterdeck_instr_kinds), ("quarterdeck/instr.bounds", laid_quarterdeck_instr_bounds)], narrowed := true }
def InstrJoinsUptoSaid : Prop := instrJoinsUptoRow.holds Tryd.pinned (OpenSpec.upto instrJoinsSpec)

/-- 'quarterdecklaw04.InstrGets', WHERE WHAT IT READS IS OF BULK AT MOST 1048576: true; the input reads as it did. -/
def instrGetsUptoRow : OpenClaim := { program := "ytiacjnmkomfdaaadoor", sum := "0992348e06cb2809d11375192bdd15fae0be6d1b44ea22a283ba763beb3f9a86", func := "quarterdeck/quarterdecklaw04.InstrGets", spec := "instrGets", named := ["quarterdeck/instr.kinds", "quarterdeck/instr.bounds"], apart := false, laid := [("quarterdeck/instr.kinds", laid_quarterdeck_instr_kinds), ("quarterdeck/instr.bounds", laid_quarterdeck_instr_bounds)], narrowed := true }
def InstrGetsUptoSaid : Prop := instrGetsUptoRow.holds Tryd.pinned (OpenSpec.upto instrGetsSpec)

/-- 'quarterdecklaw04.InstrBack', WHERE WHAT IT READS IS OF BULK AT MOST 1048576: true; the input reads as it did. -/
def instrBackUptoRow : OpenClaim := { program := "ytiacjnmkomfdaaadoor", sum := "0992348e06cb2809d11375192bdd15fae0be6d1b44ea22a283ba763beb3f9a86", func := "quarterdeck/quarterdecklaw04.InstrBack", spec := "instrBack", named := ["quarterdeck/instr.kinds", "quarterdeck/instr.bounds"], apart := false, laid := [("quarterdeck/instr.kinds", laid_quarterdeck_instr_kinds), ("quarterdeck/instr.bounds", laid_quarterdeck_instr_bounds)], narrowed := true }
def InstrBackUptoSaid : Prop := instrBackUptoRow.holds Tryd.pinned (OpenSpec.upto instrBackSpec)

/-- 'quarterdecklaw04.InstrOnce', WHERE WHAT IT READS IS OF BULK AT MOST 1048576: true; the input reads as it did. -/
def instrOnceUptoRow : OpenClaim := { program := "ytiacjnmkomfdaaadoor", sum := "0992348e06cb2809d11375192bdd15fae0be6d1b44ea22a283ba763beb3f9a86", func := "quarterdeck/quarterdecklaw04.InstrOnce", spec := "instrOnce", named := ["quarterdeck/instr.kinds", "quarterdeck/instr.bounds"], apart := false, laid := [("quarterdeck/instr.kinds", laid_quarterdeck_instr_kinds), ("quarterdeck/instr.bounds", laid_quarterdeck_instr_bounds)], narrowed := true }
def InstrOnceUptoSaid : Prop := instrOnceUptoRow.holds Tryd.pinned (OpenSpec.upto instrOnceSpec)

end Rows
end Go.Proofs.YtiacjnmkomfdaaaDoor
