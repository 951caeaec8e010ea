/-
  No cell of these rows narrows 'for every input' (looked for: loops, veiled, ifaces, maps, wideKeys, modest, calm, conditions, laid).
  DERIVED. THE GIVEN ROWS OF THIS SEAT. 8 by the template 'for every input the law returns true; each argument reads behind the call as it read before'; 0 by the template 'total and deterministic' (their statements: YtiamipopddaeiaaTotals.lean).
  GIVEN WITH THE SEED: the statements are not yours to turn. If you find one false, say at which input.
  Laid BY PROGRAM, IN A SANDBOX (cutbox-rows.mjs): the forced cells as the released guide's own fill.sh prints them over the translation ce80f02dfd1122a1… (all of the seat's roots in one cut). By AI agents, Wed Nov 11 2026. No macro, syntax, notation, axiom, sorry.
-/
import Derived.Test.YtiamipopddaeiaaChecked
import GoSem.Claim
import GoSem.ClaimJoined
import GoSem.ClaimMapViews
import Derived.JoinedTies
import Derived.KernelRfl
namespace Go.Proofs.Ytiamipopddaeiaa
/- THE CELL 'sum', in the pinned program and in every row, IS THE sha256 OF THE DUMP (.gsa) THAT YtiamipopddaeiaaProg.lean LOADS. Nothing in Lean hashes anything: it is a label: what it is worth is what the hold of that sum in a sandbox is worth. -/
noncomputable def Try.pinned : Pinned := { name := "ytiamipopddaeiaa", sum := "ce80f02dfd1122a19a9c317479c60f8979756bd42cb80cc9ea2d46ab88f64145", checked := Try.checked }
namespace Rows
def none {H : Type} : Left H := { results := [], args := [] }

/-- 'quarterdecklaw02.RealBelow': WHATEVER THE INPUT: true; the input reads as it did. -/
def realBelowSpec : ChangeSpec := { name := "realBelow", fn := fun _ => fun
  | [d1, d2] => { results := [.lit (.bool true)], args := [d1, d2] }
  | _ => none }
def realBelowRow : OpenClaim := { program := "ytiamipopddaeiaa", sum := "ce80f02dfd1122a19a9c317479c60f8979756bd42cb80cc9ea2d46ab88f64145", func := "quarterdeck/quarterdecklaw02.RealBelow", spec := "realBelow", inPlace := ["math.Float64bits", "math.Float64frombits"], apart := false }
def RealBelowSaid : Prop := realBelowRow.holds Try.pinned (OpenSpec.ofChange realBelowSpec)

/-- ITS FALSE NEIGHBOUR: 'it returns false'. Refute it at one input. -/
def realBelowWrong : ChangeSpec := { name := "realBelow", fn := fun _ => fun
  | [d1, d2] => { results := [.lit (.bool false)], args := [d1, d2] }
  | _ => none }
def RealBelowWrongFalsely : Prop := realBelowRow.holds Try.pinned (OpenSpec.ofChange realBelowWrong)

/-- 'quarterdecklaw02.RealChanges': WHATEVER THE INPUT: true; the input reads as it did. -/
def realChangesSpec : ChangeSpec := { name := "realChanges", fn := fun _ => fun
  | [d] => { results := [.lit (.bool true)], args := [d] }
  | _ => none }
def realChangesRow : OpenClaim := { program := "ytiamipopddaeiaa", sum := "ce80f02dfd1122a19a9c317479c60f8979756bd42cb80cc9ea2d46ab88f64145", func := "quarterdeck/quarterdecklaw02.RealChanges", spec := "realChanges", inPlace := ["math.Float64bits", "math.Float64frombits"], apart := false }
def RealChangesSaid : Prop := realChangesRow.holds Try.pinned (OpenSpec.ofChange realChangesSpec)

/-- ITS FALSE NEIGHBOUR: 'it returns false'. Refute it at one input. -/
def realChangesWrong : ChangeSpec := { name := "realChanges", fn := fun _ => fun
  | [d] => { results := [.lit (.bool false)], args := [d] }
  | _ => none }
def RealChangesWrongFalsely : Prop := realChangesRow.holds Try.pinned (OpenSpec.ofChange realChangesWrong)

/-- 'quarterdecklaw02.RealOrder': WHATEVER THE INPUT: true; the input reads as it did. -/
def realOrderSpec : ChangeSpec := { name := "realOrder", fn := fun _ => fun
  | [d1, d2, d3, d4, d5] => { results := [.lit (.bool true)], args := [d1, d2, d3, d4, d5] }
  | _ => none }
def realOrderRow : OpenClaim := { program := "ytiamipopddaeiaa", sum := "ce80f02dfd1122a19a9c317479c60f8979756bd42cb80cc9ea2d46ab88f64145", func := "quarterdeck/quarterdecklaw02.RealOrder", spec := "realOrder", inPlace := ["math.Float64bits", "math.Float64frombits"], apart := false }
def RealOrderSaid : Prop := realOrderRow.holds Try.pinned (OpenSpec.ofChange realOrderSpec)

/-- ITS FALSE NEIGHBOUR: 'it returns false'. Refute it at one input. -/
def realOrderWrong : ChangeSpec := { name := "realOrder", fn := fun _ => fun
  | [d1, d2, d3, d4, d5] => { results := [.lit (.bool false)], args := [d1, d2, d3, d4, d5] }
  | _ => none }
def RealOrderWrongFalsely : Prop := realOrderRow.holds Try.pinned (OpenSpec.ofChange realOrderWrong)

/-- 'quarterdecklaw02.RealTwice': WHATEVER THE INPUT: true; the input reads as it did. -/
def realTwiceSpec : ChangeSpec := { name := "realTwice", fn := fun _ => fun
  | [d] => { results := [.lit (.bool true)], args := [d] }
  | _ => none }
def realTwiceRow : OpenClaim := { program := "ytiamipopddaeiaa", sum := "ce80f02dfd1122a19a9c317479c60f8979756bd42cb80cc9ea2d46ab88f64145", func := "quarterdeck/quarterdecklaw02.RealTwice", spec := "realTwice", inPlace := ["math.Float64bits", "math.Float64frombits"], apart := false }
def RealTwiceSaid : Prop := realTwiceRow.holds Try.pinned (OpenSpec.ofChange realTwiceSpec)

/-- ITS FALSE NEIGHBOUR: 'it returns false'. Refute it at one input. -/
def realTwiceWrong : ChangeSpec := { name := "realTwice", fn := fun _ => fun
  | [d] => { results := [.lit (.bool false)], args := [d] }
  | _ => none }
def RealTwiceWrongFalsely : Prop := realTwiceRow.holds Try.pinned (OpenSpec.ofChange realTwiceWrong)

/-- 'quarterdecklaw02.RealWhole': WHATEVER THE INPUT: true; the input reads as it did. -/
def realWholeSpec : ChangeSpec := { name := "realWhole", fn := fun _ => fun
  | [d1, d2] => { results := [.lit (.bool true)], args := [d1, d2] }
  | _ => none }
def realWholeRow : OpenClaim := { program := "ytiamipopddaeiaa", sum := "ce80f02dfd1122a19a9c317479c60f8979756bd42cb80cc9ea2d46ab88f64145", func := "quarterdeck/quarterdecklaw02.RealWhole", spec := "realWhole", inPlace := ["math.Float64bits", "math.Float64frombits", "math.archTrunc"], apart := false }
def RealWholeSaid : Prop := realWholeRow.holds Try.pinned (OpenSpec.ofChange realWholeSpec)

/-- ITS FALSE NEIGHBOUR: 'it returns false'. Refute it at one input. -/
def realWholeWrong : ChangeSpec := { name := "realWhole", fn := fun _ => fun
  | [d1, d2] => { results := [.lit (.bool false)], args := [d1, d2] }
  | _ => none }
def RealWholeWrongFalsely : Prop := realWholeRow.holds Try.pinned (OpenSpec.ofChange realWholeWrong)

/-- 'quarterdecklaw02.RealSteps': WHATEVER THE INPUT: true; the input reads as it did. -/
def realStepsSpec : ChangeSpec := { name := "realSteps", fn := fun _ => fun
  | [d] => { results := [.lit (.bool true)], args := [d] }
  | _ => none }
def realStepsRow : OpenClaim := { program := "ytiamipopddaeiaa", sum := "ce80f02dfd1122a19a9c317479c60f8979756bd42cb80cc9ea2d46ab88f64145", func := "quarterdeck/quarterdecklaw02.RealSteps", spec := "realSteps", inPlace := ["math.Float64bits", "math.Float64frombits", "math.archTrunc"], apart := false }
def RealStepsSaid : Prop := realStepsRow.holds Try.pinned (OpenSpec.ofChange realStepsSpec)

/-- ITS FALSE NEIGHBOUR: 'it returns false'. Refute it at one input. -/
def realStepsWrong : ChangeSpec := { name := "realSteps", fn := fun _ => fun
  | [d] => { results := [.lit (.bool false)], args := [d] }
  | _ => none }
def RealStepsWrongFalsely : Prop := realStepsRow.holds Try.pinned (OpenSpec.ofChange realStepsWrong)

/-- 'quarterdecklaw02.RealBack': WHATEVER THE INPUT: true; the input reads as it did. -/
def realBackSpec : ChangeSpec := { name := "realBack", fn := fun _ => fun
  | [d1, d2] => { results := [.lit (.bool true)], args := [d1, d2] }
  | _ => none }
def realBackRow : OpenClaim := { program := "ytiamipopddaeiaa", sum := "ce80f02dfd1122a19a9c317479c60f8979756bd42cb80cc9ea2d46ab88f64145", func := "quarterdeck/quarterdecklaw02.RealBack", spec := "realBack", inPlace := ["math.Float64bits", "math.Float64frombits", "math.archTrunc"], apart := false }
def RealBackSaid : Prop := realBackRow.holds Try.pinned (OpenSpec.ofChange realBackSpec)

/-- ITS FALSE NEIGHBOUR: 'it returns false'. Refute it at one input. -/
def realBackWrong : ChangeSpec := { name := "realBack", fn := fun _ => fun
  | [d1, d2] => { results := [.lit (.bool false)], args := [d1, d2] }
  | _ => none }
def RealBackWrongFalsely : Prop := realBackRow.holds Try.pinned (OpenSpec.ofChange realBackWrong)

/-- 'quarterdecklaw02.RealNone': WHATEVER THE INPUT: true; the input reads as it did. -/
def realNoneSpec : ChangeSpec := { name := "realNone", fn := fun _ => fun
  | [d1, d2] => { results := [.lit (.bool true)], args := [d1, d2] }
  | _ => none }
def realNoneRow : OpenClaim := { program := "ytiamipopddaeiaa", sum := "ce80f02dfd1122a19a9c317479c60f8979756bd42cb80cc9ea2d46ab88f64145", func := "quarterdeck/quarterdecklaw02.RealNone", spec := "realNone", inPlace := ["math.Float64bits", "math.Float64frombits", "math.archTrunc"], apart := false }
def RealNoneSaid : Prop := realNoneRow.holds Try.pinned (OpenSpec.ofChange realNoneSpec)

/-- ITS FALSE NEIGHBOUR: 'it returns false'. Refute it at one input. -/
def realNoneWrong : ChangeSpec := { name := "realNone", fn := fun _ => fun
  | [d1, d2] => { results := [.lit (.bool false)], args := [d1, d2] }
  | _ => none }
def RealNoneWrongFalsely : Prop := realNoneRow.holds Try.pinned (OpenSpec.ofChange realNoneWrong)

/- THE SECOND FORM. 'bulk': how many values and letters a reading holds, each counted each time it is reached (what is shared counts as often as it is met; a slice's spare places count too). A statement '..UptoSaid' is the law's where the arguments, and the package variables that the reading takes, are together of bulk at most 1048576: NARROWER than '..Said'. Prove '..Said' where nothing that the law and all that it calls make is longer than what came in: it says more and counts as full. Else prove '..UptoSaid'. A law counts once. -/
mutual
def uptoBulk {H : Type} : DataW H → Nat
  | .lit (.string bytes) => bytes.length + 1
  | .lit _ => 1
  | .nil => 1
  | .ptr d => uptoBulk d + 1
  | .slice elems spare => uptoBulkAll elems + uptoBulkAll spare + 1
  | .agg parts => uptoBulkAll parts + 1
  | .iface _ d => uptoBulk d + 1
  | .map entries => uptoBulkEntries entries + 1
  | .held _ => 1
def uptoBulkAll {H : Type} : List (DataW H) → Nat
  | [] => 0
  | d :: r => uptoBulk d + uptoBulkAll r
def uptoBulkEntries {H : Type} : List (Lit × DataW H) → Nat
  | [] => 0
  | x :: r => uptoBulkEntry x + uptoBulkEntries r
def uptoBulkEntry {H : Type} : Lit × DataW H → Nat
  | (.string bytes, d) => bytes.length + uptoBulk d + 1
  | (_, d) => uptoBulk d + 1
 end
def uptoSmall : (H : Type) → List (DataW H) → Bool := fun _ ds => decide (uptoBulkAll ds ≤ 1048576)
def OpenSpec.upto (s : _root_.Go.ChangeSpec) : _root_.Go.OpenSpec := { _root_.Go.OpenSpec.ofChange s with cond := some uptoSmall }

/-- 'quarterdecklaw02.RealBelow', WHERE WHAT IT READS IS OF BULK AT MOST 1048576: true; the input reads as it did. -/
def realBelowUptoRow : OpenClaim := { program := "ytiamipopddaeiaa", sum := "ce80f02dfd1122a19a9c317479c60f8979756bd42cb80cc9ea2d46ab88f64145", func := "quarterdeck/quarterdecklaw02.RealBelow", spec := "realBelow", inPlace := ["math.Float64bits", "math.Float64frombits"], apart := false, narrowed := true }
def RealBelowUptoSaid : Prop := realBelowUptoRow.holds Try.pinned (OpenSpec.upto realBelowSpec)

/-- 'quarterdecklaw02.RealChanges', WHERE WHAT IT READS IS OF BULK AT MOST 1048576: true; the input reads as it did. -/
def realChangesUptoRow : OpenClaim := { program := "ytiamipopddaeiaa", sum := "ce80f02dfd1122a19a9c317479c60f8979756bd42cb80cc9ea2d46ab88f64145", func := "quarterdeck/quarterdecklaw02.RealChanges", spec := "realChanges", inPlace := ["math.Float64bits", "math.Float64frombits"], apart := false, narrowed := true }
def RealChangesUptoSaid : Prop := realChangesUptoRow.holds Try.pinned (OpenSpec.upto realChangesSpec)

/-- 'quarterdecklaw02.RealOrder', WHERE WHAT IT READS IS OF BULK AT MOST 1048576: true; the input reads as it did. -/
def realOrderUptoRow : OpenClaim := { program := "ytiamipopddaeiaa", sum := "ce80f02dfd1122a19a9c317479c60f8979756bd42cb80cc9ea2d46ab88f64145", func := "quarterdeck/quarterdecklaw02.RealOrder", spec := "realOrder", inPlace := ["math.Float64bits", "math.Float64frombits"], apart := false, narrowed := true }
def RealOrderUptoSaid : Prop := realOrderUptoRow.holds Try.pinned (OpenSpec.upto realOrderSpec)

/-- 'quarterdecklaw02.RealTwice', WHERE WHAT IT READS IS OF BULK AT MOST 1048576: true; the input reads as it did. -/
def realTwiceUptoRow : OpenClaim := { program := "ytiamipopddaeiaa", sum := "ce80f02dfd1122a19a9c317479c60f8979756bd42cb80cc9ea2d46ab88f64145", func := "quarterdeck/quarterdecklaw02.RealTwice", spec := "realTwice", inPlace := ["math.Float64bits", "math.Float64frombits"], apart := false, narrowed := true }
def RealTwiceUptoSaid : Prop := realTwiceUptoRow.holds Try.pinned (OpenSpec.upto realTwiceSpec)

/-- 'quarterdecklaw02.RealWhole', WHERE WHAT IT READS IS OF BULK AT MOST 1048576: true; the input reads as it did. -/
def realWholeUptoRow : OpenClaim := { program := "ytiamipopddaeiaa", sum := "ce80f02dfd1122a19a9c317479c60f8979756bd42cb80cc9ea2d46ab88f64145", func := "quarterdeck/quarterdecklaw02.RealWhole", spec := "realWhole", inPlace := ["math.Float64bits", "math.Float64frombits", "math.archTrunc"], apart := false, narrowed := true }
def RealWholeUptoSaid : Prop := realWholeUptoRow.holds Try.pinned (OpenSpec.upto realWholeSpec)

/-- 'quarterdecklaw02.RealSteps', WHERE WHAT IT READS IS OF BULK AT MOST 1048576: true; the input reads as it did. -/
def realStepsUptoRow : OpenClaim := { program := "ytiamipopddaeiaa", sum := "ce80f02dfd1122a19a9c317479c60f8979756bd42cb80cc9ea2d46ab88f64145", func := "quarterdeck/quarterdecklaw02.RealSteps", spec := "realSteps", inPlace := ["math.Float64bits", "math.Float64frombits", "math.archTrunc"], apart := false, narrowed := true }
def RealStepsUptoSaid : Prop := realStepsUptoRow.holds Try.pinned (OpenSpec.upto realStepsSpec)

/-- 'quarterdecklaw02.RealBack', WHERE WHAT IT READS IS OF BULK AT MOST 1048576: true; the input reads as it did. -/
def realBackUptoRow : OpenClaim := { program := "ytiamipopddaeiaa", sum := "ce80f02dfd1122a19a9c317479c60f8979756bd42cb80cc9ea2d46ab88f64145", func := "quarterdeck/quarterdecklaw02.RealBack", spec := "realBack", inPlace := ["math.Float64bits", "math.Float64frombits", "math.archTrunc"], apart := false, narrowed := true }
def RealBackUptoSaid : Prop := realBackUptoRow.holds Try.pinned (OpenSpec.upto realBackSpec)

/-- 'quarterdecklaw02.RealNone', WHERE WHAT IT READS IS OF BULK AT MOST 1048576: true; the input reads as it did. -/
def realNoneUptoRow : OpenClaim := { program := "ytiamipopddaeiaa", sum := "ce80f02dfd1122a19a9c317479c60f8979756bd42cb80cc9ea2d46ab88f64145", func := "quarterdeck/quarterdecklaw02.RealNone", spec := "realNone", inPlace := ["math.Float64bits", "math.Float64frombits", "math.archTrunc"], apart := false, narrowed := true }
def RealNoneUptoSaid : Prop := realNoneUptoRow.holds Try.pinned (OpenSpec.upto realNoneSpec)

end Rows
end Go.Proofs.Ytiamipopddaeiaa
