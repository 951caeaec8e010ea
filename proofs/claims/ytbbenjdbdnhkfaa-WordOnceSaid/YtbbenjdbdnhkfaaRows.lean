/-
  No cell of these rows narrows 'for every input' (looked for: loops, veiled, ifaces, maps, wideKeys, modest, calm, conditions, laid).
  DERIVED. THE GIVEN ROWS OF THIS SEAT. 9 by the template 'for every input the law returns true; each argument reads behind the call as it read before'; 0 by the template 'total and deterministic' (their statements: YtbbenjdbdnhkfaaTotals.lean).
  GIVEN WITH THE SEED: the statements are not yours to turn. If you find one false, say at which input.
  Laid BY PROGRAM, IN A SANDBOX (cutbox-rows.mjs): the forced cells as the released guide's own fill.sh prints them over the translation ffe6198d4171aa15… (all of the seat's roots in one cut). By AI agents, Wed Nov 11 2026. No macro, syntax, notation, axiom, sorry.
-/
import Derived.Test.YtbbenjdbdnhkfaaChecked
import GoSem.Claim
import GoSem.ClaimJoined
import GoSem.ClaimMapViews
import Derived.JoinedTies
import Derived.KernelRfl
namespace Go.Proofs.Ytbbenjdbdnhkfaa
/- THE CELL 'sum', in the pinned program and in every row, IS THE sha256 OF THE DUMP (.gsa) THAT YtbbenjdbdnhkfaaProg.lean LOADS. Nothing in Lean hashes anything: it is a label: what it is worth is what the hold of that sum in a sandbox is worth. -/
noncomputable def Try.pinned : Pinned := { name := "ytbbenjdbdnhkfaa", sum := "ffe6198d4171aa1504ce1707b2d430ff748e78bdd3a1c06a7e10ea52f50b1845", checked := Try.checked }
namespace Rows
def none {H : Type} : Left H := { results := [], args := [] }

/-- 'quarterdecklaw01.WordDivides': WHATEVER THE INPUT: true; the input reads as it did. -/
def wordDividesSpec : ChangeSpec := { name := "wordDivides", fn := fun _ => fun
  | [d1, d2] => { results := [.lit (.bool true)], args := [d1, d2] }
  | _ => none }
def wordDividesRow : OpenClaim := { program := "ytbbenjdbdnhkfaa", sum := "ffe6198d4171aa1504ce1707b2d430ff748e78bdd3a1c06a7e10ea52f50b1845", func := "quarterdeck/quarterdecklaw01.WordDivides", spec := "wordDivides", unfollowed := true, recurses := true, apart := false }
def WordDividesSaid : Prop := wordDividesRow.holds Try.pinned (OpenSpec.ofChange wordDividesSpec)

/-- ITS FALSE NEIGHBOUR: 'it returns false'. Refute it at one input. -/
def wordDividesWrong : ChangeSpec := { name := "wordDivides", fn := fun _ => fun
  | [d1, d2] => { results := [.lit (.bool false)], args := [d1, d2] }
  | _ => none }
def WordDividesWrongFalsely : Prop := wordDividesRow.holds Try.pinned (OpenSpec.ofChange wordDividesWrong)

/-- 'quarterdecklaw01.WordRest': WHATEVER THE INPUT: true; the input reads as it did. -/
def wordRestSpec : ChangeSpec := { name := "wordRest", fn := fun _ => fun
  | [d1, d2] => { results := [.lit (.bool true)], args := [d1, d2] }
  | _ => none }
def wordRestRow : OpenClaim := { program := "ytbbenjdbdnhkfaa", sum := "ffe6198d4171aa1504ce1707b2d430ff748e78bdd3a1c06a7e10ea52f50b1845", func := "quarterdeck/quarterdecklaw01.WordRest", spec := "wordRest", unfollowed := true, recurses := true, apart := false }
def WordRestSaid : Prop := wordRestRow.holds Try.pinned (OpenSpec.ofChange wordRestSpec)

/-- ITS FALSE NEIGHBOUR: 'it returns false'. Refute it at one input. -/
def wordRestWrong : ChangeSpec := { name := "wordRest", fn := fun _ => fun
  | [d1, d2] => { results := [.lit (.bool false)], args := [d1, d2] }
  | _ => none }
def WordRestWrongFalsely : Prop := wordRestRow.holds Try.pinned (OpenSpec.ofChange wordRestWrong)

/-- 'quarterdecklaw01.WordSizes': WHATEVER THE INPUT: true; the input reads as it did. -/
def wordSizesSpec : ChangeSpec := { name := "wordSizes", fn := fun _ => fun
  | [d] => { results := [.lit (.bool true)], args := [d] }
  | _ => none }
def wordSizesRow : OpenClaim := { program := "ytbbenjdbdnhkfaa", sum := "ffe6198d4171aa1504ce1707b2d430ff748e78bdd3a1c06a7e10ea52f50b1845", func := "quarterdeck/quarterdecklaw01.WordSizes", spec := "wordSizes", unfollowed := true, recurses := true, apart := false }
def WordSizesSaid : Prop := wordSizesRow.holds Try.pinned (OpenSpec.ofChange wordSizesSpec)

/-- ITS FALSE NEIGHBOUR: 'it returns false'. Refute it at one input. -/
def wordSizesWrong : ChangeSpec := { name := "wordSizes", fn := fun _ => fun
  | [d] => { results := [.lit (.bool false)], args := [d] }
  | _ => none }
def WordSizesWrongFalsely : Prop := wordSizesRow.holds Try.pinned (OpenSpec.ofChange wordSizesWrong)

/-- 'quarterdecklaw01.WordByOne': WHATEVER THE INPUT: true; the input reads as it did. -/
def wordByOneSpec : ChangeSpec := { name := "wordByOne", fn := fun _ => fun
  | [d] => { results := [.lit (.bool true)], args := [d] }
  | _ => none }
def wordByOneRow : OpenClaim := { program := "ytbbenjdbdnhkfaa", sum := "ffe6198d4171aa1504ce1707b2d430ff748e78bdd3a1c06a7e10ea52f50b1845", func := "quarterdeck/quarterdecklaw01.WordByOne", spec := "wordByOne", unfollowed := true, recurses := true, apart := false }
def WordByOneSaid : Prop := wordByOneRow.holds Try.pinned (OpenSpec.ofChange wordByOneSpec)

/-- ITS FALSE NEIGHBOUR: 'it returns false'. Refute it at one input. -/
def wordByOneWrong : ChangeSpec := { name := "wordByOne", fn := fun _ => fun
  | [d] => { results := [.lit (.bool false)], args := [d] }
  | _ => none }
def WordByOneWrongFalsely : Prop := wordByOneRow.holds Try.pinned (OpenSpec.ofChange wordByOneWrong)

/-- 'quarterdecklaw01.WordPuts': WHATEVER THE INPUT: true; the input reads as it did. -/
def wordPutsSpec : ChangeSpec := { name := "wordPuts", fn := fun _ => fun
  | [d1, d2] => { results := [.lit (.bool true)], args := [d1, d2] }
  | _ => none }
def wordPutsRow : OpenClaim := { program := "ytbbenjdbdnhkfaa", sum := "ffe6198d4171aa1504ce1707b2d430ff748e78bdd3a1c06a7e10ea52f50b1845", func := "quarterdeck/quarterdecklaw01.WordPuts", spec := "wordPuts", unfollowed := true, recurses := true, apart := false }
def WordPutsSaid : Prop := wordPutsRow.holds Try.pinned (OpenSpec.ofChange wordPutsSpec)

/-- ITS FALSE NEIGHBOUR: 'it returns false'. Refute it at one input. -/
def wordPutsWrong : ChangeSpec := { name := "wordPuts", fn := fun _ => fun
  | [d1, d2] => { results := [.lit (.bool false)], args := [d1, d2] }
  | _ => none }
def WordPutsWrongFalsely : Prop := wordPutsRow.holds Try.pinned (OpenSpec.ofChange wordPutsWrong)

/-- 'quarterdecklaw01.WordJoins': WHATEVER THE INPUT: true; the input reads as it did. -/
def wordJoinsSpec : ChangeSpec := { name := "wordJoins", fn := fun _ => fun
  | [d1, d2] => { results := [.lit (.bool true)], args := [d1, d2] }
  | _ => none }
def wordJoinsRow : OpenClaim := { program := "ytbbenjdbdnhkfaa", sum := "ffe6198d4171aa1504ce1707b2d430ff748e78bdd3a1c06a7e10ea52f50b1845", func := "quarterdeck/quarterdecklaw01.WordJoins", spec := "wordJoins", unfollowed := true, recurses := true, apart := false }
def WordJoinsSaid : Prop := wordJoinsRow.holds Try.pinned (OpenSpec.ofChange wordJoinsSpec)

/-- ITS FALSE NEIGHBOUR: 'it returns false'. Refute it at one input. -/
def wordJoinsWrong : ChangeSpec := { name := "wordJoins", fn := fun _ => fun
  | [d1, d2] => { results := [.lit (.bool false)], args := [d1, d2] }
  | _ => none }
def WordJoinsWrongFalsely : Prop := wordJoinsRow.holds Try.pinned (OpenSpec.ofChange wordJoinsWrong)

/-- 'quarterdecklaw01.WordOnce': WHATEVER THE INPUT: true; the input reads as it did. -/
def wordOnceSpec : ChangeSpec := { name := "wordOnce", fn := fun _ => fun
  | [d] => { results := [.lit (.bool true)], args := [d] }
  | _ => none }
def wordOnceRow : OpenClaim := { program := "ytbbenjdbdnhkfaa", sum := "ffe6198d4171aa1504ce1707b2d430ff748e78bdd3a1c06a7e10ea52f50b1845", func := "quarterdeck/quarterdecklaw01.WordOnce", spec := "wordOnce", unfollowed := true, recurses := true, apart := false }
def WordOnceSaid : Prop := wordOnceRow.holds Try.pinned (OpenSpec.ofChange wordOnceSpec)

/-- ITS FALSE NEIGHBOUR: 'it returns false'. Refute it at one input. -/
def wordOnceWrong : ChangeSpec := { name := "wordOnce", fn := fun _ => fun
  | [d] => { results := [.lit (.bool false)], args := [d] }
  | _ => none }
def WordOnceWrongFalsely : Prop := wordOnceRow.holds Try.pinned (OpenSpec.ofChange wordOnceWrong)

/-- 'quarterdecklaw01.WordGets': WHATEVER THE INPUT: true; the input reads as it did. -/
def wordGetsSpec : ChangeSpec := { name := "wordGets", fn := fun _ => fun
  | [d] => { results := [.lit (.bool true)], args := [d] }
  | _ => none }
def wordGetsRow : OpenClaim := { program := "ytbbenjdbdnhkfaa", sum := "ffe6198d4171aa1504ce1707b2d430ff748e78bdd3a1c06a7e10ea52f50b1845", func := "quarterdeck/quarterdecklaw01.WordGets", spec := "wordGets", unfollowed := true, recurses := true, apart := false }
def WordGetsSaid : Prop := wordGetsRow.holds Try.pinned (OpenSpec.ofChange wordGetsSpec)

/-- ITS FALSE NEIGHBOUR: 'it returns false'. Refute it at one input. -/
def wordGetsWrong : ChangeSpec := { name := "wordGets", fn := fun _ => fun
  | [d] => { results := [.lit (.bool false)], args := [d] }
  | _ => none }
def WordGetsWrongFalsely : Prop := wordGetsRow.holds Try.pinned (OpenSpec.ofChange wordGetsWrong)

/-- 'quarterdecklaw01.WordBack': WHATEVER THE INPUT: true; the input reads as it did. -/
def wordBackSpec : ChangeSpec := { name := "wordBack", fn := fun _ => fun
  | [d1, d2, d3] => { results := [.lit (.bool true)], args := [d1, d2, d3] }
  | _ => none }
def wordBackRow : OpenClaim := { program := "ytbbenjdbdnhkfaa", sum := "ffe6198d4171aa1504ce1707b2d430ff748e78bdd3a1c06a7e10ea52f50b1845", func := "quarterdeck/quarterdecklaw01.WordBack", spec := "wordBack", unfollowed := true, recurses := true, apart := false }
def WordBackSaid : Prop := wordBackRow.holds Try.pinned (OpenSpec.ofChange wordBackSpec)

/-- ITS FALSE NEIGHBOUR: 'it returns false'. Refute it at one input. -/
def wordBackWrong : ChangeSpec := { name := "wordBack", fn := fun _ => fun
  | [d1, d2, d3] => { results := [.lit (.bool false)], args := [d1, d2, d3] }
  | _ => none }
def WordBackWrongFalsely : Prop := wordBackRow.holds Try.pinned (OpenSpec.ofChange wordBackWrong)

/- THE SECOND FORM. 'bulk': how many values and letters a reading holds, each counted each time it is reached (what is shared counts as often as it is met; a slice's spare places count too). A statement '..UptoSaid' is the law's where the arguments, and the package variables that the reading takes, are together of bulk at most 1048576: NARROWER than '..Said'. Prove '..Said' where nothing that the law and all that it calls make is longer than what came in: it says more and counts as full. Else prove '..UptoSaid'. A law counts once. -/
mutual
def uptoBulk {H : Type} : DataW H → Nat
  | .lit (.string bytes) => bytes.length + 1
  | .lit _ => 1
  | .nil => 1
  | .ptr d => uptoBulk d + 1
  | .slice elems spare => uptoBulkAll elems + uptoBulkAll spare + 1
  | .agg parts => uptoBulkAll parts + 1
  | .iface _ d => uptoBulk d + 1
  | .map entries => uptoBulkEntries entries + 1
  | .held _ => 1
def uptoBulkAll {H : Type} : List (DataW H) → Nat
  | [] => 0
  | d :: r => uptoBulk d + uptoBulkAll r
def uptoBulkEntries {H : Type} : List (Lit × DataW H) → Nat
  | [] => 0
  | x :: r => uptoBulkEntry x + uptoBulkEntries r
def uptoBulkEntry {H : Type} : Lit × DataW H → Nat
  | (.string bytes, d) => bytes.length + uptoBulk d + 1
  | (_, d) => uptoBulk d + 1
 end
def uptoSmall : (H : Type) → List (DataW H) → Bool := fun _ ds => decide (uptoBulkAll ds ≤ 1048576)
def OpenSpec.upto (s : _root_.Go.ChangeSpec) : _root_.Go.OpenSpec := { _root_.Go.OpenSpec.ofChange s with cond := some uptoSmall }

/-- 'quarterdecklaw01.WordDivides', WHERE WHAT IT READS IS OF BULK AT MOST 1048576: true; the input reads as it did. -/
def wordDividesUptoRow : OpenClaim := { program := "ytbbenjdbdnhkfaa", sum := "ffe6198d4171aa1504ce1707b2d430ff748e78bdd3a1c06a7e10ea52f50b1845", func := "quarterdeck/quarterdecklaw01.WordDivides", spec := "wordDivides", unfollowed := true, recurses := true, apart := false, narrowed := true }
def WordDividesUptoSaid : Prop := wordDividesUptoRow.holds Try.pinned (OpenSpec.upto wordDividesSpec)

/-- 'quarterdecklaw01.WordRest', WHERE WHAT IT READS IS OF BULK AT MOST 1048576: true; the input reads as it did. -/
def wordRestUptoRow : OpenClaim := { program := "ytbbenjdbdnhkfaa", sum := "ffe6198d4171aa1504ce1707b2d430ff748e78bdd3a1c06a7e10ea52f50b1845", func := "quarterdeck/quarterdecklaw01.WordRest", spec := "wordRest", unfollowed := true, recurses := true, apart := false, narrowed := true }
def WordRestUptoSaid : Prop := wordRestUptoRow.holds Try.pinned (OpenSpec.upto wordRestSpec)

/-- 'quarterdecklaw01.WordSizes', WHERE WHAT IT READS IS OF BULK AT MOST 1048576: true; the input reads as it did. -/
def wordSizesUptoRow : OpenClaim := { program := "ytbbenjdbdnhkfaa", sum := "ffe6198d4171aa1504ce1707b2d430ff748e78bdd3a1c06a7e10ea52f50b1845", func := "quarterdeck/quarterdecklaw01.WordSizes", spec := "wordSizes", unfollowed := true, recurses := true, apart := false, narrowed := true }
def WordSizesUptoSaid : Prop := wordSizesUptoRow.holds Try.pinned (OpenSpec.upto wordSizesSpec)

/-- 'quarterdecklaw01.WordByOne', WHERE WHAT IT READS IS OF BULK AT MOST 1048576: true; the input reads as it did. -/
def wordByOneUptoRow : OpenClaim := { program := "ytbbenjdbdnhkfaa", sum := "ffe6198d4171aa1504ce1707b2d430ff748e78bdd3a1c06a7e10ea52f50b1845", func := "quarterdeck/quarterdecklaw01.WordByOne", spec := "wordByOne", unfollowed := true, recurses := true, apart := false, narrowed := true }
def WordByOneUptoSaid : Prop := wordByOneUptoRow.holds Try.pinned (OpenSpec.upto wordByOneSpec)

/-- 'quarterdecklaw01.WordPuts', WHERE WHAT IT READS IS OF BULK AT MOST 1048576: true; the input reads as it did. -/
def wordPutsUptoRow : OpenClaim := { program := "ytbbenjdbdnhkfaa", sum := "ffe6198d4171aa1504ce1707b2d430ff748e78bdd3a1c06a7e10ea52f50b1845", func := "quarterdeck/quarterdecklaw01.WordPuts", spec := "wordPuts", unfollowed := true, recurses := true, apart := false, narrowed := true }
def WordPutsUptoSaid : Prop := wordPutsUptoRow.holds Try.pinned (OpenSpec.upto wordPutsSpec)

/-- 'quarterdecklaw01.WordJoins', WHERE WHAT IT READS IS OF BULK AT MOST 1048576: true; the input reads as it did. -/
def wordJoinsUptoRow : OpenClaim := { program := "ytbbenjdbdnhkfaa", sum := "ffe6198d4171aa1504ce1707b2d430ff748e78bdd3a1c06a7e10ea52f50b1845", func := "quarterdeck/quarterdecklaw01.WordJoins", spec := "wordJoins", unfollowed := true, recurses := true, apart := false, narrowed := true }
def WordJoinsUptoSaid : Prop := wordJoinsUptoRow.holds Try.pinned (OpenSpec.upto wordJoinsSpec)

/-- 'quarterdecklaw01.WordOnce', WHERE WHAT IT READS IS OF BULK AT MOST 1048576: true; the input reads as it did. -/
def wordOnceUptoRow : OpenClaim := { program := "ytbbenjdbdnhkfaa", sum := "ffe6198d4171aa1504ce1707b2d430ff748e78bdd3a1c06a7e10ea52f50b1845", func := "quarterdeck/quarterdecklaw01.WordOnce", spec := "wordOnce", unfollowed := true, recurses := true, apart := false, narrowed := true }
def WordOnceUptoSaid : Prop := wordOnceUptoRow.holds Try.pinned (OpenSpec.upto wordOnceSpec)

/-- 'quarterdecklaw01.WordGets', WHERE WHAT IT READS IS OF BULK AT MOST 1048576: true; the input reads as it did. -/
def wordGetsUptoRow : OpenClaim := { program := "ytbbenjdbdnhkfaa", sum := "ffe6198d4171aa1504ce1707b2d430ff748e78bdd3a1c06a7e10ea52f50b1845", func := "quarterdeck/quarterdecklaw01.WordGets", spec := "wordGets", unfollowed := true, recurses := true, apart := false, narrowed := true }
def WordGetsUptoSaid : Prop := wordGetsUptoRow.holds Try.pinned (OpenSpec.upto wordGetsSpec)

/-- 'quarterdecklaw01.WordBack', WHERE WHAT IT READS IS OF BULK AT MOST 1048576: true; the input reads as it did. -/
def wordBackUptoRow : OpenClaim := { program := "ytbbenjdbdnhkfaa", sum := "ffe6198d4171aa1504ce1707b2d430ff748e78bdd3a1c06a7e10ea52f50b1845", func := "quarterdeck/quarterdecklaw01.WordBack", spec := "wordBack", unfollowed := true, recurses := true, apart := false, narrowed := true }
def WordBackUptoSaid : Prop := wordBackUptoRow.holds Try.pinned (OpenSpec.upto wordBackSpec)

end Rows
end Go.Proofs.Ytbbenjdbdnhkfaa
