/-
  No cell of these rows narrows 'for every input' (looked for: loops, veiled, ifaces, maps, wideKeys, modest, calm, conditions, laid).
  DERIVED. THE GIVEN ROWS OF THIS SEAT. 5 by the template 'for every input the law returns true; each argument reads behind the call as it read before'; 0 by the template 'total and deterministic' (their statements: YtfeifmjihdfadaaTotals.lean).
  GIVEN WITH THE SEED: the statements are not yours to turn. If you find one false, say at which input.
  Laid BY PROGRAM, IN A SANDBOX (cutbox-rows.mjs): the forced cells as the released guide's own fill.sh prints them over the translation 9dd7246581307c6e… (all of the seat's roots in one cut). By AI agents, Wed Nov 11 2026. No macro, syntax, notation, axiom, sorry.
-/
import Derived.Test.YtfeifmjihdfadaaChecked
import GoSem.Claim
import GoSem.ClaimJoined
import GoSem.ClaimMapViews
import Derived.JoinedTies
import Derived.KernelRfl
namespace Go.Proofs.Ytfeifmjihdfadaa
/- THE CELL 'sum', in the pinned program and in every row, IS THE sha256 OF THE DUMP (.gsa) THAT YtfeifmjihdfadaaProg.lean LOADS. Nothing in Lean hashes anything: it is a label: what it is worth is what the hold of that sum in a sandbox is worth. -/
noncomputable def Try.pinned : Pinned := { name := "ytfeifmjihdfadaa", sum := "9dd7246581307c6e518e9cbcd7bc4b27feec6c2a3b85b2a53f92eb396426d680", checked := Try.checked }
namespace Rows
def none {H : Type} : Left H := { results := [], args := [] }

/-- 'quarterdecklaw18.PortsTwice': WHATEVER THE INPUT: true; the input reads as it did. -/
def portsTwiceSpec : ChangeSpec := { name := "portsTwice", fn := fun _ => fun
  | [d1, d2] => { results := [.lit (.bool true)], args := [d1, d2] }
  | _ => none }
def portsTwiceRow : OpenClaim := { program := "ytfeifmjihdfadaa", sum := "9dd7246581307c6e518e9cbcd7bc4b27feec6c2a3b85b2a53f92eb396426d680", func := "quarterdeck/quarterdecklaw18.PortsTwice", spec := "portsTwice", apart := false }
def PortsTwiceSaid : Prop := portsTwiceRow.holds Try.pinned (OpenSpec.ofChange portsTwiceSpec)

/-- ITS FALSE NEIGHBOUR: 'it returns false'. Refute it at one input. -/
def portsTwiceWrong : ChangeSpec := { name := "portsTwice", fn := fun _ => fun
  | [d1, d2] => { results := [.lit (.bool false)], args := [d1, d2] }
  | _ => none }
def PortsTwiceWrongFalsely : Prop := portsTwiceRow.holds Try.pinned (OpenSpec.ofChange portsTwiceWrong)

/-- 'quarterdecklaw18.PortsFull': WHATEVER THE INPUT: true; the input reads as it did. -/
def portsFullSpec : ChangeSpec := { name := "portsFull", fn := fun _ => fun
  | [d1, d2] => { results := [.lit (.bool true)], args := [d1, d2] }
  | _ => none }
def portsFullRow : OpenClaim := { program := "ytfeifmjihdfadaa", sum := "9dd7246581307c6e518e9cbcd7bc4b27feec6c2a3b85b2a53f92eb396426d680", func := "quarterdeck/quarterdecklaw18.PortsFull", spec := "portsFull", apart := false }
def PortsFullSaid : Prop := portsFullRow.holds Try.pinned (OpenSpec.ofChange portsFullSpec)

/-- ITS FALSE NEIGHBOUR: 'it returns false'. Refute it at one input. -/
def portsFullWrong : ChangeSpec := { name := "portsFull", fn := fun _ => fun
  | [d1, d2] => { results := [.lit (.bool false)], args := [d1, d2] }
  | _ => none }
def PortsFullWrongFalsely : Prop := portsFullRow.holds Try.pinned (OpenSpec.ofChange portsFullWrong)

/-- 'quarterdecklaw18.PortsDo': WHATEVER THE INPUT: true; the input reads as it did. -/
def portsDoSpec : ChangeSpec := { name := "portsDo", fn := fun _ => fun
  | [d1, d2, d3] => { results := [.lit (.bool true)], args := [d1, d2, d3] }
  | _ => none }
def portsDoRow : OpenClaim := { program := "ytfeifmjihdfadaa", sum := "9dd7246581307c6e518e9cbcd7bc4b27feec6c2a3b85b2a53f92eb396426d680", func := "quarterdeck/quarterdecklaw18.PortsDo", spec := "portsDo", apart := false }
def PortsDoSaid : Prop := portsDoRow.holds Try.pinned (OpenSpec.ofChange portsDoSpec)

/-- ITS FALSE NEIGHBOUR: 'it returns false'. Refute it at one input. -/
def portsDoWrong : ChangeSpec := { name := "portsDo", fn := fun _ => fun
  | [d1, d2, d3] => { results := [.lit (.bool false)], args := [d1, d2, d3] }
  | _ => none }
def PortsDoWrongFalsely : Prop := portsDoRow.holds Try.pinned (OpenSpec.ofChange portsDoWrong)

/-- 'quarterdecklaw18.PortsOrder': WHATEVER THE INPUT: true; the input reads as it did. -/
def portsOrderSpec : ChangeSpec := { name := "portsOrder", fn := fun _ => fun
  | [d1, d2, d3] => { results := [.lit (.bool true)], args := [d1, d2, d3] }
  | _ => none }
def portsOrderRow : OpenClaim := { program := "ytfeifmjihdfadaa", sum := "9dd7246581307c6e518e9cbcd7bc4b27feec6c2a3b85b2a53f92eb396426d680", func := "quarterdeck/quarterdecklaw18.PortsOrder", spec := "portsOrder", apart := false }
def PortsOrderSaid : Prop := portsOrderRow.holds Try.pinned (OpenSpec.ofChange portsOrderSpec)

/-- ITS FALSE NEIGHBOUR: 'it returns false'. Refute it at one input. -/
def portsOrderWrong : ChangeSpec := { name := "portsOrder", fn := fun _ => fun
  | [d1, d2, d3] => { results := [.lit (.bool false)], args := [d1, d2, d3] }
  | _ => none }
def PortsOrderWrongFalsely : Prop := portsOrderRow.holds Try.pinned (OpenSpec.ofChange portsOrderWrong)

/-- 'quarterdecklaw18.PortsOwn': WHATEVER THE INPUT: true; the input reads as it did. -/
def portsOwnSpec : ChangeSpec := { name := "portsOwn", fn := fun _ => fun
  | [d1, d2, d3] => { results := [.lit (.bool true)], args := [d1, d2, d3] }
  | _ => none }
def portsOwnRow : OpenClaim := { program := "ytfeifmjihdfadaa", sum := "9dd7246581307c6e518e9cbcd7bc4b27feec6c2a3b85b2a53f92eb396426d680", func := "quarterdeck/quarterdecklaw18.PortsOwn", spec := "portsOwn", apart := false }
def PortsOwnSaid : Prop := portsOwnRow.holds Try.pinned (OpenSpec.ofChange portsOwnSpec)

/-- ITS FALSE NEIGHBOUR: 'it returns false'. Refute it at one input. -/
def portsOwnWrong : ChangeSpec := { name := "portsOwn", fn := fun _ => fun
  | [d1, d2, d3] => { results := [.lit (.bool false)], args := [d1, d2, d3] }
  | _ => none }
def PortsOwnWrongFalsely : Prop := portsOwnRow.holds Try.pinned (OpenSpec.ofChange portsOwnWrong)

/- THE SECOND FORM. 'bulk': how many values and letters a reading holds, each counted each time it is reached (what is shared counts as often as it is met; a slice's spare places count too). A statement '..UptoSaid' is the law's where the arguments, and the package variables that the reading takes, are together of bulk at most 1048576: NARROWER than '..Said'. Prove '..Said' where nothing that the law and all that it calls make is longer than what came in: it says more and counts as full. Else prove '..UptoSaid'. A law counts once. -/
mutual
def uptoBulk {H : Type} : DataW H → Nat
  | .lit (.string bytes) => bytes.length + 1
  | .lit _ => 1
  | .nil => 1
  | .ptr d => uptoBulk d + 1
  | .slice elems spare => uptoBulkAll elems + uptoBulkAll spare + 1
  | .agg parts => uptoBulkAll parts + 1
  | .iface _ d => uptoBulk d + 1
  | .map entries => uptoBulkEntries entries + 1
  | .held _ => 1
def uptoBulkAll {H : Type} : List (DataW H) → Nat
  | [] => 0
  | d :: r => uptoBulk d + uptoBulkAll r
def uptoBulkEntries {H : Type} : List (Lit × DataW H) → Nat
  | [] => 0
  | x :: r => uptoBulkEntry x + uptoBulkEntries r
def uptoBulkEntry {H : Type} : Lit × DataW H → Nat
  | (.string bytes, d) => bytes.length + uptoBulk d + 1
  | (_, d) => uptoBulk d + 1
 end
def uptoSmall : (H : Type) → List (DataW H) → Bool := fun _ ds => decide (uptoBulkAll ds ≤ 1048576)
def OpenSpec.upto (s : _root_.Go.ChangeSpec) : _root_.Go.OpenSpec := { _root_.Go.OpenSpec.ofChange s with cond := some uptoSmall }

/-- 'quarterdecklaw18.PortsTwice', WHERE WHAT IT READS IS OF BULK AT MOST 1048576: true; the input reads as it did. -/
def portsTwiceUptoRow : OpenClaim := { program := "ytfeifmjihdfadaa", sum := "9dd7246581307c6e518e9cbcd7bc4b27feec6c2a3b85b2a53f92eb396426d680", func := "quarterdeck/quarterdecklaw18.PortsTwice", spec := "portsTwice", apart := false, narrowed := true }
def PortsTwiceUptoSaid : Prop := portsTwiceUptoRow.holds Try.pinned (OpenSpec.upto portsTwiceSpec)

/-- 'quarterdecklaw18.PortsFull', WHERE WHAT IT READS IS OF BULK AT MOST 1048576: true; the input reads as it did. -/
def portsFullUptoRow : OpenClaim := { program := "ytfeifmjihdfadaa", sum := "9dd7246581307c6e518e9cbcd7bc4b27feec6c2a3b85b2a53f92eb396426d680", func := "quarterdeck/quarterdecklaw18.PortsFull", spec := "portsFull", apart := false, narrowed := true }
def PortsFullUptoSaid : Prop := portsFullUptoRow.holds Try.pinned (OpenSpec.upto portsFullSpec)

/-- 'quarterdecklaw18.PortsDo', WHERE WHAT IT READS IS OF BULK AT MOST 1048576: true; the input reads as it did. -/
def portsDoUptoRow : OpenClaim := { program := "ytfeifmjihdfadaa", sum := "9dd7246581307c6e518e9cbcd7bc4b27feec6c2a3b85b2a53f92eb396426d680", func := "quarterdeck/quarterdecklaw18.PortsDo", spec := "portsDo", apart := false, narrowed := true }
def PortsDoUptoSaid : Prop := portsDoUptoRow.holds Try.pinned (OpenSpec.upto portsDoSpec)

/-- 'quarterdecklaw18.PortsOrder', WHERE WHAT IT READS IS OF BULK AT MOST 1048576: true; the input reads as it did. -/
def portsOrderUptoRow : OpenClaim := { program := "ytfeifmjihdfadaa", sum := "9dd7246581307c6e518e9cbcd7bc4b27feec6c2a3b85b2a53f92eb396426d680", func := "quarterdeck/quarterdecklaw18.PortsOrder", spec := "portsOrder", apart := false, narrowed := true }
def PortsOrderUptoSaid : Prop := portsOrderUptoRow.holds Try.pinned (OpenSpec.upto portsOrderSpec)

/-- 'quarterdecklaw18.PortsOwn', WHERE WHAT IT READS IS OF BULK AT MOST 1048576: true; the input reads as it did. -/
def portsOwnUptoRow : OpenClaim := { program := "ytfeifmjihdfadaa", sum := "9dd7246581307c6e518e9cbcd7bc4b27feec6c2a3b85b2a53f92eb396426d680", func := "quarterdeck/quarterdecklaw18.PortsOwn", spec := "portsOwn", apart := false, narrowed := true }
def PortsOwnUptoSaid : Prop := portsOwnUptoRow.holds Try.pinned (OpenSpec.upto portsOwnSpec)

end Rows
end Go.Proofs.Ytfeifmjihdfadaa
