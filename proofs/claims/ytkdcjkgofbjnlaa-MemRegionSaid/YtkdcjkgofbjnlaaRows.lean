/-
  No cell of these rows narrows 'for every input' (looked for: loops, veiled, ifaces, maps, wideKeys, modest, calm, conditions, laid).
  DERIVED. THE GIVEN ROWS OF THIS SEAT. 6 by the template 'for every input the law returns true; each argument reads behind the call as it read before'; 0 by the template 'total and deterministic' (their statements: YtkdcjkgofbjnlaaTotals.lean).
  GIVEN WITH THE SEED: the statements are not yours to turn. If you find one false, say at which input.
  Laid BY PROGRAM, IN A SANDBOX (cutbox-rows.mjs): the forced cells as the released guide's own fill.sh prints them over the translation 3dae970f99ff60a4… (all of the seat's roots in one cut). By AI agents, Wed Nov 11 2026. No macro, syntax, notation, axiom, sorry.
-/
import Derived.Test.YtkdcjkgofbjnlaaChecked
import GoSem.Claim
import GoSem.ClaimJoined
import GoSem.ClaimMapViews
import Derived.JoinedTies
import Derived.KernelRfl
namespace Go.Proofs.Ytkdcjkgofbjnlaa
/- THE CELL 'sum', in the pinned program and in every row, IS THE sha256 OF THE DUMP (.gsa) THAT YtkdcjkgofbjnlaaProg.lean LOADS. Nothing in Lean hashes anything: it is a label: what it is worth is what the hold of that sum in a sandbox is worth. -/
noncomputable def Try.pinned : Pinned := { name := "ytkdcjkgofbjnlaa", sum := "3dae970f99ff60a4d3e21ad74168e3c7aec9d32223b1f0dbd830829dca1b19a0", checked := Try.checked }
namespace Rows
def none {H : Type} : Left H := { results := [], args := [] }

/-- 'quarterdecklaw03.MemMay': WHATEVER THE INPUT: true; the input reads as it did. -/
def memMaySpec : ChangeSpec := { name := "memMay", fn := fun _ => fun
  | [d1, d2] => { results := [.lit (.bool true)], args := [d1, d2] }
  | _ => none }
def memMayRow : OpenClaim := { program := "ytkdcjkgofbjnlaa", sum := "3dae970f99ff60a4d3e21ad74168e3c7aec9d32223b1f0dbd830829dca1b19a0", func := "quarterdeck/quarterdecklaw03.MemMay", spec := "memMay", unfollowed := true, recurses := true, apart := false }
def MemMaySaid : Prop := memMayRow.holds Try.pinned (OpenSpec.ofChange memMaySpec)

/-- ITS FALSE NEIGHBOUR: 'it returns false'. Refute it at one input. -/
def memMayWrong : ChangeSpec := { name := "memMay", fn := fun _ => fun
  | [d1, d2] => { results := [.lit (.bool false)], args := [d1, d2] }
  | _ => none }
def MemMayWrongFalsely : Prop := memMayRow.holds Try.pinned (OpenSpec.ofChange memMayWrong)

/-- 'quarterdecklaw03.MemTwice': WHATEVER THE INPUT: true; the input reads as it did. -/
def memTwiceSpec : ChangeSpec := { name := "memTwice", fn := fun _ => fun
  | [d1, d2] => { results := [.lit (.bool true)], args := [d1, d2] }
  | _ => none }
def memTwiceRow : OpenClaim := { program := "ytkdcjkgofbjnlaa", sum := "3dae970f99ff60a4d3e21ad74168e3c7aec9d32223b1f0dbd830829dca1b19a0", func := "quarterdeck/quarterdecklaw03.MemTwice", spec := "memTwice", unfollowed := true, recurses := true, apart := false }
def MemTwiceSaid : Prop := memTwiceRow.holds Try.pinned (OpenSpec.ofChange memTwiceSpec)

/-- ITS FALSE NEIGHBOUR: 'it returns false'. Refute it at one input. -/
def memTwiceWrong : ChangeSpec := { name := "memTwice", fn := fun _ => fun
  | [d1, d2] => { results := [.lit (.bool false)], args := [d1, d2] }
  | _ => none }
def MemTwiceWrongFalsely : Prop := memTwiceRow.holds Try.pinned (OpenSpec.ofChange memTwiceWrong)

/-- 'quarterdecklaw03.MemTouches': WHATEVER THE INPUT: true; the input reads as it did. -/
def memTouchesSpec : ChangeSpec := { name := "memTouches", fn := fun _ => fun
  | [d1, d2, d3, d4] => { results := [.lit (.bool true)], args := [d1, d2, d3, d4] }
  | _ => none }
def memTouchesRow : OpenClaim := { program := "ytkdcjkgofbjnlaa", sum := "3dae970f99ff60a4d3e21ad74168e3c7aec9d32223b1f0dbd830829dca1b19a0", func := "quarterdeck/quarterdecklaw03.MemTouches", spec := "memTouches", unfollowed := true, recurses := true, apart := false }
def MemTouchesSaid : Prop := memTouchesRow.holds Try.pinned (OpenSpec.ofChange memTouchesSpec)

/-- ITS FALSE NEIGHBOUR: 'it returns false'. Refute it at one input. -/
def memTouchesWrong : ChangeSpec := { name := "memTouches", fn := fun _ => fun
  | [d1, d2, d3, d4] => { results := [.lit (.bool false)], args := [d1, d2, d3, d4] }
  | _ => none }
def MemTouchesWrongFalsely : Prop := memTouchesRow.holds Try.pinned (OpenSpec.ofChange memTouchesWrong)

/-- 'quarterdecklaw03.MemKeeps': WHATEVER THE INPUT: true; the input reads as it did. -/
def memKeepsSpec : ChangeSpec := { name := "memKeeps", fn := fun _ => fun
  | [d1, d2, d3, d4] => { results := [.lit (.bool true)], args := [d1, d2, d3, d4] }
  | _ => none }
def memKeepsRow : OpenClaim := { program := "ytkdcjkgofbjnlaa", sum := "3dae970f99ff60a4d3e21ad74168e3c7aec9d32223b1f0dbd830829dca1b19a0", func := "quarterdeck/quarterdecklaw03.MemKeeps", spec := "memKeeps", unfollowed := true, recurses := true, apart := false }
def MemKeepsSaid : Prop := memKeepsRow.holds Try.pinned (OpenSpec.ofChange memKeepsSpec)

/-- ITS FALSE NEIGHBOUR: 'it returns false'. Refute it at one input. -/
def memKeepsWrong : ChangeSpec := { name := "memKeeps", fn := fun _ => fun
  | [d1, d2, d3, d4] => { results := [.lit (.bool false)], args := [d1, d2, d3, d4] }
  | _ => none }
def MemKeepsWrongFalsely : Prop := memKeepsRow.holds Try.pinned (OpenSpec.ofChange memKeepsWrong)

/-- 'quarterdecklaw03.MemNone': WHATEVER THE INPUT: true; the input reads as it did. -/
def memNoneSpec : ChangeSpec := { name := "memNone", fn := fun _ => fun
  | [d1, d2, d3, d4] => { results := [.lit (.bool true)], args := [d1, d2, d3, d4] }
  | _ => none }
def memNoneRow : OpenClaim := { program := "ytkdcjkgofbjnlaa", sum := "3dae970f99ff60a4d3e21ad74168e3c7aec9d32223b1f0dbd830829dca1b19a0", func := "quarterdeck/quarterdecklaw03.MemNone", spec := "memNone", unfollowed := true, recurses := true, apart := false }
def MemNoneSaid : Prop := memNoneRow.holds Try.pinned (OpenSpec.ofChange memNoneSpec)

/-- ITS FALSE NEIGHBOUR: 'it returns false'. Refute it at one input. -/
def memNoneWrong : ChangeSpec := { name := "memNone", fn := fun _ => fun
  | [d1, d2, d3, d4] => { results := [.lit (.bool false)], args := [d1, d2, d3, d4] }
  | _ => none }
def MemNoneWrongFalsely : Prop := memNoneRow.holds Try.pinned (OpenSpec.ofChange memNoneWrong)

/-- 'quarterdecklaw03.MemRegion': WHATEVER THE INPUT: true; the input reads as it did. -/
def memRegionSpec : ChangeSpec := { name := "memRegion", fn := fun _ => fun
  | [d1, d2] => { results := [.lit (.bool true)], args := [d1, d2] }
  | _ => none }
def memRegionRow : OpenClaim := { program := "ytkdcjkgofbjnlaa", sum := "3dae970f99ff60a4d3e21ad74168e3c7aec9d32223b1f0dbd830829dca1b19a0", func := "quarterdeck/quarterdecklaw03.MemRegion", spec := "memRegion", unfollowed := true, recurses := true, apart := false }
def MemRegionSaid : Prop := memRegionRow.holds Try.pinned (OpenSpec.ofChange memRegionSpec)

/-- ITS FALSE NEIGHBOUR: 'it returns false'. Refute it at one input. -/
def memRegionWrong : ChangeSpec := { name := "memRegion", fn := fun _ => fun
  | [d1, d2] => { results := [.lit (.bool false)], args := [d1, d2] }
  | _ => none }
def MemRegionWrongFalsely : Prop := memRegionRow.holds Try.pinned (OpenSpec.ofChange memRegionWrong)

/- THE SECOND FORM. 'bulk': how many values and letters a reading holds, each counted each time it is reached (what is shared counts as often as it is met; a slice's spare places count too). A statement '..UptoSaid' is the law's where the arguments, and the package variables that the reading takes, are together of bulk at most 1048576: NARROWER than '..Said'. Prove '..Said' where nothing that the law and all that it calls make is longer than what came in: it says more and counts as full. Else prove '..UptoSaid'. A law counts once. -/
mutual
def uptoBulk {H : Type} : DataW H → Nat
  | .lit (.string bytes) => bytes.length + 1
  | .lit _ => 1
  | .nil => 1
  | .ptr d => uptoBulk d + 1
  | .slice elems spare => uptoBulkAll elems + uptoBulkAll spare + 1
  | .agg parts => uptoBulkAll parts + 1
  | .iface _ d => uptoBulk d + 1
  | .map entries => uptoBulkEntries entries + 1
  | .held _ => 1
def uptoBulkAll {H : Type} : List (DataW H) → Nat
  | [] => 0
  | d :: r => uptoBulk d + uptoBulkAll r
def uptoBulkEntries {H : Type} : List (Lit × DataW H) → Nat
  | [] => 0
  | x :: r => uptoBulkEntry x + uptoBulkEntries r
def uptoBulkEntry {H : Type} : Lit × DataW H → Nat
  | (.string bytes, d) => bytes.length + uptoBulk d + 1
  | (_, d) => uptoBulk d + 1
 end
def uptoSmall : (H : Type) → List (DataW H) → Bool := fun _ ds => decide (uptoBulkAll ds ≤ 1048576)
def OpenSpec.upto (s : _root_.Go.ChangeSpec) : _root_.Go.OpenSpec := { _root_.Go.OpenSpec.ofChange s with cond := some uptoSmall }

/-- 'quarterdecklaw03.MemMay', WHERE WHAT IT READS IS OF BULK AT MOST 1048576: true; the input reads as it did. -/
def memMayUptoRow : OpenClaim := { program := "ytkdcjkgofbjnlaa", sum := "3dae970f99ff60a4d3e21ad74168e3c7aec9d32223b1f0dbd830829dca1b19a0", func := "quarterdeck/quarterdecklaw03.MemMay", spec := "memMay", unfollowed := true, recurses := true, apart := false, narrowed := true }
def MemMayUptoSaid : Prop := memMayUptoRow.holds Try.pinned (OpenSpec.upto memMaySpec)

/-- 'quarterdecklaw03.MemTwice', WHERE WHAT IT READS IS OF BULK AT MOST 1048576: true; the input reads as it did. -/
def memTwiceUptoRow : OpenClaim := { program := "ytkdcjkgofbjnlaa", sum := "3dae970f99ff60a4d3e21ad74168e3c7aec9d32223b1f0dbd830829dca1b19a0", func := "quarterdeck/quarterdecklaw03.MemTwice", spec := "memTwice", unfollowed := true, recurses := true, apart := false, narrowed := true }
def MemTwiceUptoSaid : Prop := memTwiceUptoRow.holds Try.pinned (OpenSpec.upto memTwiceSpec)

/-- 'quarterdecklaw03.MemTouches', WHERE WHAT IT READS IS OF BULK AT MOST 1048576: true; the input reads as it did. -/
def memTouchesUptoRow : OpenClaim := { program := "ytkdcjkgofbjnlaa", sum := "3dae970f99ff60a4d3e21ad74168e3c7aec9d32223b1f0dbd830829dca1b19a0", func := "quarterdeck/quarterdecklaw03.MemTouches", spec := "memTouches", unfollowed := true, recurses := true, apart := false, narrowed := true }
def MemTouchesUptoSaid : Prop := memTouchesUptoRow.holds Try.pinned (OpenSpec.upto memTouchesSpec)

/-- 'quarterdecklaw03.MemKeeps', WHERE WHAT IT READS IS OF BULK AT MOST 1048576: true; the input reads as it did. -/
def memKeepsUptoRow : OpenClaim := { program := "ytkdcjkgofbjnlaa", sum := "3dae970f99ff60a4d3e21ad74168e3c7aec9d32223b1f0dbd830829dca1b19a0", func := "quarterdeck/quarterdecklaw03.MemKeeps", spec := "memKeeps", unfollowed := true, recurses := true, apart := false, narrowed := true }
def MemKeepsUptoSaid : Prop := memKeepsUptoRow.holds Try.pinned (OpenSpec.upto memKeepsSpec)

/-- 'quarterdecklaw03.MemNone', WHERE WHAT IT READS IS OF BULK AT MOST 1048576: true; the input reads as it did. -/
def memNoneUptoRow : OpenClaim := { program := "ytkdcjkgofbjnlaa", sum := "3dae970f99ff60a4d3e21ad74168e3c7aec9d32223b1f0dbd830829dca1b19a0", func := "quarterdeck/quarterdecklaw03.MemNone", spec := "memNone", unfollowed := true, recurses := true, apart := false, narrowed := true }
def MemNoneUptoSaid : Prop := memNoneUptoRow.holds Try.pinned (OpenSpec.upto memNoneSpec)

/-- 'quarterdecklaw03.MemRegion', WHERE WHAT IT READS IS OF BULK AT MOST 1048576: true; the input reads as it did. -/
def memRegionUptoRow : OpenClaim := { program := "ytkdcjkgofbjnlaa", sum := "3dae970f99ff60a4d3e21ad74168e3c7aec9d32223b1f0dbd830829dca1b19a0", func := "quarterdeck/quarterdecklaw03.MemRegion", spec := "memRegion", unfollowed := true, recurses := true, apart := false, narrowed := true }
def MemRegionUptoSaid : Prop := memRegionUptoRow.holds Try.pinned (OpenSpec.upto memRegionSpec)

end Rows
end Go.Proofs.Ytkdcjkgofbjnlaa
