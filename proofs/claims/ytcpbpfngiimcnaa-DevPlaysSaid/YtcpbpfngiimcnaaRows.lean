/-
  No cell of these rows narrows 'for every input' (looked for: loops, veiled, ifaces, maps, wideKeys, modest, calm, conditions, laid).
  DERIVED. THE GIVEN ROWS OF THIS SEAT. 4 by the template 'for every input the law returns true; each argument reads behind the call as it read before'; 0 by the template 'total and deterministic' (their statements: YtcpbpfngiimcnaaTotals.lean).
  GIVEN WITH THE SEED: the statements are not yours to turn. If you find one false, say at which input.
  Laid BY PROGRAM, IN A SANDBOX (cutbox-rows.mjs): the forced cells as the released guide's own fill.sh prints them over the translation d45127b92f83a588… (all of the seat's roots in one cut). By AI agents, Wed Nov 11 2026. No macro, syntax, notation, axiom, sorry.
-/
import Derived.Test.YtcpbpfngiimcnaaChecked
import GoSem.Claim
import GoSem.ClaimJoined
import GoSem.ClaimMapViews
import Derived.JoinedTies
import Derived.KernelRfl
namespace Go.Proofs.Ytcpbpfngiimcnaa
/- THE CELL 'sum', in the pinned program and in every row, IS THE sha256 OF THE DUMP (.gsa) THAT YtcpbpfngiimcnaaProg.lean LOADS. Nothing in Lean hashes anything: it is a label: what it is worth is what the hold of that sum in a sandbox is worth. -/
noncomputable def Try.pinned : Pinned := { name := "ytcpbpfngiimcnaa", sum := "d45127b92f83a5885bbb03ac5b67c2c0988cb1f0e4c5f5db50096c54be1d837a", checked := Try.checked }
namespace Rows
def none {H : Type} : Left H := { results := [], args := [] }

/-- 'treenaillaw03.DevLasts': WHATEVER THE INPUT: true; the input reads as it did. -/
def devLastsSpec : ChangeSpec := { name := "devLasts", fn := fun _ => fun
  | [d1, d2] => { results := [.lit (.bool true)], args := [d1, d2] }
  | _ => none }
def devLastsRow : OpenClaim := { program := "ytcpbpfngiimcnaa", sum := "d45127b92f83a5885bbb03ac5b67c2c0988cb1f0e4c5f5db50096c54be1d837a", func := "treenail/treenaillaw03.DevLasts", spec := "devLasts", inPlace := ["internal/abi.NoEscape", "internal/bytealg.MakeNoZero"], unfollowed := true, recurses := true, apart := false }
def DevLastsSaid : Prop := devLastsRow.holds Try.pinned (OpenSpec.ofChange devLastsSpec)

/-- ITS FALSE NEIGHBOUR: 'it returns false'. Refute it at one input. -/
def devLastsWrong : ChangeSpec := { name := "devLasts", fn := fun _ => fun
  | [d1, d2] => { results := [.lit (.bool false)], args := [d1, d2] }
  | _ => none }
def DevLastsWrongFalsely : Prop := devLastsRow.holds Try.pinned (OpenSpec.ofChange devLastsWrong)

/-- 'treenaillaw03.DevFaults': WHATEVER THE INPUT: true; the input reads as it did. -/
def devFaultsSpec : ChangeSpec := { name := "devFaults", fn := fun _ => fun
  | [d] => { results := [.lit (.bool true)], args := [d] }
  | _ => none }
def devFaultsRow : OpenClaim := { program := "ytcpbpfngiimcnaa", sum := "d45127b92f83a5885bbb03ac5b67c2c0988cb1f0e4c5f5db50096c54be1d837a", func := "treenail/treenaillaw03.DevFaults", spec := "devFaults", inPlace := ["internal/abi.NoEscape", "internal/bytealg.MakeNoZero"], unfollowed := true, recurses := true, apart := false }
def DevFaultsSaid : Prop := devFaultsRow.holds Try.pinned (OpenSpec.ofChange devFaultsSpec)

/-- ITS FALSE NEIGHBOUR: 'it returns false'. Refute it at one input. -/
def devFaultsWrong : ChangeSpec := { name := "devFaults", fn := fun _ => fun
  | [d] => { results := [.lit (.bool false)], args := [d] }
  | _ => none }
def DevFaultsWrongFalsely : Prop := devFaultsRow.holds Try.pinned (OpenSpec.ofChange devFaultsWrong)

/-- 'treenaillaw03.DevPlays': WHATEVER THE INPUT: true; the input reads as it did. -/
def devPlaysSpec : ChangeSpec := { name := "devPlays", fn := fun _ => fun
  | [d] => { results := [.lit (.bool true)], args := [d] }
  | _ => none }
def devPlaysRow : OpenClaim := { program := "ytcpbpfngiimcnaa", sum := "d45127b92f83a5885bbb03ac5b67c2c0988cb1f0e4c5f5db50096c54be1d837a", func := "treenail/treenaillaw03.DevPlays", spec := "devPlays", inPlace := ["internal/abi.NoEscape", "internal/bytealg.MakeNoZero"], unfollowed := true, recurses := true, apart := false }
def DevPlaysSaid : Prop := devPlaysRow.holds Try.pinned (OpenSpec.ofChange devPlaysSpec)

/-- ITS FALSE NEIGHBOUR: 'it returns false'. Refute it at one input. -/
def devPlaysWrong : ChangeSpec := { name := "devPlays", fn := fun _ => fun
  | [d] => { results := [.lit (.bool false)], args := [d] }
  | _ => none }
def DevPlaysWrongFalsely : Prop := devPlaysRow.holds Try.pinned (OpenSpec.ofChange devPlaysWrong)

/-- 'treenaillaw03.DevShapes': WHATEVER THE INPUT: true; the input reads as it did. -/
def devShapesSpec : ChangeSpec := { name := "devShapes", fn := fun _ => fun
  | [d1, d2] => { results := [.lit (.bool true)], args := [d1, d2] }
  | _ => none }
def devShapesRow : OpenClaim := { program := "ytcpbpfngiimcnaa", sum := "d45127b92f83a5885bbb03ac5b67c2c0988cb1f0e4c5f5db50096c54be1d837a", func := "treenail/treenaillaw03.DevShapes", spec := "devShapes", inPlace := ["internal/abi.NoEscape", "internal/bytealg.MakeNoZero"], unfollowed := true, recurses := true, apart := false }
def DevShapesSaid : Prop := devShapesRow.holds Try.pinned (OpenSpec.ofChange devShapesSpec)

/-- ITS FALSE NEIGHBOUR: 'it returns false'. Refute it at one input. -/
def devShapesWrong : ChangeSpec := { name := "devShapes", fn := fun _ => fun
  | [d1, d2] => { results := [.lit (.bool false)], args := [d1, d2] }
  | _ => none }
def DevShapesWrongFalsely : Prop := devShapesRow.holds Try.pinned (OpenSpec.ofChange devShapesWrong)

/- THE SECOND FORM. 'bulk': how many values and letters a reading holds, each counted each time it is reached (what is shared counts as often as it is met; a slice's spare places count too). A statement '..UptoSaid' is the law's where the arguments, and the package variables that the reading takes, are together of bulk at most 1048576: NARROWER than '..Said'. Prove '..Said' where nothing that the law and all that it calls make is longer than what came in: it says more and counts as full. Else prove '..UptoSaid'. A law counts once. -/
mutual
def uptoBulk {H : Type} : DataW H → Nat
  | .lit (.string bytes) => bytes.length + 1
  | .lit _ => 1
  | .nil => 1
  | .ptr d => uptoBulk d + 1
  | .slice elems spare => uptoBulkAll elems + uptoBulkAll spare + 1
  | .agg parts => uptoBulkAll parts + 1
  | .iface _ d => uptoBulk d + 1
  | .map entries => uptoBulkEntries entries + 1
  | .held _ => 1
def uptoBulkAll {H : Type} : List (DataW H) → Nat
  | [] => 0
  | d :: r => uptoBulk d + uptoBulkAll r
def uptoBulkEntries {H : Type} : List (Lit × DataW H) → Nat
  | [] => 0
  | x :: r => uptoBulkEntry x + uptoBulkEntries r
def uptoBulkEntry {H : Type} : Lit × DataW H → Nat
  | (.string bytes, d) => bytes.length + uptoBulk d + 1
  | (_, d) => uptoBulk d + 1
 end
def uptoSmall : (H : Type) → List (DataW H) → Bool := fun _ ds => decide (uptoBulkAll ds ≤ 1048576)
def OpenSpec.upto (s : _root_.Go.ChangeSpec) : _root_.Go.OpenSpec := { _root_.Go.OpenSpec.ofChange s with cond := some uptoSmall }

/-- 'treenaillaw03.DevLasts', WHERE WHAT IT READS IS OF BULK AT MOST 1048576: true; the input reads as it did. -/
def devLastsUptoRow : OpenClaim := { program := "ytcpbpfngiimcnaa", sum := "d45127b92f83a5885bbb03ac5b67c2c0988cb1f0e4c5f5db50096c54be1d837a", func := "treenail/treenaillaw03.DevLasts", spec := "devLasts", inPlace := ["internal/abi.NoEscape", "internal/bytealg.MakeNoZero"], unfollowed := true, recurses := true, apart := false, narrowed := true }
def DevLastsUptoSaid : Prop := devLastsUptoRow.holds Try.pinned (OpenSpec.upto devLastsSpec)

/-- 'treenaillaw03.DevFaults', WHERE WHAT IT READS IS OF BULK AT MOST 1048576: true; the input reads as it did. -/
def devFaultsUptoRow : OpenClaim := { program := "ytcpbpfngiimcnaa", sum := "d45127b92f83a5885bbb03ac5b67c2c0988cb1f0e4c5f5db50096c54be1d837a", func := "treenail/treenaillaw03.DevFaults", spec := "devFaults", inPlace := ["internal/abi.NoEscape", "internal/bytealg.MakeNoZero"], unfollowed := true, recurses := true, apart := false, narrowed := true }
def DevFaultsUptoSaid : Prop := devFaultsUptoRow.holds Try.pinned (OpenSpec.upto devFaultsSpec)

/-- 'treenaillaw03.DevPlays', WHERE WHAT IT READS IS OF BULK AT MOST 1048576: true; the input reads as it did. -/
def devPlaysUptoRow : OpenClaim := { program := "ytcpbpfngiimcnaa", sum := "d45127b92f83a5885bbb03ac5b67c2c0988cb1f0e4c5f5db50096c54be1d837a", func := "treenail/treenaillaw03.DevPlays", spec := "devPlays", inPlace := ["internal/abi.NoEscape", "internal/bytealg.MakeNoZero"], unfollowed := true, recurses := true, apart := false, narrowed := true }
def DevPlaysUptoSaid : Prop := devPlaysUptoRow.holds Try.pinned (OpenSpec.upto devPlaysSpec)

/-- 'treenaillaw03.DevShapes', WHERE WHAT IT READS IS OF BULK AT MOST 1048576: true; the input reads as it did. -/
def devShapesUptoRow : OpenClaim := { program := "ytcpbpfngiimcnaa", sum := "d45127b92f83a5885bbb03ac5b67c2c0988cb1f0e4c5f5db50096c54be1d837a", func := "treenail/treenaillaw03.DevShapes", spec := "devShapes", inPlace := ["internal/abi.NoEscape", "internal/bytealg.MakeNoZero"], unfollowed := true, recurses := true, apart := false, narrowed := true }
def DevShapesUptoSaid : Prop := devShapesUptoRow.holds Try.pinned (OpenSpec.upto devShapesSpec)

end Rows
end Go.Proofs.Ytcpbpfngiimcnaa
