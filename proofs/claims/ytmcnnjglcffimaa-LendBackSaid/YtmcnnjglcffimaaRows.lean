/-
  No cell of these rows narrows 'for every input' (looked for: loops, veiled, ifaces, maps, wideKeys, modest, calm, conditions, laid).
  DERIVED. THE GIVEN ROWS OF THIS SEAT. 10 by the template 'for every input the law returns true; each argument reads behind the call as it read before'; 0 by the template 'total and deterministic' (their statements: YtmcnnjglcffimaaTotals.lean).
  GIVEN WITH THE SEED: the statements are not yours to turn. If you find one false, say at which input.
  Laid BY PROGRAM, IN A SANDBOX (cutbox-rows.mjs): the forced cells as the released guide's own fill.sh prints them over the translation 777cefc6308d8ae5… (all of the seat's roots in one cut). By AI agents, Wed Nov 11 2026. No macro, syntax, notation, axiom, sorry.
-/
import Derived.Test.YtmcnnjglcffimaaChecked
import GoSem.Claim
import GoSem.ClaimJoined
import GoSem.ClaimMapViews
import Derived.JoinedTies
import Derived.KernelRfl
namespace Go.Proofs.Ytmcnnjglcffimaa
/- THE CELL 'sum', in the pinned program and in every row, IS THE sha256 OF THE DUMP (.gsa) THAT YtmcnnjglcffimaaProg.lean LOADS. Nothing in Lean hashes anything: it is a label: what it is worth is what the hold of that sum in a sandbox is worth. -/
noncomputable def Try.pinned : Pinned := { name := "ytmcnnjglcffimaa", sum := "777cefc6308d8ae5cc8d9cf5e2a4746066a9eb75e69ac155035686e5ecb2463f", checked := Try.checked }
namespace Rows
def none {H : Type} : Left H := { results := [], args := [] }

/-- 'treenaillaw02.SumOf': WHATEVER THE INPUT: true; the input reads as it did. -/
def sumOfSpec : ChangeSpec := { name := "sumOf", fn := fun _ => fun
  | [d1, d2] => { results := [.lit (.bool true)], args := [d1, d2] }
  | _ => none }
def sumOfRow : OpenClaim := { program := "ytmcnnjglcffimaa", sum := "777cefc6308d8ae5cc8d9cf5e2a4746066a9eb75e69ac155035686e5ecb2463f", func := "treenail/treenaillaw02.SumOf", spec := "sumOf", apart := false }
def SumOfSaid : Prop := sumOfRow.holds Try.pinned (OpenSpec.ofChange sumOfSpec)

/-- ITS FALSE NEIGHBOUR: 'it returns false'. Refute it at one input. -/
def sumOfWrong : ChangeSpec := { name := "sumOf", fn := fun _ => fun
  | [d1, d2] => { results := [.lit (.bool false)], args := [d1, d2] }
  | _ => none }
def SumOfWrongFalsely : Prop := sumOfRow.holds Try.pinned (OpenSpec.ofChange sumOfWrong)

/-- 'treenaillaw02.SumTable': WHATEVER THE INPUT: true; the input reads as it did. -/
def sumTableSpec : ChangeSpec := { name := "sumTable", fn := fun _ => fun
  | [d1, d2] => { results := [.lit (.bool true)], args := [d1, d2] }
  | _ => none }
def sumTableRow : OpenClaim := { program := "ytmcnnjglcffimaa", sum := "777cefc6308d8ae5cc8d9cf5e2a4746066a9eb75e69ac155035686e5ecb2463f", func := "treenail/treenaillaw02.SumTable", spec := "sumTable", apart := false }
def SumTableSaid : Prop := sumTableRow.holds Try.pinned (OpenSpec.ofChange sumTableSpec)

/-- ITS FALSE NEIGHBOUR: 'it returns false'. Refute it at one input. -/
def sumTableWrong : ChangeSpec := { name := "sumTable", fn := fun _ => fun
  | [d1, d2] => { results := [.lit (.bool false)], args := [d1, d2] }
  | _ => none }
def SumTableWrongFalsely : Prop := sumTableRow.holds Try.pinned (OpenSpec.ofChange sumTableWrong)

/-- 'treenaillaw02.SumParts': WHATEVER THE INPUT: true; the input reads as it did. -/
def sumPartsSpec : ChangeSpec := { name := "sumParts", fn := fun _ => fun
  | [d1, d2] => { results := [.lit (.bool true)], args := [d1, d2] }
  | _ => none }
def sumPartsRow : OpenClaim := { program := "ytmcnnjglcffimaa", sum := "777cefc6308d8ae5cc8d9cf5e2a4746066a9eb75e69ac155035686e5ecb2463f", func := "treenail/treenaillaw02.SumParts", spec := "sumParts", apart := false }
def SumPartsSaid : Prop := sumPartsRow.holds Try.pinned (OpenSpec.ofChange sumPartsSpec)

/-- ITS FALSE NEIGHBOUR: 'it returns false'. Refute it at one input. -/
def sumPartsWrong : ChangeSpec := { name := "sumParts", fn := fun _ => fun
  | [d1, d2] => { results := [.lit (.bool false)], args := [d1, d2] }
  | _ => none }
def SumPartsWrongFalsely : Prop := sumPartsRow.holds Try.pinned (OpenSpec.ofChange sumPartsWrong)

/-- 'treenaillaw02.SumTells': WHATEVER THE INPUT: true; the input reads as it did. -/
def sumTellsSpec : ChangeSpec := { name := "sumTells", fn := fun _ => fun
  | [d1, d2, d3] => { results := [.lit (.bool true)], args := [d1, d2, d3] }
  | _ => none }
def sumTellsRow : OpenClaim := { program := "ytmcnnjglcffimaa", sum := "777cefc6308d8ae5cc8d9cf5e2a4746066a9eb75e69ac155035686e5ecb2463f", func := "treenail/treenaillaw02.SumTells", spec := "sumTells", apart := false }
def SumTellsSaid : Prop := sumTellsRow.holds Try.pinned (OpenSpec.ofChange sumTellsSpec)

/-- ITS FALSE NEIGHBOUR: 'it returns false'. Refute it at one input. -/
def sumTellsWrong : ChangeSpec := { name := "sumTells", fn := fun _ => fun
  | [d1, d2, d3] => { results := [.lit (.bool false)], args := [d1, d2, d3] }
  | _ => none }
def SumTellsWrongFalsely : Prop := sumTellsRow.holds Try.pinned (OpenSpec.ofChange sumTellsWrong)

/-- 'treenaillaw02.SumMore': WHATEVER THE INPUT: true; the input reads as it did. -/
def sumMoreSpec : ChangeSpec := { name := "sumMore", fn := fun _ => fun
  | [d1, d2, d3] => { results := [.lit (.bool true)], args := [d1, d2, d3] }
  | _ => none }
def sumMoreRow : OpenClaim := { program := "ytmcnnjglcffimaa", sum := "777cefc6308d8ae5cc8d9cf5e2a4746066a9eb75e69ac155035686e5ecb2463f", func := "treenail/treenaillaw02.SumMore", spec := "sumMore", apart := false }
def SumMoreSaid : Prop := sumMoreRow.holds Try.pinned (OpenSpec.ofChange sumMoreSpec)

/-- ITS FALSE NEIGHBOUR: 'it returns false'. Refute it at one input. -/
def sumMoreWrong : ChangeSpec := { name := "sumMore", fn := fun _ => fun
  | [d1, d2, d3] => { results := [.lit (.bool false)], args := [d1, d2, d3] }
  | _ => none }
def SumMoreWrongFalsely : Prop := sumMoreRow.holds Try.pinned (OpenSpec.ofChange sumMoreWrong)

/-- 'treenaillaw01.LendWrites': WHATEVER THE INPUT: true; the input reads as it did. -/
def lendWritesSpec : ChangeSpec := { name := "lendWrites", fn := fun _ => fun
  | [d1, d2] => { results := [.lit (.bool true)], args := [d1, d2] }
  | _ => none }
def lendWritesRow : OpenClaim := { program := "ytmcnnjglcffimaa", sum := "777cefc6308d8ae5cc8d9cf5e2a4746066a9eb75e69ac155035686e5ecb2463f", func := "treenail/treenaillaw01.LendWrites", spec := "lendWrites", apart := false }
def LendWritesSaid : Prop := lendWritesRow.holds Try.pinned (OpenSpec.ofChange lendWritesSpec)

/-- ITS FALSE NEIGHBOUR: 'it returns false'. Refute it at one input. -/
def lendWritesWrong : ChangeSpec := { name := "lendWrites", fn := fun _ => fun
  | [d1, d2] => { results := [.lit (.bool false)], args := [d1, d2] }
  | _ => none }
def LendWritesWrongFalsely : Prop := lendWritesRow.holds Try.pinned (OpenSpec.ofChange lendWritesWrong)

/-- 'treenaillaw01.LendReads': WHATEVER THE INPUT: true; the input reads as it did. -/
def lendReadsSpec : ChangeSpec := { name := "lendReads", fn := fun _ => fun
  | [d1, d2] => { results := [.lit (.bool true)], args := [d1, d2] }
  | _ => none }
def lendReadsRow : OpenClaim := { program := "ytmcnnjglcffimaa", sum := "777cefc6308d8ae5cc8d9cf5e2a4746066a9eb75e69ac155035686e5ecb2463f", func := "treenail/treenaillaw01.LendReads", spec := "lendReads", apart := false }
def LendReadsSaid : Prop := lendReadsRow.holds Try.pinned (OpenSpec.ofChange lendReadsSpec)

/-- ITS FALSE NEIGHBOUR: 'it returns false'. Refute it at one input. -/
def lendReadsWrong : ChangeSpec := { name := "lendReads", fn := fun _ => fun
  | [d1, d2] => { results := [.lit (.bool false)], args := [d1, d2] }
  | _ => none }
def LendReadsWrongFalsely : Prop := lendReadsRow.holds Try.pinned (OpenSpec.ofChange lendReadsWrong)

/-- 'treenaillaw01.LendBack': WHATEVER THE INPUT: true; the input reads as it did. -/
def lendBackSpec : ChangeSpec := { name := "lendBack", fn := fun _ => fun
  | [d1, d2] => { results := [.lit (.bool true)], args := [d1, d2] }
  | _ => none }
def lendBackRow : OpenClaim := { program := "ytmcnnjglcffimaa", sum := "777cefc6308d8ae5cc8d9cf5e2a4746066a9eb75e69ac155035686e5ecb2463f", func := "treenail/treenaillaw01.LendBack", spec := "lendBack", apart := false }
def LendBackSaid : Prop := lendBackRow.holds Try.pinned (OpenSpec.ofChange lendBackSpec)

/-- ITS FALSE NEIGHBOUR: 'it returns false'. Refute it at one input. -/
def lendBackWrong : ChangeSpec := { name := "lendBack", fn := fun _ => fun
  | [d1, d2] => { results := [.lit (.bool false)], args := [d1, d2] }
  | _ => none }
def LendBackWrongFalsely : Prop := lendBackRow.holds Try.pinned (OpenSpec.ofChange lendBackWrong)

/-- 'treenaillaw01.LendSizes': WHATEVER THE INPUT: true; the input reads as it did. -/
def lendSizesSpec : ChangeSpec := { name := "lendSizes", fn := fun _ => fun
  | [d1, d2] => { results := [.lit (.bool true)], args := [d1, d2] }
  | _ => none }
def lendSizesRow : OpenClaim := { program := "ytmcnnjglcffimaa", sum := "777cefc6308d8ae5cc8d9cf5e2a4746066a9eb75e69ac155035686e5ecb2463f", func := "treenail/treenaillaw01.LendSizes", spec := "lendSizes", apart := false }
def LendSizesSaid : Prop := lendSizesRow.holds Try.pinned (OpenSpec.ofChange lendSizesSpec)

/-- ITS FALSE NEIGHBOUR: 'it returns false'. Refute it at one input. -/
def lendSizesWrong : ChangeSpec := { name := "lendSizes", fn := fun _ => fun
  | [d1, d2] => { results := [.lit (.bool false)], args := [d1, d2] }
  | _ => none }
def LendSizesWrongFalsely : Prop := lendSizesRow.holds Try.pinned (OpenSpec.ofChange lendSizesWrong)

/-- 'treenaillaw01.LendTexts': WHATEVER THE INPUT: true; the input reads as it did. -/
def lendTextsSpec : ChangeSpec := { name := "lendTexts", fn := fun _ => fun
  | [d1, d2] => { results := [.lit (.bool true)], args := [d1, d2] }
  | _ => none }
def lendTextsRow : OpenClaim := { program := "ytmcnnjglcffimaa", sum := "777cefc6308d8ae5cc8d9cf5e2a4746066a9eb75e69ac155035686e5ecb2463f", func := "treenail/treenaillaw01.LendTexts", spec := "lendTexts", apart := false }
def LendTextsSaid : Prop := lendTextsRow.holds Try.pinned (OpenSpec.ofChange lendTextsSpec)

/-- ITS FALSE NEIGHBOUR: 'it returns false'. Refute it at one input. -/
def lendTextsWrong : ChangeSpec := { name := "lendTexts", fn := fun _ => fun
  | [d1, d2] => { results := [.lit (.bool false)], args := [d1, d2] }
  | _ => none }
def LendTextsWrongFalsely : Prop := lendTextsRow.holds Try.pinned (OpenSpec.ofChange lendTextsWrong)

/- THE SECOND FORM. 'bulk': how many values and letters a reading holds, each counted each time it is reached (what is shared counts as often as it is met; a slice's spare places count too). A statement '..UptoSaid' is the law's where the arguments, and the package variables that the reading takes, are together of bulk at most 1048576: NARROWER than '..Said'. Prove '..Said' where nothing that the law and all that it calls make is longer than what came in: it says more and counts as full. Else prove '..UptoSaid'. A law counts once. -/
mutual
def uptoBulk {H : Type} : DataW H → Nat
  | .lit (.string bytes) => bytes.length + 1
  | .lit _ => 1
  | .nil => 1
  | .ptr d => uptoBulk d + 1
  | .slice elems spare => uptoBulkAll elems + uptoBulkAll spare + 1
  | .agg parts => uptoBulkAll parts + 1
  | .iface _ d => uptoBulk d + 1
  | .map entries => uptoBulkEntries entries + 1
  | .held _ => 1
def uptoBulkAll {H : Type} : List (DataW H) → Nat
  | [] => 0
  | d :: r => uptoBulk d + uptoBulkAll r
def uptoBulkEntries {H : Type} : List (Lit × DataW H) → Nat
  | [] => 0
  | x :: r => uptoBulkEntry x + uptoBulkEntries r
def uptoBulkEntry {H : Type} : Lit × DataW H → Nat
  | (.string bytes, d) => bytes.length + uptoBulk d + 1
  | (_, d) => uptoBulk d + 1
 end
def uptoSmall : (H : Type) → List (DataW H) → Bool := fun _ ds => decide (uptoBulkAll ds ≤ 1048576)
def OpenSpec.upto (s : _root_.Go.ChangeSpec) : _root_.Go.OpenSpec := { _root_.Go.OpenSpec.ofChange s with cond := some uptoSmall }

/-- 'treenaillaw02.SumOf', WHERE WHAT IT READS IS OF BULK AT MOST 1048576: true; the input reads as it did. -/
def sumOfUptoRow : OpenClaim := { program := "ytmcnnjglcffimaa", sum := "777cefc6308d8ae5cc8d9cf5e2a4746066a9eb75e69ac155035686e5ecb2463f", func := "treenail/treenaillaw02.SumOf", spec := "sumOf", apart := false, narrowed := true }
def SumOfUptoSaid : Prop := sumOfUptoRow.holds Try.pinned (OpenSpec.upto sumOfSpec)

/-- 'treenaillaw02.SumTable', WHERE WHAT IT READS IS OF BULK AT MOST 1048576: true; the input reads as it did. -/
def sumTableUptoRow : OpenClaim := { program := "ytmcnnjglcffimaa", sum := "777cefc6308d8ae5cc8d9cf5e2a4746066a9eb75e69ac155035686e5ecb2463f", func := "treenail/treenaillaw02.SumTable", spec := "sumTable", apart := false, narrowed := true }
def SumTableUptoSaid : Prop := sumTableUptoRow.holds Try.pinned (OpenSpec.upto sumTableSpec)

/-- 'treenaillaw02.SumParts', WHERE WHAT IT READS IS OF BULK AT MOST 1048576: true; the input reads as it did. -/
def sumPartsUptoRow : OpenClaim := { program := "ytmcnnjglcffimaa", sum := "777cefc6308d8ae5cc8d9cf5e2a4746066a9eb75e69ac155035686e5ecb2463f", func := "treenail/treenaillaw02.SumParts", spec := "sumParts", apart := false, narrowed := true }
def SumPartsUptoSaid : Prop := sumPartsUptoRow.holds Try.pinned (OpenSpec.upto sumPartsSpec)

/-- 'treenaillaw02.SumTells', WHERE WHAT IT READS IS OF BULK AT MOST 1048576: true; the input reads as it did. -/
def sumTellsUptoRow : OpenClaim := { program := "ytmcnnjglcffimaa", sum := "777cefc6308d8ae5cc8d9cf5e2a4746066a9eb75e69ac155035686e5ecb2463f", func := "treenail/treenaillaw02.SumTells", spec := "sumTells", apart := false, narrowed := true }
def SumTellsUptoSaid : Prop := sumTellsUptoRow.holds Try.pinned (OpenSpec.upto sumTellsSpec)

/-- 'treenaillaw02.SumMore', WHERE WHAT IT READS IS OF BULK AT MOST 1048576: true; the input reads as it did. -/
def sumMoreUptoRow : OpenClaim := { program := "ytmcnnjglcffimaa", sum := "777cefc6308d8ae5cc8d9cf5e2a4746066a9eb75e69ac155035686e5ecb2463f", func := "treenail/treenaillaw02.SumMore", spec := "sumMore", apart := false, narrowed := true }
def SumMoreUptoSaid : Prop := sumMoreUptoRow.holds Try.pinned (OpenSpec.upto sumMoreSpec)

/-- 'treenaillaw01.LendWrites', WHERE WHAT IT READS IS OF BULK AT MOST 1048576: true; the input reads as it did. -/
def lendWritesUptoRow : OpenClaim := { program := "ytmcnnjglcffimaa", sum := "777cefc6308d8ae5cc8d9cf5e2a4746066a9eb75e69ac155035686e5ecb2463f", func := "treenail/treenaillaw01.LendWrites", spec := "lendWrites", apart := false, narrowed := true }
def LendWritesUptoSaid : Prop := lendWritesUptoRow.holds Try.pinned (OpenSpec.upto lendWritesSpec)

/-- 'treenaillaw01.LendReads', WHERE WHAT IT READS IS OF BULK AT MOST 1048576: true; the input reads as it did. -/
def lendReadsUptoRow : OpenClaim := { program := "ytmcnnjglcffimaa", sum := "777cefc6308d8ae5cc8d9cf5e2a4746066a9eb75e69ac155035686e5ecb2463f", func := "treenail/treenaillaw01.LendReads", spec := "lendReads", apart := false, narrowed := true }
def LendReadsUptoSaid : Prop := lendReadsUptoRow.holds Try.pinned (OpenSpec.upto lendReadsSpec)

/-- 'treenaillaw01.LendBack', WHERE WHAT IT READS IS OF BULK AT MOST 1048576: true; the input reads as it did. -/
def lendBackUptoRow : OpenClaim := { program := "ytmcnnjglcffimaa", sum := "777cefc6308d8ae5cc8d9cf5e2a4746066a9eb75e69ac155035686e5ecb2463f", func := "treenail/treenaillaw01.LendBack", spec := "lendBack", apart := false, narrowed := true }
def LendBackUptoSaid : Prop := lendBackUptoRow.holds Try.pinned (OpenSpec.upto lendBackSpec)

/-- 'treenaillaw01.LendSizes', WHERE WHAT IT READS IS OF BULK AT MOST 1048576: true; the input reads as it did. -/
def lendSizesUptoRow : OpenClaim := { program := "ytmcnnjglcffimaa", sum := "777cefc6308d8ae5cc8d9cf5e2a4746066a9eb75e69ac155035686e5ecb2463f", func := "treenail/treenaillaw01.LendSizes", spec := "lendSizes", apart := false, narrowed := true }
def LendSizesUptoSaid : Prop := lendSizesUptoRow.holds Try.pinned (OpenSpec.upto lendSizesSpec)

/-- 'treenaillaw01.LendTexts', WHERE WHAT IT READS IS OF BULK AT MOST 1048576: true; the input reads as it did. -/
def lendTextsUptoRow : OpenClaim := { program := "ytmcnnjglcffimaa", sum := "777cefc6308d8ae5cc8d9cf5e2a4746066a9eb75e69ac155035686e5ecb2463f", func := "treenail/treenaillaw01.LendTexts", spec := "lendTexts", apart := false, narrowed := true }
def LendTextsUptoSaid : Prop := lendTextsUptoRow.holds Try.pinned (OpenSpec.upto lendTextsSpec)

end Rows
end Go.Proofs.Ytmcnnjglcffimaa
