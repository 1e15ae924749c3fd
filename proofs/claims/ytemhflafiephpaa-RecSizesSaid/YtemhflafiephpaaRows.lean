/-
  No cell of these rows narrows 'for every input' (looked for: loops, veiled, ifaces, maps, wideKeys, modest, calm, conditions, laid).
  DERIVED. THE GIVEN ROWS OF THIS SEAT. 10 by the template 'for every input the law returns true; each argument reads behind the call as it read before'; 0 by the template 'total and deterministic' (their statements: YtemhflafiephpaaTotals.lean).
  GIVEN WITH THE SEED: the statements are not yours to turn. If you find one false, say at which input.
  Laid BY PROGRAM, IN A SANDBOX (cutbox-rows.mjs): the forced cells as the released guide's own fill.sh prints them over the translation 0bbcdac67ad34a27… (all of the seat's roots in one cut). By AI agents, Wed Nov 11 2026. No macro, syntax, notation, axiom, sorry.
-/
import Derived.Test.YtemhflafiephpaaChecked
import GoSem.Claim
import GoSem.ClaimJoined
import GoSem.ClaimMapViews
import Derived.JoinedTies
import Derived.KernelRfl
namespace Go.Proofs.Ytemhflafiephpaa
/- THE CELL 'sum', in the pinned program and in every row, IS THE sha256 OF THE DUMP (.gsa) THAT YtemhflafiephpaaProg.lean LOADS. Nothing in Lean hashes anything: it is a label: what it is worth is what the hold of that sum in a sandbox is worth. -/
noncomputable def Try.pinned : Pinned := { name := "ytemhflafiephpaa", sum := "0bbcdac67ad34a27dd72efbf18ecb4dae8aa42f99fef5334b14cdc5eb79e6eba", checked := Try.checked }
namespace Rows
def none {H : Type} : Left H := { results := [], args := [] }

/-- 'treenaillaw14.MsgNumbers': WHATEVER THE INPUT: true; the input reads as it did. -/
def msgNumbersSpec : ChangeSpec := { name := "msgNumbers", fn := fun _ => fun
  | [d1, d2] => { results := [.lit (.bool true)], args := [d1, d2] }
  | _ => none }
def msgNumbersRow : OpenClaim := { program := "ytemhflafiephpaa", sum := "0bbcdac67ad34a27dd72efbf18ecb4dae8aa42f99fef5334b14cdc5eb79e6eba", func := "treenail/treenaillaw14.MsgNumbers", spec := "msgNumbers", apart := false }
def MsgNumbersSaid : Prop := msgNumbersRow.holds Try.pinned (OpenSpec.ofChange msgNumbersSpec)

/-- ITS FALSE NEIGHBOUR: 'it returns false'. Refute it at one input. -/
def msgNumbersWrong : ChangeSpec := { name := "msgNumbers", fn := fun _ => fun
  | [d1, d2] => { results := [.lit (.bool false)], args := [d1, d2] }
  | _ => none }
def MsgNumbersWrongFalsely : Prop := msgNumbersRow.holds Try.pinned (OpenSpec.ofChange msgNumbersWrong)

/-- 'treenaillaw14.MsgOn': WHATEVER THE INPUT: true; the input reads as it did. -/
def msgOnSpec : ChangeSpec := { name := "msgOn", fn := fun _ => fun
  | [d1, d2, d3] => { results := [.lit (.bool true)], args := [d1, d2, d3] }
  | _ => none }
def msgOnRow : OpenClaim := { program := "ytemhflafiephpaa", sum := "0bbcdac67ad34a27dd72efbf18ecb4dae8aa42f99fef5334b14cdc5eb79e6eba", func := "treenail/treenaillaw14.MsgOn", spec := "msgOn", apart := false }
def MsgOnSaid : Prop := msgOnRow.holds Try.pinned (OpenSpec.ofChange msgOnSpec)

/-- ITS FALSE NEIGHBOUR: 'it returns false'. Refute it at one input. -/
def msgOnWrong : ChangeSpec := { name := "msgOn", fn := fun _ => fun
  | [d1, d2, d3] => { results := [.lit (.bool false)], args := [d1, d2, d3] }
  | _ => none }
def MsgOnWrongFalsely : Prop := msgOnRow.holds Try.pinned (OpenSpec.ofChange msgOnWrong)

/-- 'treenaillaw14.MsgJoins': WHATEVER THE INPUT: true; the input reads as it did. -/
def msgJoinsSpec : ChangeSpec := { name := "msgJoins", fn := fun _ => fun
  | [d1, d2] => { results := [.lit (.bool true)], args := [d1, d2] }
  | _ => none }
def msgJoinsRow : OpenClaim := { program := "ytemhflafiephpaa", sum := "0bbcdac67ad34a27dd72efbf18ecb4dae8aa42f99fef5334b14cdc5eb79e6eba", func := "treenail/treenaillaw14.MsgJoins", spec := "msgJoins", apart := false }
def MsgJoinsSaid : Prop := msgJoinsRow.holds Try.pinned (OpenSpec.ofChange msgJoinsSpec)

/-- ITS FALSE NEIGHBOUR: 'it returns false'. Refute it at one input. -/
def msgJoinsWrong : ChangeSpec := { name := "msgJoins", fn := fun _ => fun
  | [d1, d2] => { results := [.lit (.bool false)], args := [d1, d2] }
  | _ => none }
def MsgJoinsWrongFalsely : Prop := msgJoinsRow.holds Try.pinned (OpenSpec.ofChange msgJoinsWrong)

/-- 'treenaillaw14.MsgFolds': WHATEVER THE INPUT: true; the input reads as it did. -/
def msgFoldsSpec : ChangeSpec := { name := "msgFolds", fn := fun _ => fun
  | [d] => { results := [.lit (.bool true)], args := [d] }
  | _ => none }
def msgFoldsRow : OpenClaim := { program := "ytemhflafiephpaa", sum := "0bbcdac67ad34a27dd72efbf18ecb4dae8aa42f99fef5334b14cdc5eb79e6eba", func := "treenail/treenaillaw14.MsgFolds", spec := "msgFolds", apart := false }
def MsgFoldsSaid : Prop := msgFoldsRow.holds Try.pinned (OpenSpec.ofChange msgFoldsSpec)

/-- ITS FALSE NEIGHBOUR: 'it returns false'. Refute it at one input. -/
def msgFoldsWrong : ChangeSpec := { name := "msgFolds", fn := fun _ => fun
  | [d] => { results := [.lit (.bool false)], args := [d] }
  | _ => none }
def MsgFoldsWrongFalsely : Prop := msgFoldsRow.holds Try.pinned (OpenSpec.ofChange msgFoldsWrong)

/-- 'treenaillaw14.MsgAdds': WHATEVER THE INPUT: true; the input reads as it did. -/
def msgAddsSpec : ChangeSpec := { name := "msgAdds", fn := fun _ => fun
  | [d1, d2, d3] => { results := [.lit (.bool true)], args := [d1, d2, d3] }
  | _ => none }
def msgAddsRow : OpenClaim := { program := "ytemhflafiephpaa", sum := "0bbcdac67ad34a27dd72efbf18ecb4dae8aa42f99fef5334b14cdc5eb79e6eba", func := "treenail/treenaillaw14.MsgAdds", spec := "msgAdds", apart := false }
def MsgAddsSaid : Prop := msgAddsRow.holds Try.pinned (OpenSpec.ofChange msgAddsSpec)

/-- ITS FALSE NEIGHBOUR: 'it returns false'. Refute it at one input. -/
def msgAddsWrong : ChangeSpec := { name := "msgAdds", fn := fun _ => fun
  | [d1, d2, d3] => { results := [.lit (.bool false)], args := [d1, d2, d3] }
  | _ => none }
def MsgAddsWrongFalsely : Prop := msgAddsRow.holds Try.pinned (OpenSpec.ofChange msgAddsWrong)

/-- 'treenaillaw12.RecTexts': WHATEVER THE INPUT: true; the input reads as it did. -/
def recTextsSpec : ChangeSpec := { name := "recTexts", fn := fun _ => fun
  | [d] => { results := [.lit (.bool true)], args := [d] }
  | _ => none }
def recTextsRow : OpenClaim := { program := "ytemhflafiephpaa", sum := "0bbcdac67ad34a27dd72efbf18ecb4dae8aa42f99fef5334b14cdc5eb79e6eba", func := "treenail/treenaillaw12.RecTexts", spec := "recTexts", inPlace := ["internal/abi.NoEscape"], apart := false }
def RecTextsSaid : Prop := recTextsRow.holds Try.pinned (OpenSpec.ofChange recTextsSpec)

/-- ITS FALSE NEIGHBOUR: 'it returns false'. Refute it at one input. -/
def recTextsWrong : ChangeSpec := { name := "recTexts", fn := fun _ => fun
  | [d] => { results := [.lit (.bool false)], args := [d] }
  | _ => none }
def RecTextsWrongFalsely : Prop := recTextsRow.holds Try.pinned (OpenSpec.ofChange recTextsWrong)

/-- 'treenaillaw12.RecSizes': WHATEVER THE INPUT: true; the input reads as it did. -/
def recSizesSpec : ChangeSpec := { name := "recSizes", fn := fun _ => fun
  | [d1, d2] => { results := [.lit (.bool true)], args := [d1, d2] }
  | _ => none }
def recSizesRow : OpenClaim := { program := "ytemhflafiephpaa", sum := "0bbcdac67ad34a27dd72efbf18ecb4dae8aa42f99fef5334b14cdc5eb79e6eba", func := "treenail/treenaillaw12.RecSizes", spec := "recSizes", inPlace := ["internal/abi.NoEscape"], apart := false }
def RecSizesSaid : Prop := recSizesRow.holds Try.pinned (OpenSpec.ofChange recSizesSpec)

/-- ITS FALSE NEIGHBOUR: 'it returns false'. Refute it at one input. -/
def recSizesWrong : ChangeSpec := { name := "recSizes", fn := fun _ => fun
  | [d1, d2] => { results := [.lit (.bool false)], args := [d1, d2] }
  | _ => none }
def RecSizesWrongFalsely : Prop := recSizesRow.holds Try.pinned (OpenSpec.ofChange recSizesWrong)

/-- 'treenaillaw12.RecParses': WHATEVER THE INPUT: true; the input reads as it did. -/
def recParsesSpec : ChangeSpec := { name := "recParses", fn := fun _ => fun
  | [d1, d2, d3] => { results := [.lit (.bool true)], args := [d1, d2, d3] }
  | _ => none }
def recParsesRow : OpenClaim := { program := "ytemhflafiephpaa", sum := "0bbcdac67ad34a27dd72efbf18ecb4dae8aa42f99fef5334b14cdc5eb79e6eba", func := "treenail/treenaillaw12.RecParses", spec := "recParses", inPlace := ["internal/abi.NoEscape"], apart := false }
def RecParsesSaid : Prop := recParsesRow.holds Try.pinned (OpenSpec.ofChange recParsesSpec)

/-- ITS FALSE NEIGHBOUR: 'it returns false'. Refute it at one input. -/
def recParsesWrong : ChangeSpec := { name := "recParses", fn := fun _ => fun
  | [d1, d2, d3] => { results := [.lit (.bool false)], args := [d1, d2, d3] }
  | _ => none }
def RecParsesWrongFalsely : Prop := recParsesRow.holds Try.pinned (OpenSpec.ofChange recParsesWrong)

/-- 'treenaillaw12.RecBack': WHATEVER THE INPUT: true; the input reads as it did. -/
def recBackSpec : ChangeSpec := { name := "recBack", fn := fun _ => fun
  | [d1, d2, d3] => { results := [.lit (.bool true)], args := [d1, d2, d3] }
  | _ => none }
def recBackRow : OpenClaim := { program := "ytemhflafiephpaa", sum := "0bbcdac67ad34a27dd72efbf18ecb4dae8aa42f99fef5334b14cdc5eb79e6eba", func := "treenail/treenaillaw12.RecBack", spec := "recBack", inPlace := ["internal/abi.NoEscape"], apart := false }
def RecBackSaid : Prop := recBackRow.holds Try.pinned (OpenSpec.ofChange recBackSpec)

/-- ITS FALSE NEIGHBOUR: 'it returns false'. Refute it at one input. -/
def recBackWrong : ChangeSpec := { name := "recBack", fn := fun _ => fun
  | [d1, d2, d3] => { results := [.lit (.bool false)], args := [d1, d2, d3] }
  | _ => none }
def RecBackWrongFalsely : Prop := recBackRow.holds Try.pinned (OpenSpec.ofChange recBackWrong)

/-- 'treenaillaw12.RecRecords': WHATEVER THE INPUT: true; the input reads as it did. -/
def recRecordsSpec : ChangeSpec := { name := "recRecords", fn := fun _ => fun
  | [d1, d2, d3] => { results := [.lit (.bool true)], args := [d1, d2, d3] }
  | _ => none }
def recRecordsRow : OpenClaim := { program := "ytemhflafiephpaa", sum := "0bbcdac67ad34a27dd72efbf18ecb4dae8aa42f99fef5334b14cdc5eb79e6eba", func := "treenail/treenaillaw12.RecRecords", spec := "recRecords", inPlace := ["internal/abi.NoEscape"], apart := false }
def RecRecordsSaid : Prop := recRecordsRow.holds Try.pinned (OpenSpec.ofChange recRecordsSpec)

/-- ITS FALSE NEIGHBOUR: 'it returns false'. Refute it at one input. -/
def recRecordsWrong : ChangeSpec := { name := "recRecords", fn := fun _ => fun
  | [d1, d2, d3] => { results := [.lit (.bool false)], args := [d1, d2, d3] }
  | _ => none }
def RecRecordsWrongFalsely : Prop := recRecordsRow.holds Try.pinned (OpenSpec.ofChange recRecordsWrong)

/- THE SECOND FORM. 'bulk': how many values and letters a reading holds, each counted each time it is reached (what is shared counts as often as it is met; a slice's spare places count too). A statement '..UptoSaid' is the law's where the arguments, and the package variables that the reading takes, are together of bulk at most 1048576: NARROWER than '..Said'. Prove '..Said' where nothing that the law and all that it calls make is longer than what came in: it says more and counts as full. Else prove '..UptoSaid'. A law counts once. -/
mutual
def uptoBulk {H : Type} : DataW H → Nat
  | .lit (.string bytes) => bytes.length + 1
  | .lit _ => 1
  | .nil => 1
  | .ptr d => uptoBulk d + 1
  | .slice elems spare => uptoBulkAll elems + uptoBulkAll spare + 1
  | .agg parts => uptoBulkAll parts + 1
  | .iface _ d => uptoBulk d + 1
  | .map entries => uptoBulkEntries entries + 1
  | .held _ => 1
def uptoBulkAll {H : Type} : List (DataW H) → Nat
  | [] => 0
  | d :: r => uptoBulk d + uptoBulkAll r
def uptoBulkEntries {H : Type} : List (Lit × DataW H) → Nat
  | [] => 0
  | x :: r => uptoBulkEntry x + uptoBulkEntries r
def uptoBulkEntry {H : Type} : Lit × DataW H → Nat
  | (.string bytes, d) => bytes.length + uptoBulk d + 1
  | (_, d) => uptoBulk d + 1
 end
def uptoSmall : (H : Type) → List (DataW H) → Bool := fun _ ds => decide (uptoBulkAll ds ≤ 1048576)
def OpenSpec.upto (s : _root_.Go.ChangeSpec) : _root_.Go.OpenSpec := { _root_.Go.OpenSpec.ofChange s with cond := some uptoSmall }

/-- 'treenaillaw14.MsgNumbers', WHERE WHAT IT READS IS OF BULK AT MOST 1048576: true; the input reads as it did. -/
def msgNumbersUptoRow : OpenClaim := { program := "ytemhflafiephpaa", sum := "0bbcdac67ad34a27dd72efbf18ecb4dae8aa42f99fef5334b14cdc5eb79e6eba", func := "treenail/treenaillaw14.MsgNumbers", spec := "msgNumbers", apart := false, narrowed := true }
def MsgNumbersUptoSaid : Prop := msgNumbersUptoRow.holds Try.pinned (OpenSpec.upto msgNumbersSpec)

/-- 'treenaillaw14.MsgOn', WHERE WHAT IT READS IS OF BULK AT MOST 1048576: true; the input reads as it did. -/
def msgOnUptoRow : OpenClaim := { program := "ytemhflafiephpaa", sum := "0bbcdac67ad34a27dd72efbf18ecb4dae8aa42f99fef5334b14cdc5eb79e6eba", func := "treenail/treenaillaw14.MsgOn", spec := "msgOn", apart := false, narrowed := true }
def MsgOnUptoSaid : Prop := msgOnUptoRow.holds Try.pinned (OpenSpec.upto msgOnSpec)

/-- 'treenaillaw14.MsgJoins', WHERE WHAT IT READS IS OF BULK AT MOST 1048576: true; the input reads as it did. -/
def msgJoinsUptoRow : OpenClaim := { program := "ytemhflafiephpaa", sum := "0bbcdac67ad34a27dd72efbf18ecb4dae8aa42f99fef5334b14cdc5eb79e6eba", func := "treenail/treenaillaw14.MsgJoins", spec := "msgJoins", apart := false, narrowed := true }
def MsgJoinsUptoSaid : Prop := msgJoinsUptoRow.holds Try.pinned (OpenSpec.upto msgJoinsSpec)

/-- 'treenaillaw14.MsgFolds', WHERE WHAT IT READS IS OF BULK AT MOST 1048576: true; the input reads as it did. -/
def msgFoldsUptoRow : OpenClaim := { program := "ytemhflafiephpaa", sum := "0bbcdac67ad34a27dd72efbf18ecb4dae8aa42f99fef5334b14cdc5eb79e6eba", func := "treenail/treenaillaw14.MsgFolds", spec := "msgFolds", apart := false, narrowed := true }
def MsgFoldsUptoSaid : Prop := msgFoldsUptoRow.holds Try.pinned (OpenSpec.upto msgFoldsSpec)

/-- 'treenaillaw14.MsgAdds', WHERE WHAT IT READS IS OF BULK AT MOST 1048576: true; the input reads as it did. -/
def msgAddsUptoRow : OpenClaim := { program := "ytemhflafiephpaa", sum := "0bbcdac67ad34a27dd72efbf18ecb4dae8aa42f99fef5334b14cdc5eb79e6eba", func := "treenail/treenaillaw14.MsgAdds", spec := "msgAdds", apart := false, narrowed := true }
def MsgAddsUptoSaid : Prop := msgAddsUptoRow.holds Try.pinned (OpenSpec.upto msgAddsSpec)

/-- 'treenaillaw12.RecTexts', WHERE WHAT IT READS IS OF BULK AT MOST 1048576: true; the input reads as it did. -/
def recTextsUptoRow : OpenClaim := { program := "ytemhflafiephpaa", sum := "0bbcdac67ad34a27dd72efbf18ecb4dae8aa42f99fef5334b14cdc5eb79e6eba", func := "treenail/treenaillaw12.RecTexts", spec := "recTexts", inPlace := ["internal/abi.NoEscape"], apart := false, narrowed := true }
def RecTextsUptoSaid : Prop := recTextsUptoRow.holds Try.pinned (OpenSpec.upto recTextsSpec)

/-- 'treenaillaw12.RecSizes', WHERE WHAT IT READS IS OF BULK AT MOST 1048576: true; the input reads as it did. -/
def recSizesUptoRow : OpenClaim := { program := "ytemhflafiephpaa", sum := "0bbcdac67ad34a27dd72efbf18ecb4dae8aa42f99fef5334b14cdc5eb79e6eba", func := "treenail/treenaillaw12.RecSizes", spec := "recSizes", inPlace := ["internal/abi.NoEscape"], apart := false, narrowed := true }
def RecSizesUptoSaid : Prop := recSizesUptoRow.holds Try.pinned (OpenSpec.upto recSizesSpec)

/-- 'treenaillaw12.RecParses', WHERE WHAT IT READS IS OF BULK AT MOST 1048576: true; the input reads as it did. -/
def recParsesUptoRow : OpenClaim := { program := "ytemhflafiephpaa", sum := "0bbcdac67ad34a27dd72efbf18ecb4dae8aa42f99fef5334b14cdc5eb79e6eba", func := "treenail/treenaillaw12.RecParses", spec := "recParses", inPlace := ["internal/abi.NoEscape"], apart := false, narrowed := true }
def RecParsesUptoSaid : Prop := recParsesUptoRow.holds Try.pinned (OpenSpec.upto recParsesSpec)

/-- 'treenaillaw12.RecBack', WHERE WHAT IT READS IS OF BULK AT MOST 1048576: true; the input reads as it did. -/
def recBackUptoRow : OpenClaim := { program := "ytemhflafiephpaa", sum := "0bbcdac67ad34a27dd72efbf18ecb4dae8aa42f99fef5334b14cdc5eb79e6eba", func := "treenail/treenaillaw12.RecBack", spec := "recBack", inPlace := ["internal/abi.NoEscape"], apart := false, narrowed := true }
def RecBackUptoSaid : Prop := recBackUptoRow.holds Try.pinned (OpenSpec.upto recBackSpec)

/-- 'treenaillaw12.RecRecords', WHERE WHAT IT READS IS OF BULK AT MOST 1048576: true; the input reads as it did. -/
def recRecordsUptoRow : OpenClaim := { program := "ytemhflafiephpaa", sum := "0bbcdac67ad34a27dd72efbf18ecb4dae8aa42f99fef5334b14cdc5eb79e6eba", func := "treenail/treenaillaw12.RecRecords", spec := "recRecords", inPlace := ["internal/abi.NoEscape"], apart := false, narrowed := true }
def RecRecordsUptoSaid : Prop := recRecordsUptoRow.holds Try.pinned (OpenSpec.upto recRecordsSpec)

end Rows
end Go.Proofs.Ytemhflafiephpaa
