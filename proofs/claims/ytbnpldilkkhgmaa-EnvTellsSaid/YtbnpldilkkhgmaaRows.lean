/-
  No cell of these rows narrows 'for every input' (looked for: loops, veiled, ifaces, maps, wideKeys, modest, calm, conditions, laid).
  DERIVED. THE GIVEN ROWS OF THIS SEAT. 8 by the template 'for every input the law returns true; each argument reads behind the call as it read before'; 0 by the template 'total and deterministic' (their statements: YtbnpldilkkhgmaaTotals.lean).
  GIVEN WITH THE SEED: the statements are not yours to turn. If you find one false, say at which input.
  Laid BY PROGRAM, IN A SANDBOX (cutbox-rows.mjs): the forced cells as the released guide's own fill.sh prints them over the translation 4d9e3f6d0d24e2e4… (all of the seat's roots in one cut). By AI agents, Wed Nov 11 2026. No macro, syntax, notation, axiom, sorry.
-/
import Derived.Test.YtbnpldilkkhgmaaChecked
import GoSem.Claim
import GoSem.ClaimJoined
import GoSem.ClaimMapViews
import Derived.JoinedTies
import Derived.KernelRfl
namespace Go.Proofs.Ytbnpldilkkhgmaa
/- THE CELL 'sum', in the pinned program and in every row, IS THE sha256 OF THE DUMP (.gsa) THAT YtbnpldilkkhgmaaProg.lean LOADS. Nothing in Lean hashes anything: it is a label: what it is worth is what the hold of that sum in a sandbox is worth. -/
noncomputable def Try.pinned : Pinned := { name := "ytbnpldilkkhgmaa", sum := "4d9e3f6d0d24e2e41ca1977b91d4d5c57f4a4b64adda18e65c2f8eb74dcf44ec", checked := Try.checked }
namespace Rows
def none {H : Type} : Left H := { results := [], args := [] }

/-- 'treenaillaw04.EnvImages': WHATEVER THE INPUT: true; the input reads as it did. -/
def envImagesSpec : ChangeSpec := { name := "envImages", fn := fun _ => fun
  | [d1, d2, d3] => { results := [.lit (.bool true)], args := [d1, d2, d3] }
  | _ => none }
def envImagesRow : OpenClaim := { program := "ytbnpldilkkhgmaa", sum := "4d9e3f6d0d24e2e41ca1977b91d4d5c57f4a4b64adda18e65c2f8eb74dcf44ec", func := "treenail/treenaillaw04.EnvImages", spec := "envImages", inPlace := ["internal/abi.NoEscape", "internal/bytealg.MakeNoZero"], apart := false }
def EnvImagesSaid : Prop := envImagesRow.holds Try.pinned (OpenSpec.ofChange envImagesSpec)

/-- ITS FALSE NEIGHBOUR: 'it returns false'. Refute it at one input. -/
def envImagesWrong : ChangeSpec := { name := "envImages", fn := fun _ => fun
  | [d1, d2, d3] => { results := [.lit (.bool false)], args := [d1, d2, d3] }
  | _ => none }
def EnvImagesWrongFalsely : Prop := envImagesRow.holds Try.pinned (OpenSpec.ofChange envImagesWrong)

/-- 'treenaillaw04.EnvTells': WHATEVER THE INPUT: true; the input reads as it did. -/
def envTellsSpec : ChangeSpec := { name := "envTells", fn := fun _ => fun
  | [d1, d2, d3] => { results := [.lit (.bool true)], args := [d1, d2, d3] }
  | _ => none }
def envTellsRow : OpenClaim := { program := "ytbnpldilkkhgmaa", sum := "4d9e3f6d0d24e2e41ca1977b91d4d5c57f4a4b64adda18e65c2f8eb74dcf44ec", func := "treenail/treenaillaw04.EnvTells", spec := "envTells", inPlace := ["internal/abi.NoEscape", "internal/bytealg.MakeNoZero"], apart := false }
def EnvTellsSaid : Prop := envTellsRow.holds Try.pinned (OpenSpec.ofChange envTellsSpec)

/-- ITS FALSE NEIGHBOUR: 'it returns false'. Refute it at one input. -/
def envTellsWrong : ChangeSpec := { name := "envTells", fn := fun _ => fun
  | [d1, d2, d3] => { results := [.lit (.bool false)], args := [d1, d2, d3] }
  | _ => none }
def EnvTellsWrongFalsely : Prop := envTellsRow.holds Try.pinned (OpenSpec.ofChange envTellsWrong)

/-- 'treenaillaw04.EnvPtrs': WHATEVER THE INPUT: true; the input reads as it did. -/
def envPtrsSpec : ChangeSpec := { name := "envPtrs", fn := fun _ => fun
  | [d1, d2, d3] => { results := [.lit (.bool true)], args := [d1, d2, d3] }
  | _ => none }
def envPtrsRow : OpenClaim := { program := "ytbnpldilkkhgmaa", sum := "4d9e3f6d0d24e2e41ca1977b91d4d5c57f4a4b64adda18e65c2f8eb74dcf44ec", func := "treenail/treenaillaw04.EnvPtrs", spec := "envPtrs", inPlace := ["internal/abi.NoEscape", "internal/bytealg.MakeNoZero"], apart := false }
def EnvPtrsSaid : Prop := envPtrsRow.holds Try.pinned (OpenSpec.ofChange envPtrsSpec)

/-- ITS FALSE NEIGHBOUR: 'it returns false'. Refute it at one input. -/
def envPtrsWrong : ChangeSpec := { name := "envPtrs", fn := fun _ => fun
  | [d1, d2, d3] => { results := [.lit (.bool false)], args := [d1, d2, d3] }
  | _ => none }
def EnvPtrsWrongFalsely : Prop := envPtrsRow.holds Try.pinned (OpenSpec.ofChange envPtrsWrong)

/-- 'treenaillaw04.EnvMeets': WHATEVER THE INPUT: true; the input reads as it did. -/
def envMeetsSpec : ChangeSpec := { name := "envMeets", fn := fun _ => fun
  | [d1, d2, d3] => { results := [.lit (.bool true)], args := [d1, d2, d3] }
  | _ => none }
def envMeetsRow : OpenClaim := { program := "ytbnpldilkkhgmaa", sum := "4d9e3f6d0d24e2e41ca1977b91d4d5c57f4a4b64adda18e65c2f8eb74dcf44ec", func := "treenail/treenaillaw04.EnvMeets", spec := "envMeets", inPlace := ["internal/abi.NoEscape", "internal/bytealg.MakeNoZero"], apart := false }
def EnvMeetsSaid : Prop := envMeetsRow.holds Try.pinned (OpenSpec.ofChange envMeetsSpec)

/-- ITS FALSE NEIGHBOUR: 'it returns false'. Refute it at one input. -/
def envMeetsWrong : ChangeSpec := { name := "envMeets", fn := fun _ => fun
  | [d1, d2, d3] => { results := [.lit (.bool false)], args := [d1, d2, d3] }
  | _ => none }
def EnvMeetsWrongFalsely : Prop := envMeetsRow.holds Try.pinned (OpenSpec.ofChange envMeetsWrong)

/-- 'treenaillaw05.SuperImages': WHATEVER THE INPUT: true; the input reads as it did. -/
def superImagesSpec : ChangeSpec := { name := "superImages", fn := fun _ => fun
  | [d1, d2] => { results := [.lit (.bool true)], args := [d1, d2] }
  | _ => none }
def superImagesRow : OpenClaim := { program := "ytbnpldilkkhgmaa", sum := "4d9e3f6d0d24e2e41ca1977b91d4d5c57f4a4b64adda18e65c2f8eb74dcf44ec", func := "treenail/treenaillaw05.SuperImages", spec := "superImages", inPlace := ["internal/abi.NoEscape", "internal/bytealg.MakeNoZero"], apart := false }
def SuperImagesSaid : Prop := superImagesRow.holds Try.pinned (OpenSpec.ofChange superImagesSpec)

/-- ITS FALSE NEIGHBOUR: 'it returns false'. Refute it at one input. -/
def superImagesWrong : ChangeSpec := { name := "superImages", fn := fun _ => fun
  | [d1, d2] => { results := [.lit (.bool false)], args := [d1, d2] }
  | _ => none }
def SuperImagesWrongFalsely : Prop := superImagesRow.holds Try.pinned (OpenSpec.ofChange superImagesWrong)

/-- 'treenaillaw05.SuperOpens': WHATEVER THE INPUT: true; the input reads as it did. -/
def superOpensSpec : ChangeSpec := { name := "superOpens", fn := fun _ => fun
  | [d1, d2, d3] => { results := [.lit (.bool true)], args := [d1, d2, d3] }
  | _ => none }
def superOpensRow : OpenClaim := { program := "ytbnpldilkkhgmaa", sum := "4d9e3f6d0d24e2e41ca1977b91d4d5c57f4a4b64adda18e65c2f8eb74dcf44ec", func := "treenail/treenaillaw05.SuperOpens", spec := "superOpens", inPlace := ["internal/abi.NoEscape", "internal/bytealg.MakeNoZero"], apart := false }
def SuperOpensSaid : Prop := superOpensRow.holds Try.pinned (OpenSpec.ofChange superOpensSpec)

/-- ITS FALSE NEIGHBOUR: 'it returns false'. Refute it at one input. -/
def superOpensWrong : ChangeSpec := { name := "superOpens", fn := fun _ => fun
  | [d1, d2, d3] => { results := [.lit (.bool false)], args := [d1, d2, d3] }
  | _ => none }
def SuperOpensWrongFalsely : Prop := superOpensRow.holds Try.pinned (OpenSpec.ofChange superOpensWrong)

/-- 'treenaillaw05.SuperSlots': WHATEVER THE INPUT: true; the input reads as it did. -/
def superSlotsSpec : ChangeSpec := { name := "superSlots", fn := fun _ => fun
  | [d1, d2] => { results := [.lit (.bool true)], args := [d1, d2] }
  | _ => none }
def superSlotsRow : OpenClaim := { program := "ytbnpldilkkhgmaa", sum := "4d9e3f6d0d24e2e41ca1977b91d4d5c57f4a4b64adda18e65c2f8eb74dcf44ec", func := "treenail/treenaillaw05.SuperSlots", spec := "superSlots", inPlace := ["internal/abi.NoEscape", "internal/bytealg.MakeNoZero"], apart := false }
def SuperSlotsSaid : Prop := superSlotsRow.holds Try.pinned (OpenSpec.ofChange superSlotsSpec)

/-- ITS FALSE NEIGHBOUR: 'it returns false'. Refute it at one input. -/
def superSlotsWrong : ChangeSpec := { name := "superSlots", fn := fun _ => fun
  | [d1, d2] => { results := [.lit (.bool false)], args := [d1, d2] }
  | _ => none }
def SuperSlotsWrongFalsely : Prop := superSlotsRow.holds Try.pinned (OpenSpec.ofChange superSlotsWrong)

/-- 'treenaillaw05.SuperNewest': WHATEVER THE INPUT: true; the input reads as it did. -/
def superNewestSpec : ChangeSpec := { name := "superNewest", fn := fun _ => fun
  | [d1, d2] => { results := [.lit (.bool true)], args := [d1, d2] }
  | _ => none }
def superNewestRow : OpenClaim := { program := "ytbnpldilkkhgmaa", sum := "4d9e3f6d0d24e2e41ca1977b91d4d5c57f4a4b64adda18e65c2f8eb74dcf44ec", func := "treenail/treenaillaw05.SuperNewest", spec := "superNewest", inPlace := ["internal/abi.NoEscape", "internal/bytealg.MakeNoZero"], apart := false }
def SuperNewestSaid : Prop := superNewestRow.holds Try.pinned (OpenSpec.ofChange superNewestSpec)

/-- ITS FALSE NEIGHBOUR: 'it returns false'. Refute it at one input. -/
def superNewestWrong : ChangeSpec := { name := "superNewest", fn := fun _ => fun
  | [d1, d2] => { results := [.lit (.bool false)], args := [d1, d2] }
  | _ => none }
def SuperNewestWrongFalsely : Prop := superNewestRow.holds Try.pinned (OpenSpec.ofChange superNewestWrong)

/- THE SECOND FORM. 'bulk': how many values and letters a reading holds, each counted each time it is reached (what is shared counts as often as it is met; a slice's spare places count too). A statement '..UptoSaid' is the law's where the arguments, and the package variables that the reading takes, are together of bulk at most 1048576: NARROWER than '..Said'. Prove '..Said' where nothing that the law and all that it calls make is longer than what came in: it says more and counts as full. Else prove '..UptoSaid'. A law counts once. -/
mutual
def uptoBulk {H : Type} : DataW H → Nat
  | .lit (.string bytes) => bytes.length + 1
  | .lit _ => 1
  | .nil => 1
  | .ptr d => uptoBulk d + 1
  | .slice elems spare => uptoBulkAll elems + uptoBulkAll spare + 1
  | .agg parts => uptoBulkAll parts + 1
  | .iface _ d => uptoBulk d + 1
  | .map entries => uptoBulkEntries entries + 1
  | .held _ => 1
def uptoBulkAll {H : Type} : List (DataW H) → Nat
  | [] => 0
  | d :: r => uptoBulk d + uptoBulkAll r
def uptoBulkEntries {H : Type} : List (Lit × DataW H) → Nat
  | [] => 0
  | x :: r => uptoBulkEntry x + uptoBulkEntries r
def uptoBulkEntry {H : Type} : Lit × DataW H → Nat
  | (.string bytes, d) => bytes.length + uptoBulk d + 1
  | (_, d) => uptoBulk d + 1
 end
def uptoSmall : (H : Type) → List (DataW H) → Bool := fun _ ds => decide (uptoBulkAll ds ≤ 1048576)
def OpenSpec.upto (s : _root_.Go.ChangeSpec) : _root_.Go.OpenSpec := { _root_.Go.OpenSpec.ofChange s with cond := some uptoSmall }

/-- 'treenaillaw04.EnvImages', WHERE WHAT IT READS IS OF BULK AT MOST 1048576: true; the input reads as it did. -/
def envImagesUptoRow : OpenClaim := { program := "ytbnpldilkkhgmaa", sum := "4d9e3f6d0d24e2e41ca1977b91d4d5c57f4a4b64adda18e65c2f8eb74dcf44ec", func := "treenail/treenaillaw04.EnvImages", spec := "envImages", inPlace := ["internal/abi.NoEscape", "internal/bytealg.MakeNoZero"], apart := false, narrowed := true }
def EnvImagesUptoSaid : Prop := envImagesUptoRow.holds Try.pinned (OpenSpec.upto envImagesSpec)

/-- 'treenaillaw04.EnvTells', WHERE WHAT IT READS IS OF BULK AT MOST 1048576: true; the input reads as it did. -/
def envTellsUptoRow : OpenClaim := { program := "ytbnpldilkkhgmaa", sum := "4d9e3f6d0d24e2e41ca1977b91d4d5c57f4a4b64adda18e65c2f8eb74dcf44ec", func := "treenail/treenaillaw04.EnvTells", spec := "envTells", inPlace := ["internal/abi.NoEscape", "internal/bytealg.MakeNoZero"], apart := false, narrowed := true }
def EnvTellsUptoSaid : Prop := envTellsUptoRow.holds Try.pinned (OpenSpec.upto envTellsSpec)

/-- 'treenaillaw04.EnvPtrs', WHERE WHAT IT READS IS OF BULK AT MOST 1048576: true; the input reads as it did. -/
def envPtrsUptoRow : OpenClaim := { program := "ytbnpldilkkhgmaa", sum := "4d9e3f6d0d24e2e41ca1977b91d4d5c57f4a4b64adda18e65c2f8eb74dcf44ec", func := "treenail/treenaillaw04.EnvPtrs", spec := "envPtrs", inPlace := ["internal/abi.NoEscape", "internal/bytealg.MakeNoZero"], apart := false, narrowed := true }
def EnvPtrsUptoSaid : Prop := envPtrsUptoRow.holds Try.pinned (OpenSpec.upto envPtrsSpec)

/-- 'treenaillaw04.EnvMeets', WHERE WHAT IT READS IS OF BULK AT MOST 1048576: true; the input reads as it did. -/
def envMeetsUptoRow : OpenClaim := { program := "ytbnpldilkkhgmaa", sum := "4d9e3f6d0d24e2e41ca1977b91d4d5c57f4a4b64adda18e65c2f8eb74dcf44ec", func := "treenail/treenaillaw04.EnvMeets", spec := "envMeets", inPlace := ["internal/abi.NoEscape", "internal/bytealg.MakeNoZero"], apart := false, narrowed := true }
def EnvMeetsUptoSaid : Prop := envMeetsUptoRow.holds Try.pinned (OpenSpec.upto envMeetsSpec)

/-- 'treenaillaw05.SuperImages', WHERE WHAT IT READS IS OF BULK AT MOST 1048576: true; the input reads as it did. -/
def superImagesUptoRow : OpenClaim := { program := "ytbnpldilkkhgmaa", sum := "4d9e3f6d0d24e2e41ca1977b91d4d5c57f4a4b64adda18e65c2f8eb74dcf44ec", func := "treenail/treenaillaw05.SuperImages", spec := "superImages", inPlace := ["internal/abi.NoEscape", "internal/bytealg.MakeNoZero"], apart := false, narrowed := true }
def SuperImagesUptoSaid : Prop := superImagesUptoRow.holds Try.pinned (OpenSpec.upto superImagesSpec)

/-- 'treenaillaw05.SuperOpens', WHERE WHAT IT READS IS OF BULK AT MOST 1048576: true; the input reads as it did. -/
def superOpensUptoRow : OpenClaim := { program := "ytbnpldilkkhgmaa", sum := "4d9e3f6d0d24e2e41ca1977b91d4d5c57f4a4b64adda18e65c2f8eb74dcf44ec", func := "treenail/treenaillaw05.SuperOpens", spec := "superOpens", inPlace := ["internal/abi.NoEscape", "internal/bytealg.MakeNoZero"], apart := false, narrowed := true }
def SuperOpensUptoSaid : Prop := superOpensUptoRow.holds Try.pinned (OpenSpec.upto superOpensSpec)

/-- 'treenaillaw05.SuperSlots', WHERE WHAT IT READS IS OF BULK AT MOST 1048576: true; the input reads as it did. -/
def superSlotsUptoRow : OpenClaim := { program := "ytbnpldilkkhgmaa", sum := "4d9e3f6d0d24e2e41ca1977b91d4d5c57f4a4b64adda18e65c2f8eb74dcf44ec", func := "treenail/treenaillaw05.SuperSlots", spec := "superSlots", inPlace := ["internal/abi.NoEscape", "internal/bytealg.MakeNoZero"], apart := false, narrowed := true }
def SuperSlotsUptoSaid : Prop := superSlotsUptoRow.holds Try.pinned (OpenSpec.upto superSlotsSpec)

/-- 'treenaillaw05.SuperNewest', WHERE WHAT IT READS IS OF BULK AT MOST 1048576: true; the input reads as it did. -/
def superNewestUptoRow : OpenClaim := { program := "ytbnpldilkkhgmaa", sum := "4d9e3f6d0d24e2e41ca1977b91d4d5c57f4a4b64adda18e65c2f8eb74dcf44ec", func := "treenail/treenaillaw05.SuperNewest", spec := "superNewest", inPlace := ["internal/abi.NoEscape", "internal/bytealg.MakeNoZero"], apart := false, narrowed := true }
def SuperNewestUptoSaid : Prop := superNewestUptoRow.holds Try.pinned (OpenSpec.upto superNewestSpec)

end Rows
end Go.Proofs.Ytbnpldilkkhgmaa
