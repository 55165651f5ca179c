/-
  No cell of these rows narrows 'for every input' (looked for: loops, veiled, ifaces, maps, wideKeys, modest, calm, conditions, laid).
  DERIVED. THE GIVEN ROWS OF THIS SEAT. 6 by the template 'for every input the law returns true; each argument reads behind the call as it read before'; 0 by the template 'total and deterministic' (their statements: YtgaejhhipnpopaaTotals.lean).
  GIVEN WITH THE SEED: the statements are not yours to turn. If you find one false, say at which input.
  Laid BY PROGRAM, IN A SANDBOX (cutbox-rows.mjs): the forced cells as the released guide's own fill.sh prints them over the translation 0f9020d8e685fd4f… (all of the seat's roots in one cut). By AI agents, Wed Nov 11 2026. No macro, syntax, notation, axiom, sorry.
-/
import Derived.Test.YtgaejhhipnpopaaChecked
import GoSem.Claim
import GoSem.ClaimJoined
import GoSem.ClaimMapViews
import Derived.JoinedTies
import Derived.KernelRfl
namespace Go.Proofs.Ytgaejhhipnpopaa
/- THE CELL 'sum', in the pinned program and in every row, IS THE sha256 OF THE DUMP (.gsa) THAT YtgaejhhipnpopaaProg.lean LOADS. Nothing in Lean hashes anything: it is a label: what it is worth is what the hold of that sum in a sandbox is worth. -/
noncomputable def Try.pinned : Pinned := { name := "ytgaejhhipnpopaa", sum := "0f9020d8e685fd4fd8cdbdef5311596a5f5e479ad9e26c3a166f1852c6791eff", checked := Try.checked }
namespace Rows
def none {H : Type} : Left H := { results := [], args := [] }

/-- 'sextantlaw17.LowerKnown': WHATEVER THE INPUT: true; the input reads as it did. -/
def lowerKnownSpec : ChangeSpec := { name := "lowerKnown", fn := fun _ => fun
  | [] => { results := [.lit (.bool true)], args := [] }
  | _ => none }
def lowerKnownRow : OpenClaim := { program := "ytgaejhhipnpopaa", sum := "0f9020d8e685fd4fd8cdbdef5311596a5f5e479ad9e26c3a166f1852c6791eff", func := "sextant/sextantlaw17.LowerKnown", spec := "lowerKnown", recurses := true, apart := false }
def LowerKnownSaid : Prop := lowerKnownRow.holds Try.pinned (OpenSpec.ofChange lowerKnownSpec)

/-- ITS FALSE NEIGHBOUR: 'it returns false'. Refute it at one input. -/
def lowerKnownWrong : ChangeSpec := { name := "lowerKnown", fn := fun _ => fun
  | [] => { results := [.lit (.bool false)], args := [] }
  | _ => none }
def LowerKnownWrongFalsely : Prop := lowerKnownRow.holds Try.pinned (OpenSpec.ofChange lowerKnownWrong)

/-- 'sextantlaw17.LowerNumbers': WHATEVER THE INPUT: true; the input reads as it did. -/
def lowerNumbersSpec : ChangeSpec := { name := "lowerNumbers", fn := fun _ => fun
  | [d1, d2] => { results := [.lit (.bool true)], args := [d1, d2] }
  | _ => none }
def lowerNumbersRow : OpenClaim := { program := "ytgaejhhipnpopaa", sum := "0f9020d8e685fd4fd8cdbdef5311596a5f5e479ad9e26c3a166f1852c6791eff", func := "sextant/sextantlaw17.LowerNumbers", spec := "lowerNumbers", recurses := true, apart := false }
def LowerNumbersSaid : Prop := lowerNumbersRow.holds Try.pinned (OpenSpec.ofChange lowerNumbersSpec)

/-- ITS FALSE NEIGHBOUR: 'it returns false'. Refute it at one input. -/
def lowerNumbersWrong : ChangeSpec := { name := "lowerNumbers", fn := fun _ => fun
  | [d1, d2] => { results := [.lit (.bool false)], args := [d1, d2] }
  | _ => none }
def LowerNumbersWrongFalsely : Prop := lowerNumbersRow.holds Try.pinned (OpenSpec.ofChange lowerNumbersWrong)

/-- 'sextantlaw17.LowerTells': WHATEVER THE INPUT: true; the input reads as it did. -/
def lowerTellsSpec : ChangeSpec := { name := "lowerTells", fn := fun _ => fun
  | [d1, d2] => { results := [.lit (.bool true)], args := [d1, d2] }
  | _ => none }
def lowerTellsRow : OpenClaim := { program := "ytgaejhhipnpopaa", sum := "0f9020d8e685fd4fd8cdbdef5311596a5f5e479ad9e26c3a166f1852c6791eff", func := "sextant/sextantlaw17.LowerTells", spec := "lowerTells", recurses := true, apart := false }
def LowerTellsSaid : Prop := lowerTellsRow.holds Try.pinned (OpenSpec.ofChange lowerTellsSpec)

/-- ITS FALSE NEIGHBOUR: 'it returns false'. Refute it at one input. -/
def lowerTellsWrong : ChangeSpec := { name := "lowerTells", fn := fun _ => fun
  | [d1, d2] => { results := [.lit (.bool false)], args := [d1, d2] }
  | _ => none }
def LowerTellsWrongFalsely : Prop := lowerTellsRow.holds Try.pinned (OpenSpec.ofChange lowerTellsWrong)

/-- 'sextantlaw17.LowerAddresses': WHATEVER THE INPUT: true; the input reads as it did. -/
def lowerAddressesSpec : ChangeSpec := { name := "lowerAddresses", fn := fun _ => fun
  | [d1, d2, d3, d4] => { results := [.lit (.bool true)], args := [d1, d2, d3, d4] }
  | _ => none }
def lowerAddressesRow : OpenClaim := { program := "ytgaejhhipnpopaa", sum := "0f9020d8e685fd4fd8cdbdef5311596a5f5e479ad9e26c3a166f1852c6791eff", func := "sextant/sextantlaw17.LowerAddresses", spec := "lowerAddresses", recurses := true, apart := false }
def LowerAddressesSaid : Prop := lowerAddressesRow.holds Try.pinned (OpenSpec.ofChange lowerAddressesSpec)

/-- ITS FALSE NEIGHBOUR: 'it returns false'. Refute it at one input. -/
def lowerAddressesWrong : ChangeSpec := { name := "lowerAddresses", fn := fun _ => fun
  | [d1, d2, d3, d4] => { results := [.lit (.bool false)], args := [d1, d2, d3, d4] }
  | _ => none }
def LowerAddressesWrongFalsely : Prop := lowerAddressesRow.holds Try.pinned (OpenSpec.ofChange lowerAddressesWrong)

/-- 'sextantlaw17.LowerValues': WHATEVER THE INPUT: true; the input reads as it did. -/
def lowerValuesSpec : ChangeSpec := { name := "lowerValues", fn := fun _ => fun
  | [d1, d2, d3, d4, d5] => { results := [.lit (.bool true)], args := [d1, d2, d3, d4, d5] }
  | _ => none }
def lowerValuesRow : OpenClaim := { program := "ytgaejhhipnpopaa", sum := "0f9020d8e685fd4fd8cdbdef5311596a5f5e479ad9e26c3a166f1852c6791eff", func := "sextant/sextantlaw17.LowerValues", spec := "lowerValues", recurses := true, apart := false }
def LowerValuesSaid : Prop := lowerValuesRow.holds Try.pinned (OpenSpec.ofChange lowerValuesSpec)

/-- ITS FALSE NEIGHBOUR: 'it returns false'. Refute it at one input. -/
def lowerValuesWrong : ChangeSpec := { name := "lowerValues", fn := fun _ => fun
  | [d1, d2, d3, d4, d5] => { results := [.lit (.bool false)], args := [d1, d2, d3, d4, d5] }
  | _ => none }
def LowerValuesWrongFalsely : Prop := lowerValuesRow.holds Try.pinned (OpenSpec.ofChange lowerValuesWrong)

/-- 'sextantlaw17.LowerWords': WHATEVER THE INPUT: true; the input reads as it did. -/
def lowerWordsSpec : ChangeSpec := { name := "lowerWords", fn := fun _ => fun
  | [d1, d2, d3, d4, d5] => { results := [.lit (.bool true)], args := [d1, d2, d3, d4, d5] }
  | _ => none }
def lowerWordsRow : OpenClaim := { program := "ytgaejhhipnpopaa", sum := "0f9020d8e685fd4fd8cdbdef5311596a5f5e479ad9e26c3a166f1852c6791eff", func := "sextant/sextantlaw17.LowerWords", spec := "lowerWords", recurses := true, apart := false }
def LowerWordsSaid : Prop := lowerWordsRow.holds Try.pinned (OpenSpec.ofChange lowerWordsSpec)

/-- ITS FALSE NEIGHBOUR: 'it returns false'. Refute it at one input. -/
def lowerWordsWrong : ChangeSpec := { name := "lowerWords", fn := fun _ => fun
  | [d1, d2, d3, d4, d5] => { results := [.lit (.bool false)], args := [d1, d2, d3, d4, d5] }
  | _ => none }
def LowerWordsWrongFalsely : Prop := lowerWordsRow.holds Try.pinned (OpenSpec.ofChange lowerWordsWrong)

/- THE SECOND FORM. 'bulk': how many values and letters a reading holds, each counted each time it is reached (what is shared counts as often as it is met; a slice's spare places count too). A statement '..UptoSaid' is the law's where the arguments, and the package variables that the reading takes, are together of bulk at most 1048576: NARROWER than '..Said'. Prove '..Said' where nothing that the law and all that it calls make is longer than what came in: it says more and counts as full. Else prove '..UptoSaid'. A law counts once. -/
mutual
def uptoBulk {H : Type} : DataW H → Nat
  | .lit (.string bytes) => bytes.length + 1
  | .lit _ => 1
  | .nil => 1
  | .ptr d => uptoBulk d + 1
  | .slice elems spare => uptoBulkAll elems + uptoBulkAll spare + 1
  | .agg parts => uptoBulkAll parts + 1
  | .iface _ d => uptoBulk d + 1
  | .map entries => uptoBulkEntries entries + 1
  | .held _ => 1
def uptoBulkAll {H : Type} : List (DataW H) → Nat
  | [] => 0
  | d :: r => uptoBulk d + uptoBulkAll r
def uptoBulkEntries {H : Type} : List (Lit × DataW H) → Nat
  | [] => 0
  | x :: r => uptoBulkEntry x + uptoBulkEntries r
def uptoBulkEntry {H : Type} : Lit × DataW H → Nat
  | (.string bytes, d) => bytes.length + uptoBulk d + 1
  | (_, d) => uptoBulk d + 1
 end
def uptoSmall : (H : Type) → List (DataW H) → Bool := fun _ ds => decide (uptoBulkAll ds ≤ 1048576)
def OpenSpec.upto (s : _root_.Go.ChangeSpec) : _root_.Go.OpenSpec := { _root_.Go.OpenSpec.ofChange s with cond := some uptoSmall }

/-- 'sextantlaw17.LowerKnown', WHERE WHAT IT READS IS OF BULK AT MOST 1048576: true; the input reads as it did. -/
def lowerKnownUptoRow : OpenClaim := { program := "ytgaejhhipnpopaa", sum := "0f9020d8e685fd4fd8cdbdef5311596a5f5e479ad9e26c3a166f1852c6791eff", func := "sextant/sextantlaw17.LowerKnown", spec := "lowerKnown", recurses := true, apart := false, narrowed := true }
def LowerKnownUptoSaid : Prop := lowerKnownUptoRow.holds Try.pinned (OpenSpec.upto lowerKnownSpec)

/-- 'sextantlaw17.LowerNumbers', WHERE WHAT IT READS IS OF BULK AT MOST 1048576: true; the input reads as it did. -/
def lowerNumbersUptoRow : OpenClaim := { program := "ytgaejhhipnpopaa", sum := "0f9020d8e685fd4fd8cdbdef5311596a5f5e479ad9e26c3a166f1852c6791eff", func := "sextant/sextantlaw17.LowerNumbers", spec := "lowerNumbers", recurses := true, apart := false, narrowed := true }
def LowerNumbersUptoSaid : Prop := lowerNumbersUptoRow.holds Try.pinned (OpenSpec.upto lowerNumbersSpec)

/-- 'sextantlaw17.LowerTells', WHERE WHAT IT READS IS OF BULK AT MOST 1048576: true; the input reads as it did. -/
def lowerTellsUptoRow : OpenClaim := { program := "ytgaejhhipnpopaa", sum := "0f9020d8e685fd4fd8cdbdef5311596a5f5e479ad9e26c3a166f1852c6791eff", func := "sextant/sextantlaw17.LowerTells", spec := "lowerTells", recurses := true, apart := false, narrowed := true }
def LowerTellsUptoSaid : Prop := lowerTellsUptoRow.holds Try.pinned (OpenSpec.upto lowerTellsSpec)

/-- 'sextantlaw17.LowerAddresses', WHERE WHAT IT READS IS OF BULK AT MOST 1048576: true; the input reads as it did. -/
def lowerAddressesUptoRow : OpenClaim := { program := "ytgaejhhipnpopaa", sum := "0f9020d8e685fd4fd8cdbdef5311596a5f5e479ad9e26c3a166f1852c6791eff", func := "sextant/sextantlaw17.LowerAddresses", spec := "lowerAddresses", recurses := true, apart := false, narrowed := true }
def LowerAddressesUptoSaid : Prop := lowerAddressesUptoRow.holds Try.pinned (OpenSpec.upto lowerAddressesSpec)

/-- 'sextantlaw17.LowerValues', WHERE WHAT IT READS IS OF BULK AT MOST 1048576: true; the input reads as it did. -/
def lowerValuesUptoRow : OpenClaim := { program := "ytgaejhhipnpopaa", sum := "0f9020d8e685fd4fd8cdbdef5311596a5f5e479ad9e26c3a166f1852c6791eff", func := "sextant/sextantlaw17.LowerValues", spec := "lowerValues", recurses := true, apart := false, narrowed := true }
def LowerValuesUptoSaid : Prop := lowerValuesUptoRow.holds Try.pinned (OpenSpec.upto lowerValuesSpec)

/-- 'sextantlaw17.LowerWords', WHERE WHAT IT READS IS OF BULK AT MOST 1048576: true; the input reads as it did. -/
def lowerWordsUptoRow : OpenClaim := { program := "ytgaejhhipnpopaa", sum := "0f9020d8e685fd4fd8cdbdef5311596a5f5e479ad9e26c3a166f1852c6791eff", func := "sextant/sextantlaw17.LowerWords", spec := "lowerWords", recurses := true, apart := false, narrowed := true }
def LowerWordsUptoSaid : Prop := lowerWordsUptoRow.holds Try.pinned (OpenSpec.upto lowerWordsSpec)

end Rows
end Go.Proofs.Ytgaejhhipnpopaa
