/-
  No cell of these rows narrows 'for every input' (looked for: loops, veiled, ifaces, maps, wideKeys, modest, calm, conditions, laid).
  DERIVED. THE GIVEN ROWS OF THIS SEAT. 11 by the template 'for every input the law returns true; each argument reads behind the call as it read before'; 0 by the template 'total and deterministic' (their statements: YtjcebkkmpgafkaaTotals.lean).
  GIVEN WITH THE SEED: the statements are not yours to turn. If you find one false, say at which input.
  Laid BY PROGRAM, IN A SANDBOX (cutbox-rows.mjs): the forced cells as the released guide's own fill.sh prints them over the translation 26be6a27c0c29c43… (all of the seat's roots in one cut). By AI agents, Wed Nov 11 2026. No macro, syntax, notation, axiom, sorry.
-/
import Derived.Test.YtjcebkkmpgafkaaChecked
import GoSem.Claim
import GoSem.ClaimJoined
import GoSem.ClaimMapViews
import Derived.JoinedTies
import Derived.KernelRfl
namespace Go.Proofs.Ytjcebkkmpgafkaa
/- THE CELL 'sum', in the pinned program and in every row, IS THE sha256 OF THE DUMP (.gsa) THAT YtjcebkkmpgafkaaProg.lean LOADS. Nothing in Lean hashes anything: it is a label: what it is worth is what the hold of that sum in a sandbox is worth. -/
noncomputable def Try.pinned : Pinned := { name := "ytjcebkkmpgafkaa", sum := "26be6a27c0c29c431988755223a84681363ab167e78065062fe63fe9899abe22", checked := Try.checked }
namespace Rows
def none {H : Type} : Left H := { results := [], args := [] }

/-- 'sextantlaw14.CodeKnown': WHATEVER THE INPUT: true; the input reads as it did. -/
def codeKnownSpec : ChangeSpec := { name := "codeKnown", fn := fun _ => fun
  | [] => { results := [.lit (.bool true)], args := [] }
  | _ => none }
def codeKnownRow : OpenClaim := { program := "ytjcebkkmpgafkaa", sum := "26be6a27c0c29c431988755223a84681363ab167e78065062fe63fe9899abe22", func := "sextant/sextantlaw14.CodeKnown", spec := "codeKnown", apart := false }
def CodeKnownSaid : Prop := codeKnownRow.holds Try.pinned (OpenSpec.ofChange codeKnownSpec)

/-- ITS FALSE NEIGHBOUR: 'it returns false'. Refute it at one input. -/
def codeKnownWrong : ChangeSpec := { name := "codeKnown", fn := fun _ => fun
  | [] => { results := [.lit (.bool false)], args := [] }
  | _ => none }
def CodeKnownWrongFalsely : Prop := codeKnownRow.holds Try.pinned (OpenSpec.ofChange codeKnownWrong)

/-- 'sextantlaw14.CodeNames': WHATEVER THE INPUT: true; the input reads as it did. -/
def codeNamesSpec : ChangeSpec := { name := "codeNames", fn := fun _ => fun
  | [] => { results := [.lit (.bool true)], args := [] }
  | _ => none }
def codeNamesRow : OpenClaim := { program := "ytjcebkkmpgafkaa", sum := "26be6a27c0c29c431988755223a84681363ab167e78065062fe63fe9899abe22", func := "sextant/sextantlaw14.CodeNames", spec := "codeNames", apart := false }
def CodeNamesSaid : Prop := codeNamesRow.holds Try.pinned (OpenSpec.ofChange codeNamesSpec)

/-- ITS FALSE NEIGHBOUR: 'it returns false'. Refute it at one input. -/
def codeNamesWrong : ChangeSpec := { name := "codeNames", fn := fun _ => fun
  | [] => { results := [.lit (.bool false)], args := [] }
  | _ => none }
def CodeNamesWrongFalsely : Prop := codeNamesRow.holds Try.pinned (OpenSpec.ofChange codeNamesWrong)

/-- 'sextantlaw14.CodeEdges': WHATEVER THE INPUT: true; the input reads as it did. -/
def codeEdgesSpec : ChangeSpec := { name := "codeEdges", fn := fun _ => fun
  | [] => { results := [.lit (.bool true)], args := [] }
  | _ => none }
def codeEdgesRow : OpenClaim := { program := "ytjcebkkmpgafkaa", sum := "26be6a27c0c29c431988755223a84681363ab167e78065062fe63fe9899abe22", func := "sextant/sextantlaw14.CodeEdges", spec := "codeEdges", apart := false }
def CodeEdgesSaid : Prop := codeEdgesRow.holds Try.pinned (OpenSpec.ofChange codeEdgesSpec)

/-- ITS FALSE NEIGHBOUR: 'it returns false'. Refute it at one input. -/
def codeEdgesWrong : ChangeSpec := { name := "codeEdges", fn := fun _ => fun
  | [] => { results := [.lit (.bool false)], args := [] }
  | _ => none }
def CodeEdgesWrongFalsely : Prop := codeEdgesRow.holds Try.pinned (OpenSpec.ofChange codeEdgesWrong)

/-- 'sextantlaw14.CodeEncodes': WHATEVER THE INPUT: true; the input reads as it did. -/
def codeEncodesSpec : ChangeSpec := { name := "codeEncodes", fn := fun _ => fun
  | [d] => { results := [.lit (.bool true)], args := [d] }
  | _ => none }
def codeEncodesRow : OpenClaim := { program := "ytjcebkkmpgafkaa", sum := "26be6a27c0c29c431988755223a84681363ab167e78065062fe63fe9899abe22", func := "sextant/sextantlaw14.CodeEncodes", spec := "codeEncodes", apart := false }
def CodeEncodesSaid : Prop := codeEncodesRow.holds Try.pinned (OpenSpec.ofChange codeEncodesSpec)

/-- ITS FALSE NEIGHBOUR: 'it returns false'. Refute it at one input. -/
def codeEncodesWrong : ChangeSpec := { name := "codeEncodes", fn := fun _ => fun
  | [d] => { results := [.lit (.bool false)], args := [d] }
  | _ => none }
def CodeEncodesWrongFalsely : Prop := codeEncodesRow.holds Try.pinned (OpenSpec.ofChange codeEncodesWrong)

/-- 'sextantlaw14.CodeDecodes': WHATEVER THE INPUT: true; the input reads as it did. -/
def codeDecodesSpec : ChangeSpec := { name := "codeDecodes", fn := fun _ => fun
  | [d] => { results := [.lit (.bool true)], args := [d] }
  | _ => none }
def codeDecodesRow : OpenClaim := { program := "ytjcebkkmpgafkaa", sum := "26be6a27c0c29c431988755223a84681363ab167e78065062fe63fe9899abe22", func := "sextant/sextantlaw14.CodeDecodes", spec := "codeDecodes", apart := false }
def CodeDecodesSaid : Prop := codeDecodesRow.holds Try.pinned (OpenSpec.ofChange codeDecodesSpec)

/-- ITS FALSE NEIGHBOUR: 'it returns false'. Refute it at one input. -/
def codeDecodesWrong : ChangeSpec := { name := "codeDecodes", fn := fun _ => fun
  | [d] => { results := [.lit (.bool false)], args := [d] }
  | _ => none }
def CodeDecodesWrongFalsely : Prop := codeDecodesRow.holds Try.pinned (OpenSpec.ofChange codeDecodesWrong)

/-- 'sextantlaw14.CodeBack': WHATEVER THE INPUT: true; the input reads as it did. -/
def codeBackSpec : ChangeSpec := { name := "codeBack", fn := fun _ => fun
  | [d1, d2] => { results := [.lit (.bool true)], args := [d1, d2] }
  | _ => none }
def codeBackRow : OpenClaim := { program := "ytjcebkkmpgafkaa", sum := "26be6a27c0c29c431988755223a84681363ab167e78065062fe63fe9899abe22", func := "sextant/sextantlaw14.CodeBack", spec := "codeBack", apart := false }
def CodeBackSaid : Prop := codeBackRow.holds Try.pinned (OpenSpec.ofChange codeBackSpec)

/-- ITS FALSE NEIGHBOUR: 'it returns false'. Refute it at one input. -/
def codeBackWrong : ChangeSpec := { name := "codeBack", fn := fun _ => fun
  | [d1, d2] => { results := [.lit (.bool false)], args := [d1, d2] }
  | _ => none }
def CodeBackWrongFalsely : Prop := codeBackRow.holds Try.pinned (OpenSpec.ofChange codeBackWrong)

/-- 'sextantlaw14.CodeForth': WHATEVER THE INPUT: true; the input reads as it did. -/
def codeForthSpec : ChangeSpec := { name := "codeForth", fn := fun _ => fun
  | [d1, d2] => { results := [.lit (.bool true)], args := [d1, d2] }
  | _ => none }
def codeForthRow : OpenClaim := { program := "ytjcebkkmpgafkaa", sum := "26be6a27c0c29c431988755223a84681363ab167e78065062fe63fe9899abe22", func := "sextant/sextantlaw14.CodeForth", spec := "codeForth", apart := false }
def CodeForthSaid : Prop := codeForthRow.holds Try.pinned (OpenSpec.ofChange codeForthSpec)

/-- ITS FALSE NEIGHBOUR: 'it returns false'. Refute it at one input. -/
def codeForthWrong : ChangeSpec := { name := "codeForth", fn := fun _ => fun
  | [d1, d2] => { results := [.lit (.bool false)], args := [d1, d2] }
  | _ => none }
def CodeForthWrongFalsely : Prop := codeForthRow.holds Try.pinned (OpenSpec.ofChange codeForthWrong)

/-- 'sextantlaw14.CodeLists': WHATEVER THE INPUT: true; the input reads as it did. -/
def codeListsSpec : ChangeSpec := { name := "codeLists", fn := fun _ => fun
  | [d] => { results := [.lit (.bool true)], args := [d] }
  | _ => none }
def codeListsRow : OpenClaim := { program := "ytjcebkkmpgafkaa", sum := "26be6a27c0c29c431988755223a84681363ab167e78065062fe63fe9899abe22", func := "sextant/sextantlaw14.CodeLists", spec := "codeLists", unfollowed := true, recurses := true, apart := false }
def CodeListsSaid : Prop := codeListsRow.holds Try.pinned (OpenSpec.ofChange codeListsSpec)

/-- ITS FALSE NEIGHBOUR: 'it returns false'. Refute it at one input. -/
def codeListsWrong : ChangeSpec := { name := "codeLists", fn := fun _ => fun
  | [d] => { results := [.lit (.bool false)], args := [d] }
  | _ => none }
def CodeListsWrongFalsely : Prop := codeListsRow.holds Try.pinned (OpenSpec.ofChange codeListsWrong)

/-- 'sextantlaw14.CodeWords': WHATEVER THE INPUT: true; the input reads as it did. -/
def codeWordsSpec : ChangeSpec := { name := "codeWords", fn := fun _ => fun
  | [d] => { results := [.lit (.bool true)], args := [d] }
  | _ => none }
def codeWordsRow : OpenClaim := { program := "ytjcebkkmpgafkaa", sum := "26be6a27c0c29c431988755223a84681363ab167e78065062fe63fe9899abe22", func := "sextant/sextantlaw14.CodeWords", spec := "codeWords", unfollowed := true, recurses := true, apart := false }
def CodeWordsSaid : Prop := codeWordsRow.holds Try.pinned (OpenSpec.ofChange codeWordsSpec)

/-- ITS FALSE NEIGHBOUR: 'it returns false'. Refute it at one input. -/
def codeWordsWrong : ChangeSpec := { name := "codeWords", fn := fun _ => fun
  | [d] => { results := [.lit (.bool false)], args := [d] }
  | _ => none }
def CodeWordsWrongFalsely : Prop := codeWordsRow.holds Try.pinned (OpenSpec.ofChange codeWordsWrong)

/-- 'sextantlaw14.CodeLimit': WHATEVER THE INPUT: true; the input reads as it did. -/
def codeLimitSpec : ChangeSpec := { name := "codeLimit", fn := fun _ => fun
  | [] => { results := [.lit (.bool true)], args := [] }
  | _ => none }
def codeLimitRow : OpenClaim := { program := "ytjcebkkmpgafkaa", sum := "26be6a27c0c29c431988755223a84681363ab167e78065062fe63fe9899abe22", func := "sextant/sextantlaw14.CodeLimit", spec := "codeLimit", unfollowed := true, recurses := true, apart := false }
def CodeLimitSaid : Prop := codeLimitRow.holds Try.pinned (OpenSpec.ofChange codeLimitSpec)

/-- ITS FALSE NEIGHBOUR: 'it returns false'. Refute it at one input. -/
def codeLimitWrong : ChangeSpec := { name := "codeLimit", fn := fun _ => fun
  | [] => { results := [.lit (.bool false)], args := [] }
  | _ => none }
def CodeLimitWrongFalsely : Prop := codeLimitRow.holds Try.pinned (OpenSpec.ofChange codeLimitWrong)

/-- 'sextantlaw14.CodeKept': WHATEVER THE INPUT: true; the input reads as it did. -/
def codeKeptSpec : ChangeSpec := { name := "codeKept", fn := fun _ => fun
  | [d] => { results := [.lit (.bool true)], args := [d] }
  | _ => none }
def codeKeptRow : OpenClaim := { program := "ytjcebkkmpgafkaa", sum := "26be6a27c0c29c431988755223a84681363ab167e78065062fe63fe9899abe22", func := "sextant/sextantlaw14.CodeKept", spec := "codeKept", unfollowed := true, recurses := true, apart := false }
def CodeKeptSaid : Prop := codeKeptRow.holds Try.pinned (OpenSpec.ofChange codeKeptSpec)

/-- ITS FALSE NEIGHBOUR: 'it returns false'. Refute it at one input. -/
def codeKeptWrong : ChangeSpec := { name := "codeKept", fn := fun _ => fun
  | [d] => { results := [.lit (.bool false)], args := [d] }
  | _ => none }
def CodeKeptWrongFalsely : Prop := codeKeptRow.holds Try.pinned (OpenSpec.ofChange codeKeptWrong)

/- THE SECOND FORM. 'bulk': how many values and letters a reading holds, each counted each time it is reached (what is shared counts as often as it is met; a slice's spare places count too). A statement '..UptoSaid' is the law's where the arguments, and the package variables that the reading takes, are together of bulk at most 1048576: NARROWER than '..Said'. Prove '..Said' where nothing that the law and all that it calls make is longer than what came in: it says more and counts as full. Else prove '..UptoSaid'. A law counts once. -/
mutual
def uptoBulk {H : Type} : DataW H → Nat
  | .lit (.string bytes) => bytes.length + 1
  | .lit _ => 1
  | .nil => 1
  | .ptr d => uptoBulk d + 1
  | .slice elems spare => uptoBulkAll elems + uptoBulkAll spare + 1
  | .agg parts => uptoBulkAll parts + 1
  | .iface _ d => uptoBulk d + 1
  | .map entries => uptoBulkEntries entries + 1
  | .held _ => 1
def uptoBulkAll {H : Type} : List (DataW H) → Nat
  | [] => 0
  | d :: r => uptoBulk d + uptoBulkAll r
def uptoBulkEntries {H : Type} : List (Lit × DataW H) → Nat
  | [] => 0
  | x :: r => uptoBulkEntry x + uptoBulkEntries r
def uptoBulkEntry {H : Type} : Lit × DataW H → Nat
  | (.string bytes, d) => bytes.length + uptoBulk d + 1
  | (_, d) => uptoBulk d + 1
 end
def uptoSmall : (H : Type) → List (DataW H) → Bool := fun _ ds => decide (uptoBulkAll ds ≤ 1048576)
def OpenSpec.upto (s : _root_.Go.ChangeSpec) : _root_.Go.OpenSpec := { _root_.Go.OpenSpec.ofChange s with cond := some uptoSmall }

/-- 'sextantlaw14.CodeKnown', WHERE WHAT IT READS IS OF BULK AT MOST 1048576: true; the input reads as it did. -/
def codeKnownUptoRow : OpenClaim := { program := "ytjcebkkmpgafkaa", sum := "26be6a27c0c29c431988755223a84681363ab167e78065062fe63fe9899abe22", func := "sextant/sextantlaw14.CodeKnown", spec := "codeKnown", apart := false, narrowed := true }
def CodeKnownUptoSaid : Prop := codeKnownUptoRow.holds Try.pinned (OpenSpec.upto codeKnownSpec)

/-- 'sextantlaw14.CodeNames', WHERE WHAT IT READS IS OF BULK AT MOST 1048576: true; the input reads as it did. -/
def codeNamesUptoRow : OpenClaim := { program := "ytjcebkkmpgafkaa", sum := "26be6a27c0c29c431988755223a84681363ab167e78065062fe63fe9899abe22", func := "sextant/sextantlaw14.CodeNames", spec := "codeNames", apart := false, narrowed := true }
def CodeNamesUptoSaid : Prop := codeNamesUptoRow.holds Try.pinned (OpenSpec.upto codeNamesSpec)

/-- 'sextantlaw14.CodeEdges', WHERE WHAT IT READS IS OF BULK AT MOST 1048576: true; the input reads as it did. -/
def codeEdgesUptoRow : OpenClaim := { program := "ytjcebkkmpgafkaa", sum := "26be6a27c0c29c431988755223a84681363ab167e78065062fe63fe9899abe22", func := "sextant/sextantlaw14.CodeEdges", spec := "codeEdges", apart := false, narrowed := true }
def CodeEdgesUptoSaid : Prop := codeEdgesUptoRow.holds Try.pinned (OpenSpec.upto codeEdgesSpec)

/-- 'sextantlaw14.CodeEncodes', WHERE WHAT IT READS IS OF BULK AT MOST 1048576: true; the input reads as it did. -/
def codeEncodesUptoRow : OpenClaim := { program := "ytjcebkkmpgafkaa", sum := "26be6a27c0c29c431988755223a84681363ab167e78065062fe63fe9899abe22", func := "sextant/sextantlaw14.CodeEncodes", spec := "codeEncodes", apart := false, narrowed := true }
def CodeEncodesUptoSaid : Prop := codeEncodesUptoRow.holds Try.pinned (OpenSpec.upto codeEncodesSpec)

/-- 'sextantlaw14.CodeDecodes', WHERE WHAT IT READS IS OF BULK AT MOST 1048576: true; the input reads as it did. -/
def codeDecodesUptoRow : OpenClaim := { program := "ytjcebkkmpgafkaa", sum := "26be6a27c0c29c431988755223a84681363ab167e78065062fe63fe9899abe22", func := "sextant/sextantlaw14.CodeDecodes", spec := "codeDecodes", apart := false, narrowed := true }
def CodeDecodesUptoSaid : Prop := codeDecodesUptoRow.holds Try.pinned (OpenSpec.upto codeDecodesSpec)

/-- 'sextantlaw14.CodeBack', WHERE WHAT IT READS IS OF BULK AT MOST 1048576: true; the input reads as it did. -/
def codeBackUptoRow : OpenClaim := { program := "ytjcebkkmpgafkaa", sum := "26be6a27c0c29c431988755223a84681363ab167e78065062fe63fe9899abe22", func := "sextant/sextantlaw14.CodeBack", spec := "codeBack", apart := false, narrowed := true }
def CodeBackUptoSaid : Prop := codeBackUptoRow.holds Try.pinned (OpenSpec.upto codeBackSpec)

/-- 'sextantlaw14.CodeForth', WHERE WHAT IT READS IS OF BULK AT MOST 1048576: true; the input reads as it did. -/
def codeForthUptoRow : OpenClaim := { program := "ytjcebkkmpgafkaa", sum := "26be6a27c0c29c431988755223a84681363ab167e78065062fe63fe9899abe22", func := "sextant/sextantlaw14.CodeForth", spec := "codeForth", apart := false, narrowed := true }
def CodeForthUptoSaid : Prop := codeForthUptoRow.holds Try.pinned (OpenSpec.upto codeForthSpec)

/-- 'sextantlaw14.CodeLists', WHERE WHAT IT READS IS OF BULK AT MOST 1048576: true; the input reads as it did. -/
def codeListsUptoRow : OpenClaim := { program := "ytjcebkkmpgafkaa", sum := "26be6a27c0c29c431988755223a84681363ab167e78065062fe63fe9899abe22", func := "sextant/sextantlaw14.CodeLists", spec := "codeLists", unfollowed := true, recurses := true, apart := false, narrowed := true }
def CodeListsUptoSaid : Prop := codeListsUptoRow.holds Try.pinned (OpenSpec.upto codeListsSpec)

/-- 'sextantlaw14.CodeWords', WHERE WHAT IT READS IS OF BULK AT MOST 1048576: true; the input reads as it did. -/
def codeWordsUptoRow : OpenClaim := { program := "ytjcebkkmpgafkaa", sum := "26be6a27c0c29c431988755223a84681363ab167e78065062fe63fe9899abe22", func := "sextant/sextantlaw14.CodeWords", spec := "codeWords", unfollowed := true, recurses := true, apart := false, narrowed := true }
def CodeWordsUptoSaid : Prop := codeWordsUptoRow.holds Try.pinned (OpenSpec.upto codeWordsSpec)

/-- 'sextantlaw14.CodeLimit', WHERE WHAT IT READS IS OF BULK AT MOST 1048576: true; the input reads as it did. -/
def codeLimitUptoRow : OpenClaim := { program := "ytjcebkkmpgafkaa", sum := "26be6a27c0c29c431988755223a84681363ab167e78065062fe63fe9899abe22", func := "sextant/sextantlaw14.CodeLimit", spec := "codeLimit", unfollowed := true, recurses := true, apart := false, narrowed := true }
def CodeLimitUptoSaid : Prop := codeLimitUptoRow.holds Try.pinned (OpenSpec.upto codeLimitSpec)

/-- 'sextantlaw14.CodeKept', WHERE WHAT IT READS IS OF BULK AT MOST 1048576: true; the input reads as it did. -/
def codeKeptUptoRow : OpenClaim := { program := "ytjcebkkmpgafkaa", sum := "26be6a27c0c29c431988755223a84681363ab167e78065062fe63fe9899abe22", func := "sextant/sextantlaw14.CodeKept", spec := "codeKept", unfollowed := true, recurses := true, apart := false, narrowed := true }
def CodeKeptUptoSaid : Prop := codeKeptUptoRow.holds Try.pinned (OpenSpec.upto codeKeptSpec)

end Rows
end Go.Proofs.Ytjcebkkmpgafkaa
