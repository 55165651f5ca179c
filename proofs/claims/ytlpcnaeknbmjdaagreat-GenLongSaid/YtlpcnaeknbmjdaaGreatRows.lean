/-
  No cell of these rows narrows 'for every input' (looked for: loops, veiled, ifaces, maps, wideKeys, modest, calm, conditions, laid).
  DERIVED. THE GIVEN ROWS OF THIS SEAT. 5 by the template 'for every input the law returns true; each argument reads behind the call as it read before'; 0 by the template 'total and deterministic' (their statements: YtlpcnaeknbmjdaaGreatTotals.lean).
  GIVEN WITH THE SEED: the statements are not yours to turn. If you find one false, say at which input.
  Laid BY PROGRAM, IN A SANDBOX (cutbox-rows.mjs): the forced cells as the released guide's own fill.sh prints them over the translation 2b0dc0eb40267d8c… (all of the seat's roots in one cut). By AI agents, Wed Nov 11 2026. No macro, syntax, notation, axiom, sorry.
-/
import Derived.Test.YtlpcnaeknbmjdaaGreatChecked
import GoSem.Claim
import GoSem.ClaimJoined
import GoSem.ClaimMapViews
import Derived.JoinedTies
import Derived.KernelRfl
namespace Go.Proofs.YtlpcnaeknbmjdaaGreat
/- THE CELL 'sum', in the pinned program and in every row, IS THE sha256 OF THE DUMP (.gsa) THAT YtlpcnaeknbmjdaaGreatProg.lean LOADS. Nothing in Lean hashes anything: it is a label: what it is worth is what the hold of that sum in a sandbox is worth. -/
noncomputable def Tryz.pinned : Pinned := { name := "ytlpcnaeknbmjdaagreat", sum := "2b0dc0eb40267d8cb9894da047845f6b5d556113b67cd6bc729edb78e77dd2d8", checked := Tryz.checked }
namespace Rows
def none {H : Type} : Left H := { results := [], args := [] }

/-- 'sextantlaw18.GenTells': WHATEVER THE INPUT: true; the input reads as it did. -/
def genTellsSpec : ChangeSpec := { name := "genTells", fn := fun _ => fun
  | [d] => { results := [.lit (.bool true)], args := [d] }
  | _ => none }
def genTellsRow : OpenClaim := { program := "ytlpcnaeknbmjdaagreat", sum := "2b0dc0eb40267d8cb9894da047845f6b5d556113b67cd6bc729edb78e77dd2d8", func := "sextant/sextantlaw18.GenTells", spec := "genTells", unfollowed := true, recurses := true, apart := false }
def GenTellsSaid : Prop := genTellsRow.holds Tryz.pinned (OpenSpec.ofChange genTellsSpec)

/-- ITS FALSE NEIGHBOUR: 'it returns false'. Refute it at one input. -/
def genTellsWrong : ChangeSpec := { name := "genTells", fn := fun _ => fun
  | [d] => { results := [.lit (.bool false)], args := [d] }
  | _ => none }
def GenTellsWrongFalsely : Prop := genTellsRow.holds Tryz.pinned (OpenSpec.ofChange genTellsWrong)

/-- 'sextantlaw18.GenThreads': WHATEVER THE INPUT: true; the input reads as it did. -/
def genThreadsSpec : ChangeSpec := { name := "genThreads", fn := fun _ => fun
  | [d1, d2] => { results := [.lit (.bool true)], args := [d1, d2] }
  | _ => none }
def genThreadsRow : OpenClaim := { program := "ytlpcnaeknbmjdaagreat", sum := "2b0dc0eb40267d8cb9894da047845f6b5d556113b67cd6bc729edb78e77dd2d8", func := "sextant/sextantlaw18.GenThreads", spec := "genThreads", unfollowed := true, recurses := true, apart := false }
def GenThreadsSaid : Prop := genThreadsRow.holds Tryz.pinned (OpenSpec.ofChange genThreadsSpec)

/-- ITS FALSE NEIGHBOUR: 'it returns false'. Refute it at one input. -/
def genThreadsWrong : ChangeSpec := { name := "genThreads", fn := fun _ => fun
  | [d1, d2] => { results := [.lit (.bool false)], args := [d1, d2] }
  | _ => none }
def GenThreadsWrongFalsely : Prop := genThreadsRow.holds Tryz.pinned (OpenSpec.ofChange genThreadsWrong)

/-- 'sextantlaw18.GenLong': WHATEVER THE INPUT: true; the input reads as it did. -/
def genLongSpec : ChangeSpec := { name := "genLong", fn := fun _ => fun
  | [d1, d2, d3] => { results := [.lit (.bool true)], args := [d1, d2, d3] }
  | _ => none }
def genLongRow : OpenClaim := { program := "ytlpcnaeknbmjdaagreat", sum := "2b0dc0eb40267d8cb9894da047845f6b5d556113b67cd6bc729edb78e77dd2d8", func := "sextant/sextantlaw18.GenLong", spec := "genLong", unfollowed := true, recurses := true, apart := false }
def GenLongSaid : Prop := genLongRow.holds Tryz.pinned (OpenSpec.ofChange genLongSpec)

/-- ITS FALSE NEIGHBOUR: 'it returns false'. Refute it at one input. -/
def genLongWrong : ChangeSpec := { name := "genLong", fn := fun _ => fun
  | [d1, d2, d3] => { results := [.lit (.bool false)], args := [d1, d2, d3] }
  | _ => none }
def GenLongWrongFalsely : Prop := genLongRow.holds Tryz.pinned (OpenSpec.ofChange genLongWrong)

/-- 'sextantlaw18.GenBranches': WHATEVER THE INPUT: true; the input reads as it did. -/
def genBranchesSpec : ChangeSpec := { name := "genBranches", fn := fun _ => fun
  | [d] => { results := [.lit (.bool true)], args := [d] }
  | _ => none }
def genBranchesRow : OpenClaim := { program := "ytlpcnaeknbmjdaagreat", sum := "2b0dc0eb40267d8cb9894da047845f6b5d556113b67cd6bc729edb78e77dd2d8", func := "sextant/sextantlaw18.GenBranches", spec := "genBranches", unfollowed := true, recurses := true, apart := false }
def GenBranchesSaid : Prop := genBranchesRow.holds Tryz.pinned (OpenSpec.ofChange genBranchesSpec)

/-- ITS FALSE NEIGHBOUR: 'it returns false'. Refute it at one input. -/
def genBranchesWrong : ChangeSpec := { name := "genBranches", fn := fun _ => fun
  | [d] => { results := [.lit (.bool false)], args := [d] }
  | _ => none }
def GenBranchesWrongFalsely : Prop := genBranchesRow.holds Tryz.pinned (OpenSpec.ofChange genBranchesWrong)

/-- 'sextantlaw18.GenKnown': WHATEVER THE INPUT: true; the input reads as it did. -/
def genKnownSpec : ChangeSpec := { name := "genKnown", fn := fun _ => fun
  | [] => { results := [.lit (.bool true)], args := [] }
  | _ => none }
def genKnownRow : OpenClaim := { program := "ytlpcnaeknbmjdaagreat", sum := "2b0dc0eb40267d8cb9894da047845f6b5d556113b67cd6bc729edb78e77dd2d8", func := "sextant/sextantlaw18.GenKnown", spec := "genKnown", unfollowed := true, recurses := true, apart := false }
def GenKnownSaid : Prop := genKnownRow.holds Tryz.pinned (OpenSpec.ofChange genKnownSpec)

/-- ITS FALSE NEIGHBOUR: 'it returns false'. Refute it at one input. -/
def genKnownWrong : ChangeSpec := { name := "genKnown", fn := fun _ => fun
  | [] => { results := [.lit (.bool false)], args := [] }
  | _ => none }
def GenKnownWrongFalsely : Prop := genKnownRow.holds Tryz.pinned (OpenSpec.ofChange genKnownWrong)

/- THE SECOND FORM. 'bulk': how many values and letters a reading holds, each counted each time it is reached (what is shared counts as often as it is met; a slice's spare places count too). A statement '..UptoSaid' is the law's where the arguments, and the package variables that the reading takes, are together of bulk at most 1048576: NARROWER than '..Said'. Prove '..Said' where nothing that the law and all that it calls make is longer than what came in: it says more and counts as full. Else prove '..UptoSaid'. A law counts once. -/
mutual
def uptoBulk {H : Type} : DataW H → Nat
  | .lit (.string bytes) => bytes.length + 1
  | .lit _ => 1
  | .nil => 1
  | .ptr d => uptoBulk d + 1
  | .slice elems spare => uptoBulkAll elems + uptoBulkAll spare + 1
  | .agg parts => uptoBulkAll parts + 1
  | .iface _ d => uptoBulk d + 1
  | .map entries => uptoBulkEntries entries + 1
  | .held _ => 1
def uptoBulkAll {H : Type} : List (DataW H) → Nat
  | [] => 0
  | d :: r => uptoBulk d + uptoBulkAll r
def uptoBulkEntries {H : Type} : List (Lit × DataW H) → Nat
  | [] => 0
  | x :: r => uptoBulkEntry x + uptoBulkEntries r
def uptoBulkEntry {H : Type} : Lit × DataW H → Nat
  | (.string bytes, d) => bytes.length + uptoBulk d + 1
  | (_, d) => uptoBulk d + 1
 end
def uptoSmall : (H : Type) → List (DataW H) → Bool := fun _ ds => decide (uptoBulkAll ds ≤ 1048576)
def OpenSpec.upto (s : _root_.Go.ChangeSpec) : _root_.Go.OpenSpec := { _root_.Go.OpenSpec.ofChange s with cond := some uptoSmall }

/-- 'sextantlaw18.GenTells', WHERE WHAT IT READS IS OF BULK AT MOST 1048576: true; the input reads as it did. -/
def genTellsUptoRow : OpenClaim := { program := "ytlpcnaeknbmjdaagreat", sum := "2b0dc0eb40267d8cb9894da047845f6b5d556113b67cd6bc729edb78e77dd2d8", func := "sextant/sextantlaw18.GenTells", spec := "genTells", unfollowed := true, recurses := true, apart := false, narrowed := true }
def GenTellsUptoSaid : Prop := genTellsUptoRow.holds Tryz.pinned (OpenSpec.upto genTellsSpec)

/-- 'sextantlaw18.GenThreads', WHERE WHAT IT READS IS OF BULK AT MOST 1048576: true; the input reads as it did. -/
def genThreadsUptoRow : OpenClaim := { program := "ytlpcnaeknbmjdaagreat", sum := "2b0dc0eb40267d8cb9894da047845f6b5d556113b67cd6bc729edb78e77dd2d8", func := "sextant/sextantlaw18.GenThreads", spec := "genThreads", unfollowed := true, recurses := true, apart := false, narrowed := true }
def GenThreadsUptoSaid : Prop := genThreadsUptoRow.holds Tryz.pinned (OpenSpec.upto genThreadsSpec)

/-- 'sextantlaw18.GenLong', WHERE WHAT IT READS IS OF BULK AT MOST 1048576: true; the input reads as it did. -/
def genLongUptoRow : OpenClaim := { program := "ytlpcnaeknbmjdaagreat", sum := "2b0dc0eb40267d8cb9894da047845f6b5d556113b67cd6bc729edb78e77dd2d8", func := "sextant/sextantlaw18.GenLong", spec := "genLong", unfollowed := true, recurses := true, apart := false, narrowed := true }
def GenLongUptoSaid : Prop := genLongUptoRow.holds Tryz.pinned (OpenSpec.upto genLongSpec)

/-- 'sextantlaw18.GenBranches', WHERE WHAT IT READS IS OF BULK AT MOST 1048576: true; the input reads as it did. -/
def genBranchesUptoRow : OpenClaim := { program := "ytlpcnaeknbmjdaagreat", sum := "2b0dc0eb40267d8cb9894da047845f6b5d556113b67cd6bc729edb78e77dd2d8", func := "sextant/sextantlaw18.GenBranches", spec := "genBranches", unfollowed := true, recurses := true, apart := false, narrowed := true }
def GenBranchesUptoSaid : Prop := genBranchesUptoRow.holds Tryz.pinned (OpenSpec.upto genBranchesSpec)

/-- 'sextantlaw18.GenKnown', WHERE WHAT IT READS IS OF BULK AT MOST 1048576: true; the input reads as it did. -/
def genKnownUptoRow : OpenClaim := { program := "ytlpcnaeknbmjdaagreat", sum := "2b0dc0eb40267d8cb9894da047845f6b5d556113b67cd6bc729edb78e77dd2d8", func := "sextant/sextantlaw18.GenKnown", spec := "genKnown", unfollowed := true, recurses := true, apart := false, narrowed := true }
def GenKnownUptoSaid : Prop := genKnownUptoRow.holds Tryz.pinned (OpenSpec.upto genKnownSpec)

end Rows
end Go.Proofs.YtlpcnaeknbmjdaaGreat
