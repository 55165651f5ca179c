/-
  No cell of these rows narrows 'for every input' (looked for: loops, veiled, ifaces, maps, wideKeys, modest, calm, conditions, laid).
  DERIVED. THE GIVEN ROWS OF THIS SEAT. 4 by the template 'for every input the law returns true; each argument reads behind the call as it read before'; 0 by the template 'total and deterministic' (their statements: YtbgmkefehfjicaaTotals.lean).
  GIVEN WITH THE SEED: the statements are not yours to turn. If you find one false, say at which input.
  Laid BY PROGRAM, IN A SANDBOX (cutbox-rows.mjs): the forced cells as the released guide's own fill.sh prints them over the translation 7a02f6e1f61bd7d6… (all of the seat's roots in one cut). By AI agents, Wed Nov 11 2026. No macro, syntax, notation, axiom, sorry.
-/
import Derived.Test.YtbgmkefehfjicaaChecked
import GoSem.Claim
import GoSem.ClaimJoined
import GoSem.ClaimMapViews
import Derived.JoinedTies
import Derived.KernelRfl
namespace Go.Proofs.Ytbgmkefehfjicaa
/- THE CELL 'sum', in the pinned program and in every row, IS THE sha256 OF THE DUMP (.gsa) THAT YtbgmkefehfjicaaProg.lean LOADS. Nothing in Lean hashes anything: it is a label: what it is worth is what the hold of that sum in a sandbox is worth. -/
noncomputable def Try.pinned : Pinned := { name := "ytbgmkefehfjicaa", sum := "7a02f6e1f61bd7d652e701cc9371aea718f63fbdb088e1e99281f17edc374673", checked := Try.checked }
namespace Rows
def none {H : Type} : Left H := { results := [], args := [] }

/-- 'sextantlaw7.CheckKnown': WHATEVER THE INPUT: true; the input reads as it did. -/
def checkKnownSpec : ChangeSpec := { name := "checkKnown", fn := fun _ => fun
  | [] => { results := [.lit (.bool true)], args := [] }
  | _ => none }
def checkKnownRow : OpenClaim := { program := "ytbgmkefehfjicaa", sum := "7a02f6e1f61bd7d652e701cc9371aea718f63fbdb088e1e99281f17edc374673", func := "sextant/sextantlaw7.CheckKnown", spec := "checkKnown", inPlace := ["internal/bytealg.IndexByteString", "internal/bytealg.IndexString"], unfollowed := true, recurses := true, named := ["internal/bytealg.MaxLen"], apart := false }
def CheckKnownSaid : Prop := checkKnownRow.holds Try.pinned (OpenSpec.ofChange checkKnownSpec)

/-- ITS FALSE NEIGHBOUR: 'it returns false'. Refute it at one input. -/
def checkKnownWrong : ChangeSpec := { name := "checkKnown", fn := fun _ => fun
  | [] => { results := [.lit (.bool false)], args := [] }
  | _ => none }
def CheckKnownWrongFalsely : Prop := checkKnownRow.holds Try.pinned (OpenSpec.ofChange checkKnownWrong)

/-- 'sextantlaw7.CheckWhole': WHATEVER THE INPUT: true; the input reads as it did. -/
def checkWholeSpec : ChangeSpec := { name := "checkWhole", fn := fun _ => fun
  | [d] => { results := [.lit (.bool true)], args := [d] }
  | _ => none }
def checkWholeRow : OpenClaim := { program := "ytbgmkefehfjicaa", sum := "7a02f6e1f61bd7d652e701cc9371aea718f63fbdb088e1e99281f17edc374673", func := "sextant/sextantlaw7.CheckWhole", spec := "checkWhole", inPlace := ["internal/bytealg.IndexByteString", "internal/bytealg.IndexString"], unfollowed := true, recurses := true, named := ["internal/bytealg.MaxLen"], apart := false }
def CheckWholeSaid : Prop := checkWholeRow.holds Try.pinned (OpenSpec.ofChange checkWholeSpec)

/-- ITS FALSE NEIGHBOUR: 'it returns false'. Refute it at one input. -/
def checkWholeWrong : ChangeSpec := { name := "checkWhole", fn := fun _ => fun
  | [d] => { results := [.lit (.bool false)], args := [d] }
  | _ => none }
def CheckWholeWrongFalsely : Prop := checkWholeRow.holds Try.pinned (OpenSpec.ofChange checkWholeWrong)

/-- 'sextantlaw7.CheckLimits': WHATEVER THE INPUT: true; the input reads as it did. -/
def checkLimitsSpec : ChangeSpec := { name := "checkLimits", fn := fun _ => fun
  | [] => { results := [.lit (.bool true)], args := [] }
  | _ => none }
def checkLimitsRow : OpenClaim := { program := "ytbgmkefehfjicaa", sum := "7a02f6e1f61bd7d652e701cc9371aea718f63fbdb088e1e99281f17edc374673", func := "sextant/sextantlaw7.CheckLimits", spec := "checkLimits", inPlace := ["internal/bytealg.IndexByteString", "internal/bytealg.IndexString"], unfollowed := true, recurses := true, named := ["internal/bytealg.MaxLen"], apart := false }
def CheckLimitsSaid : Prop := checkLimitsRow.holds Try.pinned (OpenSpec.ofChange checkLimitsSpec)

/-- ITS FALSE NEIGHBOUR: 'it returns false'. Refute it at one input. -/
def checkLimitsWrong : ChangeSpec := { name := "checkLimits", fn := fun _ => fun
  | [] => { results := [.lit (.bool false)], args := [] }
  | _ => none }
def CheckLimitsWrongFalsely : Prop := checkLimitsRow.holds Try.pinned (OpenSpec.ofChange checkLimitsWrong)

/-- 'sextantlaw7.CheckFirst': WHATEVER THE INPUT: true; the input reads as it did. -/
def checkFirstSpec : ChangeSpec := { name := "checkFirst", fn := fun _ => fun
  | [d1, d2] => { results := [.lit (.bool true)], args := [d1, d2] }
  | _ => none }
def checkFirstRow : OpenClaim := { program := "ytbgmkefehfjicaa", sum := "7a02f6e1f61bd7d652e701cc9371aea718f63fbdb088e1e99281f17edc374673", func := "sextant/sextantlaw7.CheckFirst", spec := "checkFirst", inPlace := ["internal/bytealg.IndexByteString", "internal/bytealg.IndexString"], unfollowed := true, recurses := true, named := ["internal/bytealg.MaxLen"], apart := false }
def CheckFirstSaid : Prop := checkFirstRow.holds Try.pinned (OpenSpec.ofChange checkFirstSpec)

/-- ITS FALSE NEIGHBOUR: 'it returns false'. Refute it at one input. -/
def checkFirstWrong : ChangeSpec := { name := "checkFirst", fn := fun _ => fun
  | [d1, d2] => { results := [.lit (.bool false)], args := [d1, d2] }
  | _ => none }
def CheckFirstWrongFalsely : Prop := checkFirstRow.holds Try.pinned (OpenSpec.ofChange checkFirstWrong)

/- THE SECOND FORM. 'bulk': how many values and letters a reading holds, each counted each time it is reached (what is shared counts as often as it is met; a slice's spare places count too). A statement '..UptoSaid' is the law's where the arguments, and the package variables that the reading takes, are together of bulk at most 1048576: NARROWER than '..Said'. Prove '..Said' where nothing that the law and all that it calls make is longer than what came in: it says more and counts as full. Else prove '..UptoSaid'. A law counts once. -/
mutual
def uptoBulk {H : Type} : DataW H → Nat
  | .lit (.string bytes) => bytes.length + 1
  | .lit _ => 1
  | .nil => 1
  | .ptr d => uptoBulk d + 1
  | .slice elems spare => uptoBulkAll elems + uptoBulkAll spare + 1
  | .agg parts => uptoBulkAll parts + 1
  | .iface _ d => uptoBulk d + 1
  | .map entries => uptoBulkEntries entries + 1
  | .held _ => 1
def uptoBulkAll {H : Type} : List (DataW H) → Nat
  | [] => 0
  | d :: r => uptoBulk d + uptoBulkAll r
def uptoBulkEntries {H : Type} : List (Lit × DataW H) → Nat
  | [] => 0
  | x :: r => uptoBulkEntry x + uptoBulkEntries r
def uptoBulkEntry {H : Type} : Lit × DataW H → Nat
  | (.string bytes, d) => bytes.length + uptoBulk d + 1
  | (_, d) => uptoBulk d + 1
 end
def uptoSmall : (H : Type) → List (DataW H) → Bool := fun _ ds => decide (uptoBulkAll ds ≤ 1048576)
def OpenSpec.upto (s : _root_.Go.ChangeSpec) : _root_.Go.OpenSpec := { _root_.Go.OpenSpec.ofChange s with cond := some uptoSmall }

/-- 'sextantlaw7.CheckKnown', WHERE WHAT IT READS IS OF BULK AT MOST 1048576: true; the input reads as it did. -/
def checkKnownUptoRow : OpenClaim := { program := "ytbgmkefehfjicaa", sum := "7a02f6e1f61bd7d652e701cc9371aea718f63fbdb088e1e99281f17edc374673", func := "sextant/sextantlaw7.CheckKnown", spec := "checkKnown", inPlace := ["internal/bytealg.IndexByteString", "internal/bytealg.IndexString"], unfollowed := true, recurses := true, named := ["internal/bytealg.MaxLen"], apart := false, narrowed := true }
def CheckKnownUptoSaid : Prop := checkKnownUptoRow.holds Try.pinned (OpenSpec.upto checkKnownSpec)

/-- 'sextantlaw7.CheckWhole', WHERE WHAT IT READS IS OF BULK AT MOST 1048576: true; the input reads as it did. -/
def checkWholeUptoRow : OpenClaim := { program := "ytbgmkefehfjicaa", sum := "7a02f6e1f61bd7d652e701cc9371aea718f63fbdb088e1e99281f17edc374673", func := "sextant/sextantlaw7.CheckWhole", spec := "checkWhole", inPlace := ["internal/bytealg.IndexByteString", "internal/bytealg.IndexString"], unfollowed := true, recurses := true, named := ["internal/bytealg.MaxLen"], apart := false, narrowed := true }
def CheckWholeUptoSaid : Prop := checkWholeUptoRow.holds Try.pinned (OpenSpec.upto checkWholeSpec)

/-- 'sextantlaw7.CheckLimits', WHERE WHAT IT READS IS OF BULK AT MOST 1048576: true; the input reads as it did. -/
def checkLimitsUptoRow : OpenClaim := { program := "ytbgmkefehfjicaa", sum := "7a02f6e1f61bd7d652e701cc9371aea718f63fbdb088e1e99281f17edc374673", func := "sextant/sextantlaw7.CheckLimits", spec := "checkLimits", inPlace := ["internal/bytealg.IndexByteString", "internal/bytealg.IndexString"], unfollowed := true, recurses := true, named := ["internal/bytealg.MaxLen"], apart := false, narrowed := true }
def CheckLimitsUptoSaid : Prop := checkLimitsUptoRow.holds Try.pinned (OpenSpec.upto checkLimitsSpec)

/-- 'sextantlaw7.CheckFirst', WHERE WHAT IT READS IS OF BULK AT MOST 1048576: true; the input reads as it did. -/
def checkFirstUptoRow : OpenClaim := { program := "ytbgmkefehfjicaa", sum := "7a02f6e1f61bd7d652e701cc9371aea718f63fbdb088e1e99281f17edc374673", func := "sextant/sextantlaw7.CheckFirst", spec := "checkFirst", inPlace := ["internal/bytealg.IndexByteString", "internal/bytealg.IndexString"], unfollowed := true, recurses := true, named := ["internal/bytealg.MaxLen"], apart := false, narrowed := true }
def CheckFirstUptoSaid : Prop := checkFirstUptoRow.holds Try.pinned (OpenSpec.upto checkFirstSpec)

end Rows
end Go.Proofs.Ytbgmkefehfjicaa
