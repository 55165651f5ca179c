/-
  NARROWER THAN 'FOR EVERY INPUT', by the rows' own cells (each row's printed sentence says how): AtomPlays: laid · AtomLinear: laid · AtomAlone: laid · AtomBounds: laid · AtomPicks: laid.
  DERIVED. THE GIVEN ROWS OF THIS SEAT. 5 by the template 'for every input the law returns true; each argument reads behind the call as it read before'; 0 by the template 'total and deterministic' (their statements: YtjohknpmhlildaaDoorTotals.lean).
  GIVEN WITH THE SEED: the statements are not yours to turn. If you find one false, say at which input.
  Laid BY PROGRAM, IN A SANDBOX (cutbox-rows.mjs): the forced cells as the released guide's own fill.sh prints them over the translation d49276b35b6b30f8… (all of the seat's roots in one cut). By AI agents, Wed Nov 11 2026. No macro, syntax, notation, axiom, sorry.
-/
import Derived.Test.YtjohknpmhlildaaDoorChecked
import GoSem.Claim
import GoSem.ClaimJoined
import GoSem.ClaimMapViews
import Derived.JoinedTies
import Derived.KernelRfl
namespace Go.Proofs.YtjohknpmhlildaaDoor
/- THE CELL 'sum', in the pinned program and in every row, IS THE sha256 OF THE DUMP (.gsa) THAT YtjohknpmhlildaaDoorProg.lean LOADS. Nothing in Lean hashes anything: it is a label: what it is worth is what the hold of that sum in a sandbox is worth. -/
noncomputable def Tryd.pinned : Pinned := { name := "ytjohknpmhlildaadoor", sum := "d49276b35b6b30f8782ae7584b5f5fe79de22ad2e42721ec781cd4135d72fc41", checked := Tryd.checked }
namespace Rows
def none {H : Type} : Left H := { results := [], args := [] }

/- WHAT THE LISTED PACKAGE-LEVEL VARIABLES READ AS WHEN THE CALL BEGINS. Each datum BY PROGRAM (the guide's laid-datum.mjs) off the statement by which the dump's own 'gosem.cut.vars' lays the variable. In a bare row this is a premise. The card (YtjohknpmhlildaaDoorCards.lean) ties it to the program's text. -/
def laid_math_bits_deBruijn64tab {H : Type} : DataW H := .agg [.lit (.int .u8 0), .lit (.int .u8 1), .lit (.int .u8 56), .lit (.int .u8 2), .lit (.int .u8 57), .lit (.int .u8 49), .lit (.int .u8 28), .lit (.int .u8 3), .lit (.int .u8 61), .lit (.int .u8 58), .lit (.int .u8 42), .lit (.int .u8 50), .lit (.int .u8 38), .lit (.int .u8 29), .lit (.int .u8 17), .lit (.int .u8 4), .lit (.int .u8 62), .lit (.int .u8 47), .lit (.int .u8 59), .lit (.int .u8 36), .lit (.int .u8 45), .lit (.int .u8 43), .lit (.int .u8 51), .lit (.int .u8 22), .lit (.int .u8 53), .lit (.int .u8 39), .lit (.int .u8 33), .lit (.int .u8 30), .lit (.int .u8 24), .lit (.int .u8 18), .lit (.int .u8 12), .lit (.int .u8 5), .lit (.int .u8 63), .lit (.int .u8 55), .lit (.int .u8 48), .lit (.int .u8 27), .lit (.int .u8 60), .lit (.int .u8 41), .lit (.int .u8 37), .lit (.int .u8 16), .lit (.int .u8 46), .lit (.int .u8 35), .lit (.int .u8 44), .lit (.int .u8 21), .lit (.int .u8 52), .lit (.int .u8 32), .lit (.int .u8 23), .lit (.int .u8 11), .lit (.int .u8 54), .lit (.int .u8 26), .lit (.int .u8 40), .lit (.int .u8 15), .lit (.int .u8 34), .lit (.int .u8 20), .lit (.int .u8 31), .lit (.int .u8 10), .lit (.int .u8 25), .lit (.int .u8 14), .lit (.int .u8 19), .lit (.int .u8 9), .lit (.int .u8 13), .lit (.int .u8 8), .lit (.int .u8 7), .lit (.int .u8 6)]

/-- 'sextantlaw3.AtomPlays': WHATEVER THE INPUT: true; the input reads as it did. -/
def atomPlaysSpec : ChangeSpec := { name := "atomPlays", fn := fun _ => fun
  | [d1, d2, d3] => { results := [.lit (.bool true)], args := [d1, d2, d3] }
  | _ => none }
def atomPlaysRow : OpenClaim := { program := "ytjohknpmhlildaadoor", sum := "d49276b35b6b30f8782ae7584b5f5fe79de22ad2e42721ec781cd4135d72fc41", func := "sextant/sextantlaw3.AtomPlays", spec := "atomPlays", inPlace := ["sync/atomic.LoadPointer", "sync/atomic.CompareAndSwapPointer", "sync/atomic.StoreUint32", "sync/atomic.LoadUint32", "sync/atomic.StorePointer", "sync/atomic.LoadUint64", "sync/atomic.CompareAndSwapUint64"], unfollowed := true, recurses := true, named := ["math/bits.deBruijn64tab"], apart := false, laid := [("math/bits.deBruijn64tab", laid_math_bits_deBruijn64tab)] }
def AtomPlaysSaid : Prop := atomPlaysRow.holds Tryd.pinned (OpenSpec.ofChange atomPlaysSpec)

/-- ITS FALSE NEIGHBOUR: 'it returns false'. Refute it at one input. -/
def atomPlaysWrong : ChangeSpec := { name := "atomPlays", fn := fun _ => fun
  | [d1, d2, d3] => { results := [.lit (.bool false)], args := [d1, d2, d3] }
  | _ => none }
def AtomPlaysWrongFalsely : Prop := atomPlaysRow.holds Tryd.pinned (OpenSpec.ofChange atomPlaysWrong)

/-- 'sextantlaw3.AtomLinear': WHATEVER THE INPUT: true; the input reads as it did. -/
def atomLinearSpec : ChangeSpec := { name := "atomLinear", fn := fun _ => fun
  | [d1, d2] => { results := [.lit (.bool true)], args := [d1, d2] }
  | _ => none }
def atomLinearRow : OpenClaim := { program := "ytjohknpmhlildaadoor", sum := "d49276b35b6b30f8782ae7584b5f5fe79de22ad2e42721ec781cd4135d72fc41", func := "sextant/sextantlaw3.AtomLinear", spec := "atomLinear", inPlace := ["sync/atomic.LoadPointer", "sync/atomic.CompareAndSwapPointer", "sync/atomic.StoreUint32", "sync/atomic.LoadUint32", "sync/atomic.StorePointer", "sync/atomic.LoadUint64", "sync/atomic.CompareAndSwapUint64"], unfollowed := true, recurses := true, named := ["math/bits.deBruijn64tab"], apart := false, laid := [("math/bits.deBruijn64tab", laid_math_bits_deBruijn64tab)] }
def AtomLinearSaid : Prop := atomLinearRow.holds Tryd.pinned (OpenSpec.ofChange atomLinearSpec)

/-- ITS FALSE NEIGHBOUR: 'it returns false'. Refute it at one input. -/
def atomLinearWrong : ChangeSpec := { name := "atomLinear", fn := fun _ => fun
  | [d1, d2] => { results := [.lit (.bool false)], args := [d1, d2] }
  | _ => none }
def AtomLinearWrongFalsely : Prop := atomLinearRow.holds Tryd.pinned (OpenSpec.ofChange atomLinearWrong)

/-- 'sextantlaw3.AtomAlone': WHATEVER THE INPUT: true; the input reads as it did. -/
def atomAloneSpec : ChangeSpec := { name := "atomAlone", fn := fun _ => fun
  | [d1, d2, d3, d4, d5] => { results := [.lit (.bool true)], args := [d1, d2, d3, d4, d5] }
  | _ => none }
def atomAloneRow : OpenClaim := { program := "ytjohknpmhlildaadoor", sum := "d49276b35b6b30f8782ae7584b5f5fe79de22ad2e42721ec781cd4135d72fc41", func := "sextant/sextantlaw3.AtomAlone", spec := "atomAlone", inPlace := ["sync/atomic.LoadPointer", "sync/atomic.CompareAndSwapPointer", "sync/atomic.StoreUint32", "sync/atomic.LoadUint32", "sync/atomic.StorePointer", "sync/atomic.LoadUint64", "sync/atomic.CompareAndSwapUint64"], unfollowed := true, recurses := true, named := ["math/bits.deBruijn64tab"], apart := false, laid := [("math/bits.deBruijn64tab", laid_math_bits_deBruijn64tab)] }
def AtomAloneSaid : Prop := atomAloneRow.holds Tryd.pinned (OpenSpec.ofChange atomAloneSpec)

/-- ITS FALSE NEIGHBOUR: 'it returns false'. Refute it at one input. -/
def atomAloneWrong : ChangeSpec := { name := "atomAlone", fn := fun _ => fun
  | [d1, d2, d3, d4, d5] => { results := [.lit (.bool false)], args := [d1, d2, d3, d4, d5] }
  | _ => none }
def AtomAloneWrongFalsely : Prop := atomAloneRow.holds Tryd.pinned (OpenSpec.ofChange atomAloneWrong)

/-- 'sextantlaw3.AtomBounds': WHATEVER THE INPUT: true; the input reads as it did. -/
def atomBoundsSpec : ChangeSpec := { name := "atomBounds", fn := fun _ => fun
  | [d1, d2, d3] => { results := [.lit (.bool true)], args := [d1, d2, d3] }
  | _ => none }
def atomBoundsRow : OpenClaim := { program := "ytjohknpmhlildaadoor", sum := "d49276b35b6b30f8782ae7584b5f5fe79de22ad2e42721ec781cd4135d72fc41", func := "sextant/sextantlaw3.AtomBounds", spec := "atomBounds", inPlace := ["sync/atomic.LoadPointer", "sync/atomic.CompareAndSwapPointer", "sync/atomic.StoreUint32", "sync/atomic.LoadUint32", "sync/atomic.StorePointer", "sync/atomic.LoadUint64", "sync/atomic.CompareAndSwapUint64"], unfollowed := true, recurses := true, named := ["math/bits.deBruijn64tab"], apart := false, laid := [("math/bits.deBruijn64tab", laid_math_bits_deBruijn64tab)] }
def AtomBoundsSaid : Prop := atomBoundsRow.holds Tryd.pinned (OpenSpec.ofChange atomBoundsSpec)

/-- ITS FALSE NEIGHBOUR: 'it returns false'. Refute it at one input. -/
def atomBoundsWrong : ChangeSpec := { name := "atomBounds", fn := fun _ => fun
  | [d1, d2, d3] => { results := [.lit (.bool false)], args := [d1, d2, d3] }
  | _ => none }
def AtomBoundsWrongFalsely : Prop := atomBoundsRow.holds Tryd.pinned (OpenSpec.ofChange atomBoundsWrong)

/-- 'sextantlaw3.AtomPicks': WHATEVER THE INPUT: true; the input reads as it did. -/
def atomPicksSpec : ChangeSpec := { name := "atomPicks", fn := fun _ => fun
  | [d1, d2, d3] => { results := [.lit (.bool true)], args := [d1, d2, d3] }
  | _ => none }
def atomPicksRow : OpenClaim := { program := "ytjohknpmhlildaadoor", sum := "d49276b35b6b30f8782ae7584b5f5fe79de22ad2e42721ec781cd4135d72fc41", func := "sextant/sextantlaw3.AtomPicks", spec := "atomPicks", inPlace := ["sync/atomic.LoadPointer", "sync/atomic.CompareAndSwapPointer", "sync/atomic.StoreUint32", "sync/atomic.LoadUint32", "sync/atomic.StorePointer", "sync/atomic.LoadUint64", "sync/atomic.CompareAndSwapUint64"], unfollowed := true, recurses := true, named := ["math/bits.deBruijn64tab"], apart := false, laid := [("math/bits.deBruijn64tab", laid_math_bits_deBruijn64tab)] }
def AtomPicksSaid : Prop := atomPicksRow.holds Tryd.pinned (OpenSpec.ofChange atomPicksSpec)

/-- ITS FALSE NEIGHBOUR: 'it returns false'. Refute it at one input. -/
def atomPicksWrong : ChangeSpec := { name := "atomPicks", fn := fun _ => fun
  | [d1, d2, d3] => { results := [.lit (.bool false)], args := [d1, d2, d3] }
  | _ => none }
def AtomPicksWrongFalsely : Prop := atomPicksRow.holds Tryd.pinned (OpenSpec.ofChange atomPicksWrong)

/- THE SECOND FORM. 'bulk': how many values and letters a reading holds, each counted each time it is reached (what is shared counts as often as it is met; a slice's spare places count too). A statement '..UptoSaid' is the law's where the arguments, and the package variables that the reading takes, are together of bulk at most 1048576: NARROWER than '..Said'. Prove '..Said' where nothing that the law and all that it calls make is longer than what came in: it says more and counts as full. Else prove '..UptoSaid'. A law counts once. -/
mutual
def uptoBulk {H : Type} : DataW H → Nat
  | .lit (.string bytes) => bytes.length + 1
  | .lit _ => 1
  | .nil => 1
  | .ptr d => uptoBulk d + 1
  | .slice elems spare => uptoBulkAll elems + uptoBulkAll spare + 1
  | .agg parts => uptoBulkAll parts + 1
  | .iface _ d => uptoBulk d + 1
  | .map entries => uptoBulkEntries entries + 1
  | .held _ => 1
def uptoBulkAll {H : Type} : List (DataW H) → Nat
  | [] => 0
  | d :: r => uptoBulk d + uptoBulkAll r
def uptoBulkEntries {H : Type} : List (Lit × DataW H) → Nat
  | [] => 0
  | x :: r => uptoBulkEntry x + uptoBulkEntries r
def uptoBulkEntry {H : Type} : Lit × DataW H → Nat
  | (.string bytes, d) => bytes.length + uptoBulk d + 1
  | (_, d) => uptoBulk d + 1
 end
def uptoSmall : (H : Type) → List (DataW H) → Bool := fun _ ds => decide (uptoBulkAll ds ≤ 1048576)
def OpenSpec.upto (s : _root_.Go.ChangeSpec) : _root_.Go.OpenSpec := { _root_.Go.OpenSpec.ofChange s with cond := some uptoSmall }

/-- 'sextantlaw3.AtomPlays', WHERE WHAT IT READS IS OF BULK AT MOST 1048576: true; the input reads as it did. -/
def atomPlaysUptoRow : OpenClaim := { program := "ytjohknpmhlildaadoor", sum := "d49276b35b6b30f8782ae7584b5f5fe79de22ad2e42721ec781cd4135d72fc41", func := "sextant/sextantlaw3.AtomPlays", spec := "atomPlays", inPlace := ["sync/atomic.LoadPointer", "sync/atomic.CompareAndSwapPointer", "sync/atomic.StoreUint32", "sync/atomic.LoadUint32", "sync/atomic.StorePointer", "sync/atomic.LoadUint64", "sync/atomic.CompareAndSwapUint64"], unfollowed := true, recurses := true, named := ["math/bits.deBruijn64tab"], apart := false, laid := [("math/bits.deBruijn64tab", laid_math_bits_deBruijn64tab)], narrowed := true }
def AtomPlaysUptoSaid : Prop := atomPlaysUptoRow.holds Tryd.pinned (OpenSpec.upto atomPlaysSpec)

/-- 'sextantlaw3.AtomLinear', WHERE WHAT IT READS IS OF BULK AT MOST 1048576: true; the input reads as it did. -/
def atomLinearUptoRow : OpenClaim := { program := "ytjohknpmhlildaadoor", sum := "d49276b35b6b30f8782ae7584b5f5fe79de22ad2e42721ec781cd4135d72fc41", func := "sextant/sextantlaw3.AtomLinear", spec := "atomLinear", inPlace := ["sync/atomic.LoadPointer", "sync/atomic.CompareAndSwapPointer", "sync/atomic.StoreUint32", "sync/atomic.LoadUint32", "sync/atomic.StorePointer", "sync/atomic.LoadUint64", "sync/atomic.CompareAndSwapUint64"], unfollowed := true, recurses := true, named := ["math/bits.deBruijn64tab"], apart := false, laid := [("math/bits.deBruijn64tab", laid_math_bits_deBruijn64tab)], narrowed := true }
def AtomLinearUptoSaid : Prop := atomLinearUptoRow.holds Tryd.pinned (OpenSpec.upto atomLinearSpec)

/-- 'sextantlaw3.AtomAlone', WHERE WHAT IT READS IS OF BULK AT MOST 1048576: true; the input reads as it did. -/
def atomAloneUptoRow : OpenClaim := { program := "ytjohknpmhlildaadoor", sum := "d49276b35b6b30f8782ae7584b5f5fe79de22ad2e42721ec781cd4135d72fc41", func := "sextant/sextantlaw3.AtomAlone", spec := "atomAlone", inPlace := ["sync/atomic.LoadPointer", "sync/atomic.CompareAndSwapPointer", "sync/atomic.StoreUint32", "sync/atomic.LoadUint32", "sync/atomic.StorePointer", "sync/atomic.LoadUint64", "sync/atomic.CompareAndSwapUint64"], unfollowed := true, recurses := true, named := ["math/bits.deBruijn64tab"], apart := false, laid := [("math/bits.deBruijn64tab", laid_math_bits_deBruijn64tab)], narrowed := true }
def AtomAloneUptoSaid : Prop := atomAloneUptoRow.holds Tryd.pinned (OpenSpec.upto atomAloneSpec)

/-- 'sextantlaw3.AtomBounds', WHERE WHAT IT READS IS OF BULK AT MOST 1048576: true; the input reads as it did. -/
def atomBoundsUptoRow : OpenClaim := { program := "ytjohknpmhlildaadoor", sum := "d49276b35b6b30f8782ae7584b5f5fe79de22ad2e42721ec781cd4135d72fc41", func := "sextant/sextantlaw3.AtomBounds", spec := "atomBounds", inPlace := ["sync/atomic.LoadPointer", "sync/atomic.CompareAndSwapPointer", "sync/atomic.StoreUint32", "sync/atomic.LoadUint32", "sync/atomic.StorePointer", "sync/atomic.LoadUint64", "sync/atomic.CompareAndSwapUint64"], unfollowed := true, recurses := true, named := ["math/bits.deBruijn64tab"], apart := false, laid := [("math/bits.deBruijn64tab", laid_math_bits_deBruijn64tab)], narrowed := true }
def AtomBoundsUptoSaid : Prop := atomBoundsUptoRow.holds Tryd.pinned (OpenSpec.upto atomBoundsSpec)

/-- 'sextantlaw3.AtomPicks', WHERE WHAT IT READS IS OF BULK AT MOST 1048576: true; the input reads as it did. -/
def atomPicksUptoRow : OpenClaim := { program := "ytjohknpmhlildaadoor", sum := "d49276b35b6b30f8782ae7584b5f5fe79de22ad2e42721ec781cd4135d72fc41", func := "sextant/sextantlaw3.AtomPicks", spec := "atomPicks", inPlace := ["sync/atomic.LoadPointer", "sync/atomic.CompareAndSwapPointer", "sync/atomic.StoreUint32", "sync/atomic.LoadUint32", "sync/atomic.StorePointer", "sync/atomic.LoadUint64", "sync/atomic.CompareAndSwapUint64"], unfollowed := true, recurses := true, named := ["math/bits.deBruijn64tab"], apart := false, laid := [("math/bits.deBruijn64tab", laid_math_bits_deBruijn64tab)], narrowed := true }
def AtomPicksUptoSaid : Prop := atomPicksUptoRow.holds Tryd.pinned (OpenSpec.upto atomPicksSpec)

end Rows
end Go.Proofs.YtjohknpmhlildaaDoor
