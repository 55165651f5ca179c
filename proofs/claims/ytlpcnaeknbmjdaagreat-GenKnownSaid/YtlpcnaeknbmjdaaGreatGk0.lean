/-
  GenKnown: a thread's instructions.
-/
import Derived.Test.YtlpcnaeknbmjdaaGreatGkH
namespace Go.Proofs.YtlpcnaeknbmjdaaGreat
set_option linter.unusedVariables false
set_option linter.unusedSimpArgs false
open Go Go.RowKit
open Sy (Let Blk)

set_option maxRecDepth 1000000 in
noncomputable def th0_o : Sy.O := (Sy.O.pack 120 0x10000000001000000802000000080420001010002008000ef311061000000001708c41bc0027b80d0058b00549009070180129001188000810010400000001006300020000000000000c60 (Sy.O.pack 71 0x1405814002c003000001c070000001c0318007000c0000000000401400000004802008002000401004000000 (Sy.O.steps [4626] (Sy.O.pack 120 0x18000000000180013d63104000000003c410bd073002520c400040b08001000000000038004000200000100000000800100000000000801000000400300000000000002004000000000020 (Sy.O.pack 31 0x802808048c410140900483104000346200000 (Sy.O.steps [129] (Sy.O.pack 29 0x39440080e04006008820001020000200000 (Sy.O.steps [322] (Sy.O.pack 120 0x4600842f5800a4a0e6004a4000620816300000180a0004000000008000000000000400000000000000000000000000000000000018000000000000000000000000000000000802000000 (Sy.O.pack 21 0x2008000800104001000000000 (Sy.O.steps [65] (Sy.O.pack 15 0x480200812008020 Sy.O.nil))))))))))))
def th0_ps : List Nat := [1]
noncomputable def th0_v (ns : List Sy.Let) : Value := Value.slice (some (Addr.mk (Sy.letN (0 : Nat) ns) (0 : Nat) none)) (1 : Nat) (Sy.letN (1 : Nat) ns)
noncomputable def th0_nw (ns : List Sy.Let) : List (Nat × Sy.Cont) := [(Sy.letN 0 ns, Sy.Cont.row (49 : Nat) (6 : Nat) (1 : Nat) (Sy.letN (1 : Nat) ns)
 [Value.int IntKind.i64 (34 : Int), Value.int IntKind.i64 (0 : Int), Value.int IntKind.i64 (0 : Int),
 Value.int IntKind.i64 (0 : Int), Value.int IntKind.i64 (0 : Int), Value.int IntKind.i64 (0 : Int)])]
set_option maxRecDepth 1000000 in
theorem th0_met : Sy.Meets Tryz.prog (Sy.graphC fThread #[.string tg0] [] (List.length th0_ps) th0_v th0_nw) :=
  Sy.meets_graphJ Sy.S0_holds gkH_holds mixed (n := 300) th0_ps (by decide) (o := th0_o) (fun ns => by kernel_rfl) (fun ns => by kernel_rfl)

end Go.Proofs.YtlpcnaeknbmjdaaGreat
