/-
  The reference's Expression: its loops.
-/
import Derived.Test.YtgaejhhipnpopaaLwX
namespace Go.Proofs.Ytgaejhhipnpopaa
set_option linter.unusedVariables false
set_option linter.unusedSimpArgs false
open Go Go.RowKit
open Sy (Let Blk)

abbrev fRX : FuncId := 47
abbrev tBool : TypeId := 4
noncomputable def bodyZ1 : Code := Sy.loopBody Try.f47 0
noncomputable def bodyZ2 : Code := Sy.loopBody Try.f47 1

/-- Which of n numbers stand in R. -/
def usedV (n : Nat) (R : List Nat) : List Value := (List.range n).map fun j => Value.bool (decide (j ∈ R))

def slZ1 (g o c gu n k : Nat) (loc : Int) : List (Nat × Value) := [(0, .slice (some ⟨g, o, none⟩) n c), (1, .int .i64 loc), (4, .bool false), (5, .slice (some ⟨gu, 0, none⟩) n n), (6, .int .i64 k)]
def slZ2 (g o c gu n k : Nat) : List (Nat × Value) := [(0, .slice (some ⟨g, o, none⟩) n c), (4, .bool false), (5, .slice (some ⟨gu, 0, none⟩) n n), (8, .int .i64 k)]

def z1_o : Sy.O := (Sy.O.fork (Sy.O.steps [1, 0, 1, 1, 1, 1, 1, 1, 0, 0, 0, 0, 0, 1, 0, 0] (Sy.O.fork (Sy.O.steps [0, 0] (Sy.O.fork (Sy.O.steps [0, 0, 0, 0, 0, 0, 0, 0] Sy.O.nil) (Sy.O.steps [0, 0, 0, 0] (Sy.O.fork (Sy.O.steps [0, 0, 0, 0, 0] Sy.O.nil) (Sy.O.steps [0, 0, 0, 0, 0] (Sy.O.fork (Sy.O.steps [0, 0, 0, 0, 0, 0, 0] (Sy.O.fork Sy.O.nil Sy.O.nil)) (Sy.O.steps [0, 0, 0, 0, 0, 0] Sy.O.nil))))))) (Sy.O.steps [0, 0, 1, 0, 0, 1, 0, 0, 1, 0, 0, 1, 0, 0] (Sy.O.fork (Sy.O.steps [0, 0, 0, 0, 0] Sy.O.nil) (Sy.O.steps [0, 0, 0, 0, 0, 1, 0, 2, 1, 1, 1] (Sy.O.fork Sy.O.nil (Sy.O.steps [0, 0, 1, 2, 0, 1, 0, 0] (Sy.O.fork (Sy.O.steps [0, 0] (Sy.O.fork Sy.O.nil Sy.O.nil)) (Sy.O.steps [0, 0, 1, 0, 0] (Sy.O.fork (Sy.O.steps [0, 0, 0, 0, 0] Sy.O.nil) (Sy.O.steps [0, 0, 0, 0, 0, 1, 0, 2, 1, 1, 1] (Sy.O.fork Sy.O.nil (Sy.O.steps [0, 0, 1, 2, 0, 1] Sy.O.nil))))))))))))) Sy.O.nil)
noncomputable def z1_R (g : Nat) (o : Nat) (c : Nat) (gu : Nat) (n : Nat) (k : Nat) (loc : Int) (xs : List Value) (us : List Value) (rest : List Value) (ns : Nat → Sy.Let) : Sy.Res (Exit × Nat × List Value × List Blk) := Sy.Res.br (Ex.ltQ (↑k : Int) (↑n : Int))
 (Sy.Res.need ((0 : Int) ≤ (↑k : Int) ∧ (↑k : Int) < (↑n : Int))
 (Sy.Res.need
 (∃ (i : Int),
 Sy.Cont.at (Sy.Cont.seg o xs) (o + Int.toNat (↑k : Int) * (4 : Nat)) = some (Value.int IntKind.i64 i))
 (Sy.Res.hyp
 (Sy.Cont.at (Sy.Cont.seg o xs) (o + Int.toNat (↑k : Int) * (4 : Nat)) =
 some (Value.int IntKind.i64 (Let.i (ns (0 : Nat)))))
 (Sy.Res.need
 (∃ (i : Int),
 Sy.Cont.at (Sy.Cont.seg o xs) (o + Int.toNat (↑k : Int) * (4 : Nat) + (1 : Nat)) =
 some (Value.int IntKind.u64 i))
 (Sy.Res.hyp
 (Sy.Cont.at (Sy.Cont.seg o xs) (o + Int.toNat (↑k : Int) * (4 : Nat) + (1 : Nat)) =
 some (Value.int IntKind.u64 (Let.i (ns (1 : Nat)))))
 (Sy.Res.need
 (∃ (i : Int),
 Sy.Cont.at (Sy.Cont.seg o xs) (o + Int.toNat (↑k : Int) * (4 : Nat) + (1 : Nat) + (1 : Nat)) =
 some (Value.int IntKind.i64 i))
 (Sy.Res.hyp
 (Sy.Cont.at (Sy.Cont.seg o xs) (o + Int.toNat (↑k : Int) * (4 : Nat) + (1 : Nat) + (1 : Nat)) =
 some (Value.int IntKind.i64 (Let.i (ns (2 : Nat)))))
 (Sy.Res.need
 (∃ (i : Int),
 Sy.Cont.at (Sy.Cont.seg o xs)
 (o + Int.toNat (↑k : Int) * (4 : Nat) + (1 : Nat) + (1 : Nat) + (1 : Nat)) =
 some (Value.int IntKind.i64 i))
 (Sy.Res.hyp
 (Sy.Cont.at (Sy.Cont.seg o xs)
 (o + Int.toNat (↑k : Int) * (4 : Nat) + (1 : Nat) + (1 : Nat) + (1 : Nat)) =
 some (Value.int IntKind.i64 (Let.i (ns (3 : Nat)))))
 (Sy.Res.br
 (bif Ex.eqQ (Let.i (ns (0 : Nat))) (1 : Int) then true
 else Ex.eqQ (Let.i (ns (0 : Nat))) (2 : Int))
 (Sy.Res.br (!Ex.eqQ (Let.i (ns (2 : Nat))) (0 : Int))
 (Sy.Res.leaf
 (Exit.ret, (131 : Nat),
 [Value.slice (some (Addr.mk g o none)) n c, Value.int IntKind.i64 loc, Value.bool false,
 Value.slice (some (Addr.mk gu (0 : Nat) none)) n n, Value.int IntKind.i64 (↑k : Int)],
 [Blk.mk (Let.n (ns (4 : Nat)))
 (Sy.Cont.obj
 (Obj.cells
 (Array.mk
 [Value.int IntKind.i64 (Let.i (ns (0 : Nat))),
 Value.int IntKind.u64 (Let.i (ns (1 : Nat))),
 Value.int IntKind.i64 (Let.i (ns (2 : Nat))),
 Value.int IntKind.i64 (Let.i (ns (3 : Nat)))])
 (33 : Nat)))
 true,
 Blk.mk g (Sy.Cont.seg o xs) false,
 Blk.mk gu (Sy.Cont.row (4 : Nat) (1 : Nat) n n us) true]))
 (Sy.Res.br (bif false then true else !Ex.eqQ (Let.i (ns (3 : Nat))) (0 : Int))
 (Sy.Res.leaf
 (Exit.ret, (131 : Nat),
 [Value.slice (some (Addr.mk g o none)) n c, Value.int IntKind.i64 loc, Value.bool false,
 Value.slice (some (Addr.mk gu (0 : Nat) none)) n n, Value.int IntKind.i64 (↑k : Int)],
 [Blk.mk (Let.n (ns (4 : Nat)))
 (Sy.Cont.obj
 (Obj.cells
 (Array.mk
 [Value.int IntKind.i64 (Let.i (ns (0 : Nat))),
 Value.int IntKind.u64 (Let.i (ns (1 : Nat))),
 Value.int IntKind.i64 (Let.i (ns (2 : Nat))),
 Value.int IntKind.i64 (Let.i (ns (3 : Nat)))])
 (33 : Nat)))
 true,
 Blk.mk g (Sy.Cont.seg o xs) false,
 Blk.mk gu (Sy.Cont.row (4 : Nat) (1 : Nat) n n us) true]))
 (Sy.Res.br (Ex.eqQ (Let.i (ns (0 : Nat))) (2 : Int))
 (Sy.Res.br
 (bif false then true
 else bif true then Ex.leQ (Ex.wrapQ IntKind.u64 loc) (Let.i (ns (1 : Nat))) else false)
 (Sy.Res.leaf
 (Exit.ret, (131 : Nat),
 [Value.slice (some (Addr.mk g o none)) n c, Value.int IntKind.i64 loc,
 Value.bool false, Value.slice (some (Addr.mk gu (0 : Nat) none)) n n,
 Value.int IntKind.i64 (↑k : Int)],
 [Blk.mk (Let.n (ns (4 : Nat)))
 (Sy.Cont.obj
 (Obj.cells
 (Array.mk
 [Value.int IntKind.i64 (Let.i (ns (0 : Nat))),
 Value.int IntKind.u64 (Let.i (ns (1 : Nat))),
 Value.int IntKind.i64 (Let.i (ns (2 : Nat))),
 Value.int IntKind.i64 (Let.i (ns (3 : Nat)))])
 (33 : Nat)))
 true,
 Blk.mk g (Sy.Cont.seg o xs) false,
 Blk.mk gu (Sy.Cont.row (4 : Nat) (1 : Nat) n n us) true]))
 (Sy.Res.leaf
 (Exit.normal, (131 : Nat),
 [Value.slice (some (Addr.mk g o none)) n c, Value.int IntKind.i64 loc,
 Value.bool false, Value.slice (some (Addr.mk gu (0 : Nat) none)) n n,
 Value.int IntKind.i64 (Ex.wrapQ IntKind.i64 (Ex.addQ (↑k : Int) (1 : Int)))],
 [Blk.mk (Let.n (ns (4 : Nat)))
 (Sy.Cont.obj
 (Obj.cells
 (Array.mk
 [Value.int IntKind.i64 (Let.i (ns (0 : Nat))),
 Value.int IntKind.u64 (Let.i (ns (1 : Nat))),
 Value.int IntKind.i64 (Let.i (ns (2 : Nat))),
 Value.int IntKind.i64 (Let.i (ns (3 : Nat)))])
 (33 : Nat)))
 true,
 Blk.mk g (Sy.Cont.seg o xs) false,
 Blk.mk gu (Sy.Cont.row (4 : Nat) (1 : Nat) n n us) true])))
 (Sy.Res.leaf
 (Exit.normal, (131 : Nat),
 [Value.slice (some (Addr.mk g o none)) n c, Value.int IntKind.i64 loc, Value.bool false,
 Value.slice (some (Addr.mk gu (0 : Nat) none)) n n,
 Value.int IntKind.i64 (Ex.wrapQ IntKind.i64 (Ex.addQ (↑k : Int) (1 : Int)))],
 [Blk.mk (Let.n (ns (4 : Nat)))
 (Sy.Cont.obj
 (Obj.cells
 (Array.mk
 [Value.int IntKind.i64 (Let.i (ns (0 : Nat))),
 Value.int IntKind.u64 (Let.i (ns (1 : Nat))),
 Value.int IntKind.i64 (Let.i (ns (2 : Nat))),
 Value.int IntKind.i64 (Let.i (ns (3 : Nat)))])
 (33 : Nat)))
 true,
 Blk.mk g (Sy.Cont.seg o xs) false,
 Blk.mk gu (Sy.Cont.row (4 : Nat) (1 : Nat) n n us) true])))))
 (Sy.Res.br
 (bif
 bif
 bif
 bif Ex.ltQ (Let.i (ns (0 : Nat))) (1 : Int) then true
 else Ex.ltQ (19 : Int) (Let.i (ns (0 : Nat))) then
 true
 else !Ex.eqQ (Let.i (ns (1 : Nat))) (0 : Int) then
 true
 else Ex.ltQ (Let.i (ns (2 : Nat))) (0 : Int) then
 true
 else Ex.leQ (↑k : Int) (Let.i (ns (2 : Nat))))
 (Sy.Res.leaf
 (Exit.ret, (131 : Nat),
 [Value.slice (some (Addr.mk g o none)) n c, Value.int IntKind.i64 loc, Value.bool false,
 Value.slice (some (Addr.mk gu (0 : Nat) none)) n n, Value.int IntKind.i64 (↑k : Int)],
 [Blk.mk (Let.n (ns (4 : Nat)))
 (Sy.Cont.obj
 (Obj.cells
 (Array.mk
 [Value.int IntKind.i64 (Let.i (ns (0 : Nat))),
 Value.int IntKind.u64 (Let.i (ns (1 : Nat))),
 Value.int IntKind.i64 (Let.i (ns (2 : Nat))),
 Value.int IntKind.i64 (Let.i (ns (3 : Nat)))])
 (33 : Nat)))
 true,
 Blk.mk g (Sy.Cont.seg o xs) false,
 Blk.mk gu (Sy.Cont.row (4 : Nat) (1 : Nat) n n us) true]))
 (Sy.Res.need ((0 : Int) ≤ Let.i (ns (2 : Nat)) ∧ Let.i (ns (2 : Nat)) < (↑n : Int))
 (Sy.Res.need
 (∃ (b : Bool),
 Sy.Cont.at (Sy.Cont.row (4 : Nat) (1 : Nat) n n us)
 ((0 : Nat) + Int.toNat (Let.i (ns (2 : Nat))) * (1 : Nat)) =
 some (Value.bool b))
 (Sy.Res.hyp
 (Sy.Cont.at (Sy.Cont.row (4 : Nat) (1 : Nat) n n us)
 ((0 : Nat) + Int.toNat (Let.i (ns (2 : Nat))) * (1 : Nat)) =
 some (Value.bool (Let.b (ns (5 : Nat)))))
 (Sy.Res.br (bif false then true else Let.b (ns (5 : Nat)))
 (Sy.Res.leaf
 (Exit.ret, (131 : Nat),
 [Value.slice (some (Addr.mk g o none)) n c, Value.int IntKind.i64 loc,
 Value.bool false, Value.slice (some (Addr.mk gu (0 : Nat) none)) n n,
 Value.int IntKind.i64 (↑k : Int)],
 [Blk.mk (Let.n (ns (4 : Nat)))
 (Sy.Cont.obj
 (Obj.cells
 (Array.mk
 [Value.int IntKind.i64 (Let.i (ns (0 : Nat))),
 Value.int IntKind.u64 (Let.i (ns (1 : Nat))),
 Value.int IntKind.i64 (Let.i (ns (2 : Nat))),
 Value.int IntKind.i64 (Let.i (ns (3 : Nat)))])
 (33 : Nat)))
 true,
 Blk.mk g (Sy.Cont.seg o xs) false,
 Blk.mk gu (Sy.Cont.row (4 : Nat) (1 : Nat) n n us) true]))
 (Sy.Res.need ((0 : Int) ≤ Let.i (ns (2 : Nat)) ∧ Let.i (ns (2 : Nat)) < (↑n : Int))
 (Sy.Res.need
 ((0 : Nat) + Int.toNat (Let.i (ns (2 : Nat))) * (1 : Nat) < List.length us)
 (Sy.Res.br (Ex.leQ (Let.i (ns (0 : Nat))) (5 : Int))
 (Sy.Res.br (!Ex.eqQ (Let.i (ns (3 : Nat))) (0 : Int))
 (Sy.Res.leaf
 (Exit.ret, (131 : Nat),
 [Value.slice (some (Addr.mk g o none)) n c, Value.int IntKind.i64 loc,
 Value.bool false, Value.slice (some (Addr.mk gu (0 : Nat) none)) n n,
 Value.int IntKind.i64 (↑k : Int)],
 [Blk.mk (Let.n (ns (4 : Nat)))
 (Sy.Cont.obj
 (Obj.cells
 (Array.mk
 [Value.int IntKind.i64 (Let.i (ns (0 : Nat))),
 Value.int IntKind.u64 (Let.i (ns (1 : Nat))),
 Value.int IntKind.i64 (Let.i (ns (2 : Nat))),
 Value.int IntKind.i64 (Let.i (ns (3 : Nat)))])
 (33 : Nat)))
 true,
 Blk.mk g (Sy.Cont.seg o xs) false,
 Blk.mk gu
 (Sy.Cont.row (4 : Nat) (1 : Nat) n n
 (List.set us
 ((0 : Nat) + Int.toNat (Let.i (ns (2 : Nat))) * (1 : Nat))
 (Value.bool true)))
 true]))
 (Sy.Res.leaf
 (Exit.normal, (131 : Nat),
 [Value.slice (some (Addr.mk g o none)) n c, Value.int IntKind.i64 loc,
 Value.bool false, Value.slice (some (Addr.mk gu (0 : Nat) none)) n n,
 Value.int IntKind.i64
 (Ex.wrapQ IntKind.i64 (Ex.addQ (↑k : Int) (1 : Int)))],
 [Blk.mk (Let.n (ns (4 : Nat)))
 (Sy.Cont.obj
 (Obj.cells
 (Array.mk
 [Value.int IntKind.i64 (Let.i (ns (0 : Nat))),
 Value.int IntKind.u64 (Let.i (ns (1 : Nat))),
 Value.int IntKind.i64 (Let.i (ns (2 : Nat))),
 Value.int IntKind.i64 (Let.i (ns (3 : Nat)))])
 (33 : Nat)))
 true,
 Blk.mk g (Sy.Cont.seg o xs) false,
 Blk.mk gu
 (Sy.Cont.row (4 : Nat) (1 : Nat) n n
 (List.set us
 ((0 : Nat) + Int.toNat (Let.i (ns (2 : Nat))) * (1 : Nat))
 (Value.bool true)))
 true])))
 (Sy.Res.br
 (bif Ex.ltQ (Let.i (ns (3 : Nat))) (0 : Int) then true
 else Ex.leQ (↑k : Int) (Let.i (ns (3 : Nat))))
 (Sy.Res.leaf
 (Exit.ret, (131 : Nat),
 [Value.slice (some (Addr.mk g o none)) n c, Value.int IntKind.i64 loc,
 Value.bool false, Value.slice (some (Addr.mk gu (0 : Nat) none)) n n,
 Value.int IntKind.i64 (↑k : Int)],
 [Blk.mk (Let.n (ns (4 : Nat)))
 (Sy.Cont.obj
 (Obj.cells
 (Array.mk
 [Value.int IntKind.i64 (Let.i (ns (0 : Nat))),
 Value.int IntKind.u64 (Let.i (ns (1 : Nat))),
 Value.int IntKind.i64 (Let.i (ns (2 : Nat))),
 Value.int IntKind.i64 (Let.i (ns (3 : Nat)))])
 (33 : Nat)))
 true,
 Blk.mk g (Sy.Cont.seg o xs) false,
 Blk.mk gu
 (Sy.Cont.row (4 : Nat) (1 : Nat) n n
 (List.set us
 ((0 : Nat) + Int.toNat (Let.i (ns (2 : Nat))) * (1 : Nat))
 (Value.bool true)))
 true]))
 (Sy.Res.need
 ((0 : Int) ≤ Let.i (ns (3 : Nat)) ∧ Let.i (ns (3 : Nat)) < (↑n : Int))
 (Sy.Res.need
 (∃ (b : Bool),
 Sy.Cont.at
 (Sy.Cont.row (4 : Nat) (1 : Nat) n n
 (List.set us
 ((0 : Nat) + Int.toNat (Let.i (ns (2 : Nat))) * (1 : Nat))
 (Value.bool true)))
 ((0 : Nat) + Int.toNat (Let.i (ns (3 : Nat))) * (1 : Nat)) =
 some (Value.bool b))
 (Sy.Res.hyp
 (Sy.Cont.at
 (Sy.Cont.row (4 : Nat) (1 : Nat) n n
 (List.set us
 ((0 : Nat) + Int.toNat (Let.i (ns (2 : Nat))) * (1 : Nat))
 (Value.bool true)))
 ((0 : Nat) + Int.toNat (Let.i (ns (3 : Nat))) * (1 : Nat)) =
 some (Value.bool (Let.b (ns (6 : Nat)))))
 (Sy.Res.br (bif false then true else Let.b (ns (6 : Nat)))
 (Sy.Res.leaf
 (Exit.ret, (131 : Nat),
 [Value.slice (some (Addr.mk g o none)) n c,
 Value.int IntKind.i64 loc, Value.bool false,
 Value.slice (some (Addr.mk gu (0 : Nat) none)) n n,
 Value.int IntKind.i64 (↑k : Int)],
 [Blk.mk (Let.n (ns (4 : Nat)))
 (Sy.Cont.obj
 (Obj.cells
 (Array.mk
 [Value.int IntKind.i64 (Let.i (ns (0 : Nat))),
 Value.int IntKind.u64 (Let.i (ns (1 : Nat))),
 Value.int IntKind.i64 (Let.i (ns (2 : Nat))),
 Value.int IntKind.i64 (Let.i (ns (3 : Nat)))])
 (33 : Nat)))
 true,
 Blk.mk g (Sy.Cont.seg o xs) false,
 Blk.mk gu
 (Sy.Cont.row (4 : Nat) (1 : Nat) n n
 (List.set us
 ((0 : Nat) + Int.toNat (Let.i (ns (2 : Nat))) * (1 : Nat))
 (Value.bool true)))
 true]))
 (Sy.Res.need
 ((0 : Int) ≤ Let.i (ns (3 : Nat)) ∧ Let.i (ns (3 : Nat)) < (↑n : Int))
 (Sy.Res.need
 ((0 : Nat) + Int.toNat (Let.i (ns (3 : Nat))) * (1 : Nat) <
 List.length
 (List.set us
 ((0 : Nat) + Int.toNat (Let.i (ns (2 : Nat))) * (1 : Nat))
 (Value.bool true)))
 (Sy.Res.leaf
 (Exit.normal, (131 : Nat),
 [Value.slice (some (Addr.mk g o none)) n c,
 Value.int IntKind.i64 loc, Value.bool false,
 Value.slice (some (Addr.mk gu (0 : Nat) none)) n n,
 Value.int IntKind.i64
 (Ex.wrapQ IntKind.i64 (Ex.addQ (↑k : Int) (1 : Int)))],
 [Blk.mk (Let.n (ns (4 : Nat)))
 (Sy.Cont.obj
 (Obj.cells
 (Array.mk
 [Value.int IntKind.i64 (Let.i (ns (0 : Nat))),
 Value.int IntKind.u64 (Let.i (ns (1 : Nat))),
 Value.int IntKind.i64 (Let.i (ns (2 : Nat))),
 Value.int IntKind.i64 (Let.i (ns (3 : Nat)))])
 (33 : Nat)))
 true,
 Blk.mk g (Sy.Cont.seg o xs) false,
 Blk.mk gu
 (Sy.Cont.row (4 : Nat) (1 : Nat) n n
 (List.set
 (List.set us
 ((0 : Nat) +
 Int.toNat (Let.i (ns (2 : Nat))) * (1 : Nat))
 (Value.bool true))
 ((0 : Nat) +
 Int.toNat (Let.i (ns (3 : Nat))) * (1 : Nat))
 (Value.bool true)))
 true])))))))))))))))))))))))))))
 (Sy.Res.leaf
 (Exit.exit (0 : Nat), (131 : Nat),
 [Value.slice (some (Addr.mk g o none)) n c, Value.int IntKind.i64 loc, Value.bool false,
 Value.slice (some (Addr.mk gu (0 : Nat) none)) n n, Value.int IntKind.i64 (↑k : Int)],
 [Blk.mk g (Sy.Cont.seg o xs) false, Blk.mk gu (Sy.Cont.row (4 : Nat) (1 : Nat) n n us) true]))
theorem z1_run (g o c gu n k : Nat) (loc : Int) (xs us : List Value) (rest : List Value) : Sy.Ran (Sy.pieceT Try.prog Sy.S0 50 fRX bodyZ1 131 (slZ1 g o c gu n k loc) rest [⟨g, .seg o xs, false⟩, ⟨gu, .row tBool 1 n n us, true⟩] [0, 1, 4, 5, 6]) z1_o (z1_R g o c gu n k loc xs us rest) := ⟨fun ns => by kernel_rfl, fun ns => by kernel_rfl⟩
def z2_o : Sy.O := (Sy.O.fork (Sy.O.steps [1, 0, 1, 1, 1] (Sy.O.fork Sy.O.nil Sy.O.nil)) Sy.O.nil)
noncomputable def z2_R (g : Nat) (o : Nat) (c : Nat) (gu : Nat) (n : Nat) (k : Nat) (us : List Value) (rest : List Value) (ns : Nat → Sy.Let) : Sy.Res (Exit × Nat × List Value × List Blk) := Sy.Res.br (Ex.ltQ (↑k : Int) (Ex.wrapQ IntKind.i64 (Ex.subQ' (↑n : Int) (1 : Int))))
 (Sy.Res.need ((0 : Int) ≤ (↑k : Int) ∧ (↑k : Int) < (↑n : Int))
 (Sy.Res.need
 (∃ (b : Bool),
 Sy.Cont.at (Sy.Cont.row (4 : Nat) (1 : Nat) n n us) ((0 : Nat) + Int.toNat (↑k : Int) * (1 : Nat)) =
 some (Value.bool b))
 (Sy.Res.hyp
 (Sy.Cont.at (Sy.Cont.row (4 : Nat) (1 : Nat) n n us) ((0 : Nat) + Int.toNat (↑k : Int) * (1 : Nat)) =
 some (Value.bool (Let.b (ns (0 : Nat)))))
 (Sy.Res.br (!Let.b (ns (0 : Nat)))
 (Sy.Res.leaf
 (Exit.ret, (131 : Nat),
 [Value.slice (some (Addr.mk g o none)) n c, Value.bool false,
 Value.slice (some (Addr.mk gu (0 : Nat) none)) n n, Value.int IntKind.i64 (↑k : Int)],
 [Blk.mk gu (Sy.Cont.row (4 : Nat) (1 : Nat) n n us) true]))
 (Sy.Res.leaf
 (Exit.normal, (131 : Nat),
 [Value.slice (some (Addr.mk g o none)) n c, Value.bool false,
 Value.slice (some (Addr.mk gu (0 : Nat) none)) n n,
 Value.int IntKind.i64 (Ex.wrapQ IntKind.i64 (Ex.addQ (↑k : Int) (1 : Int)))],
 [Blk.mk gu (Sy.Cont.row (4 : Nat) (1 : Nat) n n us) true]))))))
 (Sy.Res.leaf
 (Exit.exit (2 : Nat), (131 : Nat),
 [Value.slice (some (Addr.mk g o none)) n c, Value.bool false, Value.slice (some (Addr.mk gu (0 : Nat) none)) n n,
 Value.int IntKind.i64 (↑k : Int)],
 [Blk.mk gu (Sy.Cont.row (4 : Nat) (1 : Nat) n n us) true]))
theorem z2_run (g o c gu n k : Nat) (us : List Value) (rest : List Value) : Sy.Ran (Sy.pieceT Try.prog Sy.S0 50 fRX bodyZ2 131 (slZ2 g o c gu n k) rest [⟨gu, .row tBool 1 n n us, true⟩] [0, 4, 5, 8]) z2_o (z2_R g o c gu n k us rest) := ⟨fun ns => by kernel_rfl, fun ns => by kernel_rfl⟩

theorem usedV_length (n : Nat) (R : List Nat) : (usedV n R).length = n := by simp [usedV]
theorem usedV_nil (n : Nat) : usedV n [] = List.replicate n (.bool false) := by
  apply List.ext_getElem
  · simp [usedV]
  · intro i h1 h2
    simp [usedV]
theorem usedV_get {n a : Nat} (R : List Nat) (h : a < n) : (usedV n R)[a]? = some (.bool (decide (a ∈ R))) := by simp [usedV, h]
theorem usedV_at {n a : Nat} (R : List Nat) (h : a < n) (e : TypeId) (s m c : Nat) : (Sy.Cont.row e s m c (usedV n R)).at (0 + a * 1) = some (.bool (decide (a ∈ R))) := by
  rw [Nat.zero_add, Nat.mul_one]
  exact usedV_get R h
theorem usedV_set {n a : Nat} (R : List Nat) (h : a < n) : (usedV n R).set (0 + a * 1) (.bool true) = usedV n (R ++ [a]) := by
  rw [Nat.zero_add, Nat.mul_one]
  apply List.ext_getElem?
  intro j
  rw [List.getElem?_set]
  by_cases hj : j < n
  · rw [usedV_get _ hj, usedV_length]
    split
    · rename_i e
      subst e
      rw [usedV_get _ hj]
      simp
    · rename_i e
      rw [usedV_get _ hj]
      have : (j ∈ R ++ [a]) ↔ j ∈ R := by
        rw [List.mem_append, List.mem_singleton]
        exact ⟨fun h => h.elim id fun h => absurd h.symm e, .inl⟩
      simp only [this]
  · rw [List.getElem?_eq_none (by rw [usedV_length]; omega), List.getElem?_eq_none (by rw [usedV_length]; omega)]
    split
    · omega
    · rfl

/-- What the first loop looks for. -/
def treeOk (loc : Int) (l : List Nd) : Prop := nodesOk loc l ∧ (refs l).Nodup

theorem refs_pre {l : List Nd} (h : (refs l).Nodup) (k : Nat) : (refs (l.take k)).Nodup := by
  have : refs l = refs (l.take k) ++ refs (l.drop k) := by
    unfold refs
    rw [← List.flatMap_append, List.take_append_drop]
  rw [this] at h
  exact (List.nodup_append.1 h).1

noncomputable def loopZ1 (g o c gu : Nat) (l : List Nd) (loc : Int) : Sy.LoopC :=
  ⟨.loop bodyZ1, 131, slZ1 g o c gu l.length 0 loc, (0 ≤ loc ∧ loc ≤ 1000 ∧ goodN l) ∧ l.length ≤ 65536, ⟨[(g, .seg o (ndCells l))], [(gu, .row tBool 1 l.length l.length (List.replicate l.length (.bool false)))], 0⟩,
    [(⟨fun _ => treeOk loc l, fun _ => [(gu, .row tBool 1 l.length l.length (usedV l.length (refs l)))]⟩, .exit 0, fun _ => [(0, .slice (some ⟨g, o, none⟩) l.length c), (4, .bool false), (5, .slice (some ⟨gu, 0, none⟩) l.length l.length)]),
     (⟨fun _ => ¬ treeOk loc l, fun _ => []⟩, .ret, fun _ => [(4, .bool false)])]⟩

theorem loopZ1_met (g o c gu : Nat) (l : List Nd) (loc : Int) : Sy.MeetsL Try.prog (loopZ1 g o c gu l loc) := by
  refine Sy.loop_of (n := 50) (fn := fRX) Sy.S0_holds mixed (body := bodyZ1) rfl [0, 1, 4, 5, 6] (fun k : Nat => slZ1 g o c gu l.length k loc) (fun k => [⟨g, .seg o (ndCells l), false⟩, ⟨gu, .row tBool 1 l.length l.length (usedV l.length (refs (l.take k))), true⟩])
    (fun k => k ≤ l.length ∧ (∀ i n, i < k → l[i]? = some n → nodeOk loc i n) ∧ (refs (l.take k)).Nodup) (fun k => l.length - k)
    0 (fun h => ⟨Nat.zero_le _, fun i n hi => absurd hi (Nat.not_lt_zero i), List.nodup_nil⟩) (fun p hp => hp) [0, 1] (by decide) (by rw [List.take_zero, show refs [] = [] from rfl, usedV_nil]; rfl) (o := fun _ => z1_o) (R := fun k xs => z1_R g o c gu l.length k loc (ndCells l) (usedV l.length (refs (l.take k))) xs) (fun k xs _ => z1_run g o c gu l.length k loc (ndCells l) (usedV l.length (refs (l.take k))) xs) ?_
  rintro ⟨⟨hl0, hl1, hG⟩, hm⟩ k rest ⟨hk, hall, hnd⟩ ns
  have hw : Ex.wrapQ .u64 loc = loc := wrapU hl0 (by omega)
  simp only [z1_R, Sy.Res.holds, Sy.b_and, Sy.b_or, Sy.b_not, Sy.b_f, Sy.b_and', Sy.b_or', Sy.q_lt, Sy.q_le, Sy.q_eq, Sy.b_tt, Sy.b_ft, not_true_eq_false, not_false_eq_true, hw, false_or]
  refine ⟨fun hlt => ?_, fun hge => ?_⟩
  · have hlt : k < l.length := by omega
    have ea : l[k]? = some l[k] := List.getElem?_eq_getElem hlt
    have hxv : goodU l[k].val := hG _ (List.getElem_mem hlt)
    obtain ⟨a0, a1, a2, a3⟩ := nd_at ea o
    simp only [a0, a1, a2, a3, some_int, some_bool, exists_eq', true_and]
    generalize l[k] = x at *
    refine ⟨by omega, fun h0 h1 h2 h3 => ?_⟩
    simp only [← h0, ← h1, ← h2, ← h3]
    have hr := refs_take ea
    have bad : ¬ nodeOk loc k x → ¬ treeOk loc l := fun h h' => h (h'.1 k x ea)
    have dup : ∀ {R : List Nat}, R = refs (l.take k) ++ x.refs → ¬ R.Nodup → ¬ treeOk loc l := fun h hn h' => hn (by rw [h, ← hr]; exact refs_pre h'.2 _)
    have good : nodeOk loc k x → (refs (l.take k) ++ x.refs).Nodup → k + 1 ≤ l.length ∧ (∀ i n, i < k + 1 → l[i]? = some n → nodeOk loc i n) ∧ (refs (l.take (k + 1))).Nodup := fun h hn2 => ⟨by omega, fun i n hi hn => by
      rcases Nat.lt_succ_iff_lt_or_eq.1 hi with hi | rfl
      · exact hall i n hi hn
      · rw [ea] at hn
        injection hn with hn
        rw [← hn]; exact h, by rw [hr]; exact hn2⟩
    have inc := Sy.inc_q k (by omega)
    have fin : ∀ B R, R = refs (l.take k) ++ x.refs → nodeOk loc k x → R.Nodup → Sy.leafL (loopZ1 g o c gu l loc) [0, 1, 4, 5, 6] (fun k : Nat => slZ1 g o c gu l.length k loc) (fun k => [⟨g, .seg o (ndCells l), false⟩, ⟨gu, .row tBool 1 l.length l.length (usedV l.length (refs (l.take k))), true⟩])
        (fun k => k ≤ l.length ∧ (∀ i n, i < k → l[i]? = some n → nodeOk loc i n) ∧ (refs (l.take k)).Nodup) (fun k => l.length - k) k (Exit.normal, 131, [.slice (some ⟨g, o, none⟩) l.length c, .int .i64 loc, .bool false, .slice (some ⟨gu, 0, none⟩) l.length l.length, .int .i64 (Ex.wrapQ IntKind.i64 (Ex.addQ (↑k : Int) 1))],
          [B, ⟨g, .seg o (ndCells l), false⟩, ⟨gu, .row tBool 1 l.length l.length (usedV l.length R), true⟩]) := fun B R hR hx hn => by
      rw [hR, ← hr]
      exact Sy.leafL_next (k + 1) rfl (good hx (hR ▸ hn)) (by show l.length - (k + 1) < l.length - k; omega) (by rw [inc]; rfl) [1, 2] (by decide) rfl
    have out : ∀ L, ¬ treeOk loc l → Sy.leafL (loopZ1 g o c gu l loc) [0, 1, 4, 5, 6] (fun k : Nat => slZ1 g o c gu l.length k loc) (fun k => [⟨g, .seg o (ndCells l), false⟩, ⟨gu, .row tBool 1 l.length l.length (usedV l.length (refs (l.take k))), true⟩])
        (fun k => k ≤ l.length ∧ (∀ i n, i < k → l[i]? = some n → nodeOk loc i n) ∧ (refs (l.take k)).Nodup) (fun k => l.length - k) k (Exit.ret, 131, [.slice (some ⟨g, o, none⟩) l.length c, .int .i64 loc, .bool false, .slice (some ⟨gu, 0, none⟩) l.length l.length, .int .i64 (↑k : Int)], L) := fun L h =>
      Sy.leafL_end 1 rfl rfl (by simp) rfl [] rfl [2] rfl [] List.nodup_nil trivial h
    unfold goodU at hxv
    refine ⟨fun c1 => ⟨fun r => out _ (bad (by unfold nodeOk; omega)), fun r => ⟨fun r' => out _ (bad (by unfold nodeOk; omega)), fun r' => ⟨fun c2 => ⟨fun r2 => out _ (bad (by unfold nodeOk; omega)), fun r2 => fin _ _ ?_ ?_ hnd⟩, fun c2 => fin _ _ ?_ ?_ hnd⟩⟩⟩,
      fun c1 => ⟨fun r => out _ (bad (by unfold nodeOk; omega)), fun r => ?_⟩⟩
    · unfold Nd.refs; rw [if_pos (by omega), List.append_nil]
    · unfold nodeOk; omega
    · unfold Nd.refs; rw [if_pos (by omega), List.append_nil]
    · unfold nodeOk; omega
    · have la : x.a.toNat < l.length := by omega
      have ha3 : 3 ≤ x.op := by omega
      simp only [usedV_at _ la, usedV_length, some_int, some_bool, exists_eq', true_and]
      refine ⟨by omega, fun h5 => ?_⟩
      rw [← h5]
      simp only [decide_eq_true_eq, usedV_set _ la]
      have ra : ∀ r, x.refs = x.a.toNat :: r → x.a.toNat ∈ refs (l.take k) → ¬ treeOk loc l := fun r hr' hm => dup rfl fun hn => (List.nodup_append.1 hn).2.2 _ hm _ (by rw [hr']; exact List.mem_cons_self) rfl
      have rx : ∃ r, x.refs = x.a.toNat :: r := by
        unfold Nd.refs
        rw [if_neg (by omega)]
        split
        · exact ⟨_, rfl⟩
        · exact ⟨_, rfl⟩
      obtain ⟨r0, hr0⟩ := rx
      refine ⟨fun hu => out _ (ra r0 hr0 hu), fun hu => ⟨by omega, by omega, ?_⟩⟩
      have hnd1 : (refs (l.take k) ++ [x.a.toNat]).Nodup := List.nodup_append.2 ⟨hnd, by simp, fun a ha b hb => by rw [List.mem_singleton.1 hb]; exact fun e => hu (e ▸ ha)⟩
      refine ⟨fun c5 => ⟨fun r2 => out _ (bad (by unfold nodeOk; omega)), fun r2 => fin _ _ ?_ (by unfold nodeOk; omega) hnd1⟩, fun c5 => ⟨fun r2 => out _ (bad (by unfold nodeOk; omega)), fun r2 => ?_⟩⟩
      · unfold Nd.refs; rw [if_neg (by omega), if_pos (by omega)]
      · have lb : x.b.toNat < l.length := by omega
        have er : refs (l.take k) ++ [x.a.toNat] ++ [x.b.toNat] = refs (l.take k) ++ x.refs := by
          rw [List.append_assoc]
          unfold Nd.refs; rw [if_neg (by omega), if_neg (by omega)]; rfl
        simp only [usedV_at _ lb, usedV_length, some_int, some_bool, exists_eq', true_and]
        refine ⟨by omega, fun h6 => ?_⟩
        rw [← h6]
        simp only [decide_eq_true_eq, usedV_set _ lb]
        refine ⟨fun hu2 => out _ (dup er fun hn => (List.nodup_append.1 hn).2.2 _ hu2 _ (List.mem_singleton_self _) rfl), fun hu2 => ⟨by omega, by omega, fin _ _ er (by unfold nodeOk; omega) ?_⟩⟩
        exact List.nodup_append.2 ⟨hnd1, by simp, fun a ha b hb => by rw [List.mem_singleton.1 hb]; exact fun e => hu2 (e ▸ ha)⟩
  · have hkl : k = l.length := by omega
    subst hkl
    rw [List.take_length] at *
    refine Sy.leafL_end 0 rfl rfl (by simp) rfl [] rfl [0, 2, 3] rfl [1] (by decide) ⟨⟨rfl, rfl, .inl rfl⟩, trivial⟩ ⟨fun i n hn => hall i n ?_ hn, hnd⟩
    exact (List.getElem?_eq_some_iff.1 hn).1

noncomputable def loopZ2 (g o c gu : Nat) (l : List Nd) (loc : Int) : Sy.LoopC :=
  ⟨.loop bodyZ2, 131, slZ2 g o c gu l.length 0, (0 < l.length ∧ treeOk loc l) ∧ l.length ≤ 65536, ⟨[], [(gu, .row tBool 1 l.length l.length (usedV l.length (refs l)))], 0⟩,
    [(⟨fun _ => onceOk l, fun _ => []⟩, .exit 2, fun _ => []), (⟨fun _ => ¬ onceOk l, fun _ => []⟩, .ret, fun _ => [(4, .bool false)])]⟩

theorem loopZ2_met (g o c gu : Nat) (l : List Nd) (loc : Int) : Sy.MeetsL Try.prog (loopZ2 g o c gu l loc) := by
  refine Sy.loop_of (n := 50) (fn := fRX) Sy.S0_holds mixed (body := bodyZ2) rfl [0, 4, 5, 8] (fun k : Nat => slZ2 g o c gu l.length k) (fun k => [⟨gu, .row tBool 1 l.length l.length (usedV l.length (refs l)), true⟩])
    (fun k => k < l.length ∧ ∀ j, j < k → j ∈ refs l) (fun k => l.length - k)
    0 (fun h => ⟨h.1.1, fun j hj => absurd hj (Nat.not_lt_zero j)⟩) (fun p hp => hp) [0] (by decide) rfl (o := fun _ => z2_o) (R := fun k xs => z2_R g o c gu l.length k (usedV l.length (refs l)) xs) (fun k xs _ => z2_run g o c gu l.length k (usedV l.length (refs l)) xs) ?_
  rintro ⟨⟨hpos, hT⟩, hm⟩ k rest ⟨hk, hall⟩ ns
  simp only [z2_R, Sy.Res.holds, Sy.b_and, Sy.b_or, Sy.b_not, Sy.b_f, Sy.b_and', Sy.b_or', Sy.q_lt, Sy.q_le, Sy.q_eq, Sy.b_tt, Sy.b_ft, not_true_eq_false, not_false_eq_true, dec_q l.length hpos (by omega), Int.toNat_natCast, usedV_at _ hk, some_int, some_bool, exists_eq', true_and]
  have h1 := List.nodup_iff_count.1 hT.2
  refine ⟨fun hlt => ⟨by omega, fun h0 => ?_⟩, fun hge => ?_⟩
  · rw [← h0]
    simp only [decide_eq_true_eq]
    refine ⟨fun r => ?_, fun r => ?_⟩
    · refine Sy.leafL_end 1 rfl rfl (by simp) rfl [] rfl [1] rfl [] List.nodup_nil trivial fun h => r ?_
      have := h k hk
      rw [if_pos (by omega)] at this
      exact List.count_pos_iff.1 (by omega)
    · refine Sy.leafL_next (k + 1) rfl ⟨by omega, fun j hj => ?_⟩ (by show l.length - (k + 1) < l.length - k; omega) (by rw [Sy.inc_q k (by omega)]; rfl) [0] (by decide) rfl
      rcases Nat.lt_succ_iff_lt_or_eq.1 hj with hj | rfl
      · exact hall j hj
      · exact Classical.byContradiction r
  · refine Sy.leafL_end 0 rfl rfl (by simp) rfl [] rfl [] rfl [] List.nodup_nil trivial fun j hj => ?_
    have h2 := h1 j
    split
    · have := List.count_pos_iff.2 (hall j (by omega))
      omega
    · rename_i hlast
      refine List.count_eq_zero.2 fun hm' => ?_
      unfold refs at hm'
      obtain ⟨x, hx, hj'⟩ := List.mem_flatMap.1 hm'
      obtain ⟨m, hm2, he⟩ := List.mem_iff_getElem.1 hx
      have := refs_lt hT.1 (Nat.le_refl _) (j := j) (by rw [List.take_length]; unfold refs; exact hm')
      have h3 := hT.1 m x (by rw [← he]; exact List.getElem?_eq_getElem hm2)
      unfold Nd.refs at hj'
      split at hj'
      · cases hj'
      · split at hj'
        · have := ok_a h3 (by omega)
          have := List.mem_singleton.1 hj'
          omega
        · have := ok_a h3 (by omega)
          have := ok_b h3 (by omega)
          rcases List.mem_cons.1 hj' with hj' | hj'
          · omega
          · have := List.mem_singleton.1 hj'
            omega

end Go.Proofs.Ytgaejhhipnpopaa
