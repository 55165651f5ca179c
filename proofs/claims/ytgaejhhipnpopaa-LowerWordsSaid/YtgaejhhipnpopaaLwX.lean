/-
  lower.expr.
-/
import Derived.Test.YtgaejhhipnpopaaLwU
namespace Go.Proofs.Ytgaejhhipnpopaa
set_option linter.unusedVariables false
set_option linter.unusedSimpArgs false
open Go Go.RowKit
open Sy (Let Blk)

abbrev fExpr : FuncId := 31
def goodN (l : List Nd) : Prop := ∀ n ∈ l, goodU n.val
noncomputable def exprC (g o c : Nat) (l : List Nd) (i0 : Nat) (i k : Int) : Sy.CallC :=
  ⟨fExpr, #[.slice (some ⟨g, o, none⟩) l.length c, .int .i64 i, .int .i64 k], (isExpr 24 l ∧ goodN l) ∧ 0 ≤ i ∧ i < l.length ∧ i < i0 ∧ 0 ≤ k ∧ k + (tr l i.toNat).needs ≤ 5,
   ⟨[(g, .seg o (ndCells l))], [], 2⟩, [Sy.rowO tI 6 (lay (tr l i.toNat) (24 + k)).length (insCells (lay (tr l i.toNat) (24 + k))) id]⟩
noncomputable def ctxX (g o c : Nat) (l : List Nd) (i0 : Nat) : Sy.Ctx := Sy.mkS [(fExpr, fun a _ => exprC g o c l i0 (Sy.argI a 1) (Sy.argI a 2)), (28, fun a _ => numC (Sy.argI a 0) (Sy.argI a 1)), (fBin, fun a _ => binC (Sy.argI a 0))] [] []
def ex_o : Sy.O := (Sy.O.steps [1, 0, 1, 1, 1, 1, 1, 1, 0, 0, 0, 0, 0] (Sy.O.fork (Sy.O.steps [0, 0, 0] Sy.O.nil) (Sy.O.fork (Sy.O.steps [0, 0] Sy.O.nil) (Sy.O.fork (Sy.O.steps [0, 0, 0, 1, 0, 0, 0, 0, 0, 2, 1, 1, 1, 1, 2, 0, 0, 2, 0, 0, 3, 0, 0, 0, 1, 1, 3, 0, 0] Sy.O.nil) (Sy.O.fork (Sy.O.steps [0, 0, 0, 1, 0, 0, 0, 0, 0, 2, 1, 1, 1, 1, 2, 0, 0, 2, 0, 0, 3, 0, 0, 0, 1, 1, 3, 0, 0] Sy.O.nil) (Sy.O.fork (Sy.O.steps [0, 0, 0, 1, 0, 0, 0, 0, 0, 3, 1, 1, 1, 1, 3, 0, 0, 2, 0, 0, 4, 0, 0, 0, 1, 1, 4, 0, 0, 0, 3, 0, 0, 4, 0, 0, 0, 1, 1, 4, 0, 0] Sy.O.nil) (Sy.O.steps [0, 0, 1, 2, 0, 0, 3, 5, 6, 7, 0, 0, 8, 9, 16, 0, 1, 1, 2, 1, 16, 0, 1, 1, 3, 1, 16, 1, 4, 2, 16, 0, 0, 0, 0, 0, 3, 1, 1, 1, 1, 3, 0, 0, 2, 0, 0, 3, 1, 0, 1, 1, 1, 3, 0, 0, 1, 5, 4, 13] (Sy.O.steps [5, 0, 0] (Sy.O.fork (Sy.O.steps [0, 0, 0, 0, 0, 3, 1, 1, 1, 1, 3, 0, 0, 2, 0, 0, 4, 0, 0, 0, 1, 1, 4, 0, 0, 0, 3, 0, 0, 4, 0, 0, 0, 1, 1, 4, 0, 0] Sy.O.nil) (Sy.O.steps [0, 0, 0, 0, 0, 2, 1, 1, 1, 1, 2, 0, 0, 2, 0, 0, 3, 0, 0, 0, 1, 1, 3, 0, 0] Sy.O.nil))))))))))
noncomputable def ex_R (g : Nat) (o : Nat) (c : Nat) (l : List Nd) (i : Int) (k : Int) (i0 : Nat) (ns : Nat → Sy.Let) : Sy.Res (Value × List Blk) := Sy.Res.need ((0 : Int) ≤ i ∧ i < (↑(List.length l) : Int))
 (Sy.Res.need
 (∃ (i_1 : Int),
 Sy.Cont.at (Sy.Cont.seg o (ndCells l)) (o + Int.toNat i * (4 : Nat)) = some (Value.int IntKind.i64 i_1))
 (Sy.Res.hyp
 (Sy.Cont.at (Sy.Cont.seg o (ndCells l)) (o + Int.toNat i * (4 : Nat)) =
 some (Value.int IntKind.i64 (Let.i (ns (0 : Nat)))))
 (Sy.Res.need
 (∃ (i_1 : Int),
 Sy.Cont.at (Sy.Cont.seg o (ndCells l)) (o + Int.toNat i * (4 : Nat) + (1 : Nat)) =
 some (Value.int IntKind.u64 i_1))
 (Sy.Res.hyp
 (Sy.Cont.at (Sy.Cont.seg o (ndCells l)) (o + Int.toNat i * (4 : Nat) + (1 : Nat)) =
 some (Value.int IntKind.u64 (Let.i (ns (1 : Nat)))))
 (Sy.Res.need
 (∃ (i_1 : Int),
 Sy.Cont.at (Sy.Cont.seg o (ndCells l)) (o + Int.toNat i * (4 : Nat) + (1 : Nat) + (1 : Nat)) =
 some (Value.int IntKind.i64 i_1))
 (Sy.Res.hyp
 (Sy.Cont.at (Sy.Cont.seg o (ndCells l)) (o + Int.toNat i * (4 : Nat) + (1 : Nat) + (1 : Nat)) =
 some (Value.int IntKind.i64 (Let.i (ns (2 : Nat)))))
 (Sy.Res.need
 (∃ (i_1 : Int),
 Sy.Cont.at (Sy.Cont.seg o (ndCells l))
 (o + Int.toNat i * (4 : Nat) + (1 : Nat) + (1 : Nat) + (1 : Nat)) =
 some (Value.int IntKind.i64 i_1))
 (Sy.Res.hyp
 (Sy.Cont.at (Sy.Cont.seg o (ndCells l))
 (o + Int.toNat i * (4 : Nat) + (1 : Nat) + (1 : Nat) + (1 : Nat)) =
 some (Value.int IntKind.i64 (Let.i (ns (3 : Nat)))))
 (Sy.Res.br (Ex.eqQ (Let.i (ns (0 : Nat))) (1 : Int))
 (Sy.Res.need
 ((0 : Int) ≤ Let.i (ns (1 : Nat)) ∧ Let.i (ns (1 : Nat)) < (18446744073709551616 : Int))
 (Sy.Res.hyp
 (Nat.le
 (List.length (numL (Ex.wrapQ IntKind.i64 (Ex.addQ (24 : Int) k)) (Let.i (ns (1 : Nat)))))
 (Let.n (ns (6 : Nat))))
 (Sy.Res.leaf
 (Value.slice (some (Addr.mk (Let.n (ns (5 : Nat))) (0 : Nat) none))
 (List.length (numL (Ex.wrapQ IntKind.i64 (Ex.addQ (24 : Int) k)) (Let.i (ns (1 : Nat)))))
 (Let.n (ns (6 : Nat))),
 [Blk.mk (Let.n (ns (5 : Nat)))
 (Sy.Cont.row (29 : Nat) (6 : Nat)
 (List.length
 (numL (Ex.wrapQ IntKind.i64 (Ex.addQ (24 : Int) k)) (Let.i (ns (1 : Nat)))))
 (Let.n (ns (6 : Nat)))
 (insCells
 (numL (Ex.wrapQ IntKind.i64 (Ex.addQ (24 : Int) k)) (Let.i (ns (1 : Nat))))))
 true]))))
 (Sy.Res.br (Ex.eqQ (Let.i (ns (0 : Nat))) (2 : Int))
 (Sy.Res.leaf
 (Value.slice (some (Addr.mk (Let.n (ns (5 : Nat))) (0 : Nat) none)) (1 : Nat) (1 : Nat),
 [Blk.mk (Let.n (ns (5 : Nat)))
 (Sy.Cont.obj
 (Obj.cells
 (Array.mk
 [Value.int IntKind.i64 (6 : Int),
 Value.int IntKind.i64 (Ex.wrapQ IntKind.i64 (Ex.addQ (24 : Int) k)),
 Value.int IntKind.i64 (31 : Int),
 Value.int IntKind.i64 (Ex.wrapQ IntKind.i64 (Let.i (ns (1 : Nat)))),
 Value.int IntKind.i64 (0 : Int), Value.int IntKind.i64 (0 : Int)])
 (29 : Nat)))
 true]))
 (Sy.Res.br (Ex.eqQ (Let.i (ns (0 : Nat))) (3 : Int))
 (Sy.Res.need
 ((isExpr (24 : Int) l ∧ goodN l) ∧
 (0 : Int) ≤ Let.i (ns (2 : Nat)) ∧
 Let.i (ns (2 : Nat)) < (↑(List.length l) : Int) ∧
 Let.i (ns (2 : Nat)) < (↑i0 : Int) ∧
 (0 : Int) ≤ k ∧
 k + (↑(E.needs (tr l (Int.toNat (Let.i (ns (2 : Nat)))))) : Int) ≤ (5 : Int))
 (Sy.Res.hyp
 (Nat.le (List.length (lay (tr l (Int.toNat (Let.i (ns (2 : Nat))))) ((24 : Int) + k)))
 (Let.n (ns (6 : Nat))))
 (Sy.Res.need
 ((0 : Nat) = (0 : Nat) ∧
 List.length
 (insCells (lay (tr l (Int.toNat (Let.i (ns (2 : Nat))))) ((24 : Int) + k))) =
 List.length (lay (tr l (Int.toNat (Let.i (ns (2 : Nat))))) ((24 : Int) + k)) *
 (6 : Nat) ∧
 ∀ (u : Value),
 u ∈ insCells (lay (tr l (Int.toNat (Let.i (ns (2 : Nat))))) ((24 : Int) + k)) →
 Value.oneCell' u = true)
 (Sy.Res.need
 ((1 : Nat) ≤
 List.length (lay (tr l (Int.toNat (Let.i (ns (2 : Nat))))) ((24 : Int) + k)))
 (Sy.Res.need
 ((0 : Nat) +
 List.length (lay (tr l (Int.toNat (Let.i (ns (2 : Nat))))) ((24 : Int) + k)) ≤
 (9223372036854775807 : Nat))
 (Sy.Res.need
 (((0 : Nat) +
 List.length
 (lay (tr l (Int.toNat (Let.i (ns (2 : Nat))))) ((24 : Int) + k))) *
 (48 : Nat) ≤
 (140737488355328 : Nat))
 (Sy.Res.hyp
 (Nat.le
 ((0 : Nat) +
 List.length (lay (tr l (Int.toNat (Let.i (ns (2 : Nat))))) ((24 : Int) + k)))
 (Let.n (ns (10 : Nat))))
 (Sy.Res.need
 ((0 : Nat) +
 List.length
 (lay (tr l (Int.toNat (Let.i (ns (2 : Nat))))) ((24 : Int) + k)) +
 (1 : Nat) ≤
 (9223372036854775807 : Nat))
 (Sy.Res.need
 (((0 : Nat) +
 List.length
 (lay (tr l (Int.toNat (Let.i (ns (2 : Nat))))) ((24 : Int) + k)) +
 (1 : Nat)) *
 (48 : Nat) ≤
 (140737488355328 : Nat))
 (Sy.Res.hyp
 (Nat.le
 ((0 : Nat) +
 List.length
 (lay (tr l (Int.toNat (Let.i (ns (2 : Nat))))) ((24 : Int) + k)) +
 (1 : Nat))
 (Let.n (ns (12 : Nat))))
 (Sy.Res.leaf
 (Value.slice (some (Addr.mk (Let.n (ns (11 : Nat))) (0 : Nat) none))
 ((0 : Nat) +
 List.length
 (lay (tr l (Int.toNat (Let.i (ns (2 : Nat)))))
 ((24 : Int) + k)) +
 (1 : Nat))
 (Let.n (ns (12 : Nat))),
 [Blk.mk (Let.n (ns (11 : Nat)))
 (Sy.Cont.row (29 : Nat) (6 : Nat)
 ((0 : Nat) +
 List.length
 (lay (tr l (Int.toNat (Let.i (ns (2 : Nat)))))
 ((24 : Int) + k)) +
 (1 : Nat))
 (Let.n (ns (12 : Nat)))
 ([] ++
 insCells
 (lay (tr l (Int.toNat (Let.i (ns (2 : Nat)))))
 ((24 : Int) + k)) ++
 [Value.int IntKind.i64 (4 : Int),
 Value.int IntKind.i64
 (Ex.wrapQ IntKind.i64 (Ex.addQ (24 : Int) k)),
 Value.int IntKind.i64 (31 : Int),
 Value.int IntKind.i64
 (Ex.wrapQ IntKind.i64 (Ex.addQ (24 : Int) k)),
 Value.int IntKind.i64 (0 : Int),
 Value.int IntKind.i64 (0 : Int)]))
 true,
 Blk.mk (Let.n (ns (7 : Nat)))
 (Sy.Cont.obj
 (Obj.cells
 (Array.mk
 [Value.int IntKind.i64 (4 : Int),
 Value.int IntKind.i64
 (Ex.wrapQ IntKind.i64 (Ex.addQ (24 : Int) k)),
 Value.int IntKind.i64 (31 : Int),
 Value.int IntKind.i64
 (Ex.wrapQ IntKind.i64 (Ex.addQ (24 : Int) k)),
 Value.int IntKind.i64 (0 : Int),
 Value.int IntKind.i64 (0 : Int)])
 (29 : Nat)))
 true,
 Blk.mk (Let.n (ns (5 : Nat)))
 (Sy.Cont.row (29 : Nat) (6 : Nat)
 (List.length
 (lay (tr l (Int.toNat (Let.i (ns (2 : Nat)))))
 ((24 : Int) + k)))
 (Let.n (ns (6 : Nat)))
 (insCells
 (lay (tr l (Int.toNat (Let.i (ns (2 : Nat)))))
 ((24 : Int) + k))))
 true]))))))))))))
 (Sy.Res.br (Ex.eqQ (Let.i (ns (0 : Nat))) (4 : Int))
 (Sy.Res.need
 ((isExpr (24 : Int) l ∧ goodN l) ∧
 (0 : Int) ≤ Let.i (ns (2 : Nat)) ∧
 Let.i (ns (2 : Nat)) < (↑(List.length l) : Int) ∧
 Let.i (ns (2 : Nat)) < (↑i0 : Int) ∧
 (0 : Int) ≤ k ∧
 k + (↑(E.needs (tr l (Int.toNat (Let.i (ns (2 : Nat)))))) : Int) ≤ (5 : Int))
 (Sy.Res.hyp
 (Nat.le (List.length (lay (tr l (Int.toNat (Let.i (ns (2 : Nat))))) ((24 : Int) + k)))
 (Let.n (ns (6 : Nat))))
 (Sy.Res.need
 ((0 : Nat) = (0 : Nat) ∧
 List.length
 (insCells (lay (tr l (Int.toNat (Let.i (ns (2 : Nat))))) ((24 : Int) + k))) =
 List.length (lay (tr l (Int.toNat (Let.i (ns (2 : Nat))))) ((24 : Int) + k)) *
 (6 : Nat) ∧
 ∀ (u : Value),
 u ∈ insCells (lay (tr l (Int.toNat (Let.i (ns (2 : Nat))))) ((24 : Int) + k)) →
 Value.oneCell' u = true)
 (Sy.Res.need
 ((1 : Nat) ≤
 List.length (lay (tr l (Int.toNat (Let.i (ns (2 : Nat))))) ((24 : Int) + k)))
 (Sy.Res.need
 ((0 : Nat) +
 List.length (lay (tr l (Int.toNat (Let.i (ns (2 : Nat))))) ((24 : Int) + k)) ≤
 (9223372036854775807 : Nat))
 (Sy.Res.need
 (((0 : Nat) +
 List.length
 (lay (tr l (Int.toNat (Let.i (ns (2 : Nat))))) ((24 : Int) + k))) *
 (48 : Nat) ≤
 (140737488355328 : Nat))
 (Sy.Res.hyp
 (Nat.le
 ((0 : Nat) +
 List.length
 (lay (tr l (Int.toNat (Let.i (ns (2 : Nat))))) ((24 : Int) + k)))
 (Let.n (ns (10 : Nat))))
 (Sy.Res.need
 ((0 : Nat) +
 List.length
 (lay (tr l (Int.toNat (Let.i (ns (2 : Nat))))) ((24 : Int) + k)) +
 (1 : Nat) ≤
 (9223372036854775807 : Nat))
 (Sy.Res.need
 (((0 : Nat) +
 List.length
 (lay (tr l (Int.toNat (Let.i (ns (2 : Nat))))) ((24 : Int) + k)) +
 (1 : Nat)) *
 (48 : Nat) ≤
 (140737488355328 : Nat))
 (Sy.Res.hyp
 (Nat.le
 ((0 : Nat) +
 List.length
 (lay (tr l (Int.toNat (Let.i (ns (2 : Nat))))) ((24 : Int) + k)) +
 (1 : Nat))
 (Let.n (ns (12 : Nat))))
 (Sy.Res.leaf
 (Value.slice (some (Addr.mk (Let.n (ns (11 : Nat))) (0 : Nat) none))
 ((0 : Nat) +
 List.length
 (lay (tr l (Int.toNat (Let.i (ns (2 : Nat)))))
 ((24 : Int) + k)) +
 (1 : Nat))
 (Let.n (ns (12 : Nat))),
 [Blk.mk (Let.n (ns (11 : Nat)))
 (Sy.Cont.row (29 : Nat) (6 : Nat)
 ((0 : Nat) +
 List.length
 (lay (tr l (Int.toNat (Let.i (ns (2 : Nat)))))
 ((24 : Int) + k)) +
 (1 : Nat))
 (Let.n (ns (12 : Nat)))
 ([] ++
 insCells
 (lay (tr l (Int.toNat (Let.i (ns (2 : Nat)))))
 ((24 : Int) + k)) ++
 [Value.int IntKind.i64 (8 : Int),
 Value.int IntKind.i64
 (Ex.wrapQ IntKind.i64 (Ex.addQ (24 : Int) k)),
 Value.int IntKind.i64 (31 : Int),
 Value.int IntKind.i64
 (Ex.wrapQ IntKind.i64 (Ex.addQ (24 : Int) k)),
 Value.int IntKind.i64 (0 : Int),
 Value.int IntKind.i64 (0 : Int)]))
 true,
 Blk.mk (Let.n (ns (7 : Nat)))
 (Sy.Cont.obj
 (Obj.cells
 (Array.mk
 [Value.int IntKind.i64 (8 : Int),
 Value.int IntKind.i64
 (Ex.wrapQ IntKind.i64 (Ex.addQ (24 : Int) k)),
 Value.int IntKind.i64 (31 : Int),
 Value.int IntKind.i64
 (Ex.wrapQ IntKind.i64 (Ex.addQ (24 : Int) k)),
 Value.int IntKind.i64 (0 : Int),
 Value.int IntKind.i64 (0 : Int)])
 (29 : Nat)))
 true,
 Blk.mk (Let.n (ns (5 : Nat)))
 (Sy.Cont.row (29 : Nat) (6 : Nat)
 (List.length
 (lay (tr l (Int.toNat (Let.i (ns (2 : Nat)))))
 ((24 : Int) + k)))
 (Let.n (ns (6 : Nat)))
 (insCells
 (lay (tr l (Int.toNat (Let.i (ns (2 : Nat)))))
 ((24 : Int) + k))))
 true]))))))))))))
 (Sy.Res.br (Ex.eqQ (Let.i (ns (0 : Nat))) (5 : Int))
 (Sy.Res.need
 ((isExpr (24 : Int) l ∧ goodN l) ∧
 (0 : Int) ≤ Let.i (ns (2 : Nat)) ∧
 Let.i (ns (2 : Nat)) < (↑(List.length l) : Int) ∧
 Let.i (ns (2 : Nat)) < (↑i0 : Int) ∧
 (0 : Int) ≤ k ∧
 k + (↑(E.needs (tr l (Int.toNat (Let.i (ns (2 : Nat)))))) : Int) ≤ (5 : Int))
 (Sy.Res.hyp
 (Nat.le (List.length (lay (tr l (Int.toNat (Let.i (ns (2 : Nat))))) ((24 : Int) + k)))
 (Let.n (ns (6 : Nat))))
 (Sy.Res.need
 ((0 : Nat) = (0 : Nat) ∧
 List.length
 (insCells (lay (tr l (Int.toNat (Let.i (ns (2 : Nat))))) ((24 : Int) + k))) =
 List.length (lay (tr l (Int.toNat (Let.i (ns (2 : Nat))))) ((24 : Int) + k)) *
 (6 : Nat) ∧
 ∀ (u : Value),
 u ∈ insCells (lay (tr l (Int.toNat (Let.i (ns (2 : Nat))))) ((24 : Int) + k)) →
 Value.oneCell' u = true)
 (Sy.Res.need
 ((1 : Nat) ≤
 List.length (lay (tr l (Int.toNat (Let.i (ns (2 : Nat))))) ((24 : Int) + k)))
 (Sy.Res.need
 ((0 : Nat) +
 List.length (lay (tr l (Int.toNat (Let.i (ns (2 : Nat))))) ((24 : Int) + k)) ≤
 (9223372036854775807 : Nat))
 (Sy.Res.need
 (((0 : Nat) +
 List.length
 (lay (tr l (Int.toNat (Let.i (ns (2 : Nat))))) ((24 : Int) + k))) *
 (48 : Nat) ≤
 (140737488355328 : Nat))
 (Sy.Res.hyp
 (Nat.le
 ((0 : Nat) +
 List.length
 (lay (tr l (Int.toNat (Let.i (ns (2 : Nat))))) ((24 : Int) + k)))
 (Let.n (ns (11 : Nat))))
 (Sy.Res.need
 ((0 : Nat) +
 List.length
 (lay (tr l (Int.toNat (Let.i (ns (2 : Nat))))) ((24 : Int) + k)) +
 (1 : Nat) ≤
 (9223372036854775807 : Nat))
 (Sy.Res.need
 (((0 : Nat) +
 List.length
 (lay (tr l (Int.toNat (Let.i (ns (2 : Nat)))))
 ((24 : Int) + k)) +
 (1 : Nat)) *
 (48 : Nat) ≤
 (140737488355328 : Nat))
 (Sy.Res.hyp
 (Nat.le
 ((0 : Nat) +
 List.length
 (lay (tr l (Int.toNat (Let.i (ns (2 : Nat)))))
 ((24 : Int) + k)) +
 (1 : Nat))
 (Let.n (ns (13 : Nat))))
 (Sy.Res.need
 ((0 : Nat) +
 List.length
 (lay (tr l (Int.toNat (Let.i (ns (2 : Nat)))))
 ((24 : Int) + k)) +
 (1 : Nat) +
 (1 : Nat) ≤
 (9223372036854775807 : Nat))
 (Sy.Res.need
 (((0 : Nat) +
 List.length
 (lay (tr l (Int.toNat (Let.i (ns (2 : Nat)))))
 ((24 : Int) + k)) +
 (1 : Nat) +
 (1 : Nat)) *
 (48 : Nat) ≤
 (140737488355328 : Nat))
 (Sy.Res.hyp
 (Nat.le
 ((0 : Nat) +
 List.length
 (lay (tr l (Int.toNat (Let.i (ns (2 : Nat)))))
 ((24 : Int) + k)) +
 (1 : Nat) +
 (1 : Nat))
 (Let.n (ns (15 : Nat))))
 (Sy.Res.leaf
 (Value.slice
 (some (Addr.mk (Let.n (ns (14 : Nat))) (0 : Nat) none))
 ((0 : Nat) +
 List.length
 (lay (tr l (Int.toNat (Let.i (ns (2 : Nat)))))
 ((24 : Int) + k)) +
 (1 : Nat) +
 (1 : Nat))
 (Let.n (ns (15 : Nat))),
 [Blk.mk (Let.n (ns (14 : Nat)))
 (Sy.Cont.row (29 : Nat) (6 : Nat)
 ((0 : Nat) +
 List.length
 (lay (tr l (Int.toNat (Let.i (ns (2 : Nat)))))
 ((24 : Int) + k)) +
 (1 : Nat) +
 (1 : Nat))
 (Let.n (ns (15 : Nat)))
 ([] ++
 insCells
 (lay (tr l (Int.toNat (Let.i (ns (2 : Nat)))))
 ((24 : Int) + k)) ++
 [Value.int IntKind.i64 (16 : Int),
 Value.int IntKind.i64 (0 : Int),
 Value.int IntKind.i64
 (Ex.wrapQ IntKind.i64 (Ex.addQ (24 : Int) k)),
 Value.int IntKind.i64 (31 : Int),
 Value.int IntKind.i64 (0 : Int),
 Value.int IntKind.i64 (0 : Int)] ++
 [Value.int IntKind.i64 (17 : Int),
 Value.int IntKind.i64
 (Ex.wrapQ IntKind.i64 (Ex.addQ (24 : Int) k)),
 Value.int IntKind.i64 (0 : Int),
 Value.int IntKind.i64 (0 : Int),
 Value.int IntKind.i64 (0 : Int),
 Value.int IntKind.i64 (0 : Int)]))
 true,
 Blk.mk (Let.n (ns (8 : Nat)))
 (Sy.Cont.obj
 (Obj.cells
 (Array.mk
 [Value.int IntKind.i64 (17 : Int),
 Value.int IntKind.i64
 (Ex.wrapQ IntKind.i64 (Ex.addQ (24 : Int) k)),
 Value.int IntKind.i64 (0 : Int),
 Value.int IntKind.i64 (0 : Int),
 Value.int IntKind.i64 (0 : Int),
 Value.int IntKind.i64 (0 : Int)])
 (29 : Nat)))
 true,
 Blk.mk (Let.n (ns (7 : Nat)))
 (Sy.Cont.obj
 (Obj.cells
 (Array.mk
 [Value.int IntKind.i64 (16 : Int),
 Value.int IntKind.i64 (0 : Int),
 Value.int IntKind.i64
 (Ex.wrapQ IntKind.i64 (Ex.addQ (24 : Int) k)),
 Value.int IntKind.i64 (31 : Int),
 Value.int IntKind.i64 (0 : Int),
 Value.int IntKind.i64 (0 : Int)])
 (29 : Nat)))
 true,
 Blk.mk (Let.n (ns (5 : Nat)))
 (Sy.Cont.row (29 : Nat) (6 : Nat)
 (List.length
 (lay (tr l (Int.toNat (Let.i (ns (2 : Nat)))))
 ((24 : Int) + k)))
 (Let.n (ns (6 : Nat)))
 (insCells
 (lay (tr l (Int.toNat (Let.i (ns (2 : Nat)))))
 ((24 : Int) + k))))
 true])))))))))))))))
 (Sy.Res.need
 ((isExpr (24 : Int) l ∧ goodN l) ∧
 (0 : Int) ≤ Let.i (ns (2 : Nat)) ∧
 Let.i (ns (2 : Nat)) < (↑(List.length l) : Int) ∧
 Let.i (ns (2 : Nat)) < (↑i0 : Int) ∧
 (0 : Int) ≤ k ∧
 k + (↑(E.needs (tr l (Int.toNat (Let.i (ns (2 : Nat)))))) : Int) ≤ (5 : Int))
 (Sy.Res.hyp
 (Nat.le (List.length (lay (tr l (Int.toNat (Let.i (ns (2 : Nat))))) ((24 : Int) + k)))
 (Let.n (ns (6 : Nat))))
 (Sy.Res.need
 ((isExpr (24 : Int) l ∧ goodN l) ∧
 (0 : Int) ≤ Let.i (ns (3 : Nat)) ∧
 Let.i (ns (3 : Nat)) < (↑(List.length l) : Int) ∧
 Let.i (ns (3 : Nat)) < (↑i0 : Int) ∧
 (0 : Int) ≤ Ex.wrapQ IntKind.i64 (Ex.addQ k (1 : Int)) ∧
 Ex.wrapQ IntKind.i64 (Ex.addQ k (1 : Int)) +
 (↑(E.needs (tr l (Int.toNat (Let.i (ns (3 : Nat)))))) : Int) ≤
 (5 : Int))
 (Sy.Res.hyp
 (Nat.le
 (List.length
 (lay (tr l (Int.toNat (Let.i (ns (3 : Nat)))))
 ((24 : Int) + Ex.wrapQ IntKind.i64 (Ex.addQ k (1 : Int)))))
 (Let.n (ns (8 : Nat))))
 (Sy.Res.need
 ((0 : Nat) = (0 : Nat) ∧
 List.length
 (insCells
 (lay (tr l (Int.toNat (Let.i (ns (2 : Nat))))) ((24 : Int) + k))) =
 List.length
 (lay (tr l (Int.toNat (Let.i (ns (2 : Nat))))) ((24 : Int) + k)) *
 (6 : Nat) ∧
 ∀ (u : Value),
 u ∈
 insCells
 (lay (tr l (Int.toNat (Let.i (ns (2 : Nat))))) ((24 : Int) + k)) →
 Value.oneCell' u = true)
 (Sy.Res.need
 ((1 : Nat) ≤
 List.length (lay (tr l (Int.toNat (Let.i (ns (2 : Nat))))) ((24 : Int) + k)))
 (Sy.Res.need
 ((0 : Nat) +
 List.length
 (lay (tr l (Int.toNat (Let.i (ns (2 : Nat))))) ((24 : Int) + k)) ≤
 (9223372036854775807 : Nat))
 (Sy.Res.need
 (((0 : Nat) +
 List.length
 (lay (tr l (Int.toNat (Let.i (ns (2 : Nat))))) ((24 : Int) + k))) *
 (48 : Nat) ≤
 (140737488355328 : Nat))
 (Sy.Res.hyp
 (Nat.le
 ((0 : Nat) +
 List.length
 (lay (tr l (Int.toNat (Let.i (ns (2 : Nat))))) ((24 : Int) + k)))
 (Let.n (ns (11 : Nat))))
 (Sy.Res.need
 ((0 : Nat) = (0 : Nat) ∧
 List.length
 (insCells
 (lay (tr l (Int.toNat (Let.i (ns (3 : Nat)))))
 ((24 : Int) +
 Ex.wrapQ IntKind.i64 (Ex.addQ k (1 : Int))))) =
 List.length
 (lay (tr l (Int.toNat (Let.i (ns (3 : Nat)))))
 ((24 : Int) + Ex.wrapQ IntKind.i64 (Ex.addQ k (1 : Int)))) *
 (6 : Nat) ∧
 ∀ (u : Value),
 u ∈
 insCells
 (lay (tr l (Int.toNat (Let.i (ns (3 : Nat)))))
 ((24 : Int) +
 Ex.wrapQ IntKind.i64 (Ex.addQ k (1 : Int)))) →
 Value.oneCell' u = true)
 (Sy.Res.need
 ((1 : Nat) ≤
 List.length
 (lay (tr l (Int.toNat (Let.i (ns (3 : Nat)))))
 ((24 : Int) + Ex.wrapQ IntKind.i64 (Ex.addQ k (1 : Int)))))
 (Sy.Res.need
 ((0 : Nat) +
 List.length
 (lay (tr l (Int.toNat (Let.i (ns (2 : Nat)))))
 ((24 : Int) + k)) +
 List.length
 (lay (tr l (Int.toNat (Let.i (ns (3 : Nat)))))
 ((24 : Int) + Ex.wrapQ IntKind.i64 (Ex.addQ k (1 : Int)))) ≤
 (9223372036854775807 : Nat))
 (Sy.Res.need
 (((0 : Nat) +
 List.length
 (lay (tr l (Int.toNat (Let.i (ns (2 : Nat)))))
 ((24 : Int) + k)) +
 List.length
 (lay (tr l (Int.toNat (Let.i (ns (3 : Nat)))))
 ((24 : Int) +
 Ex.wrapQ IntKind.i64 (Ex.addQ k (1 : Int))))) *
 (48 : Nat) ≤
 (140737488355328 : Nat))
 (Sy.Res.hyp
 (Nat.le
 ((0 : Nat) +
 List.length
 (lay (tr l (Int.toNat (Let.i (ns (2 : Nat)))))
 ((24 : Int) + k)) +
 List.length
 (lay (tr l (Int.toNat (Let.i (ns (3 : Nat)))))
 ((24 : Int) +
 Ex.wrapQ IntKind.i64 (Ex.addQ k (1 : Int)))))
 (Let.n (ns (13 : Nat))))
 (Sy.Res.need
 ((6 : Int) ≤ Let.i (ns (0 : Nat)) ∧
 Let.i (ns (0 : Nat)) ≤ (19 : Int))
 (Sy.Res.hyp True
 (Sy.Res.br (Ex.eqQ (binOp (Let.i (ns (0 : Nat)))) (0 : Int))
 (Sy.Res.need
 ((0 : Nat) = (0 : Nat) ∧
 List.length
 ([] ++
 insCells
 (lay
 (tr l
 (Int.toNat (Let.i (ns (2 : Nat)))))
 ((24 : Int) + k)) ++
 insCells
 (lay
 (tr l (Int.toNat (Let.i (ns (3 : Nat)))))
 ((24 : Int) +
 Ex.wrapQ IntKind.i64
 (Ex.addQ k (1 : Int))))) =
 ((0 : Nat) +
 List.length
 (lay
 (tr l
 (Int.toNat (Let.i (ns (2 : Nat)))))
 ((24 : Int) + k)) +
 List.length
 (lay
 (tr l (Int.toNat (Let.i (ns (3 : Nat)))))
 ((24 : Int) +
 Ex.wrapQ IntKind.i64
 (Ex.addQ k (1 : Int))))) *
 (6 : Nat) ∧
 ∀ (u : Value),
 u ∈
 [] ++
 insCells
 (lay
 (tr l
 (Int.toNat (Let.i (ns (2 : Nat)))))
 ((24 : Int) + k)) ++
 insCells
 (lay
 (tr l
 (Int.toNat (Let.i (ns (3 : Nat)))))
 ((24 : Int) +
 Ex.wrapQ IntKind.i64
 (Ex.addQ k (1 : Int)))) →
 Value.oneCell' u = true)
 (Sy.Res.need
 ((1 : Nat) ≤
 (0 : Nat) +
 List.length
 (lay (tr l (Int.toNat (Let.i (ns (2 : Nat)))))
 ((24 : Int) + k)) +
 List.length
 (lay (tr l (Int.toNat (Let.i (ns (3 : Nat)))))
 ((24 : Int) +
 Ex.wrapQ IntKind.i64
 (Ex.addQ k (1 : Int)))))
 (Sy.Res.need
 ((0 : Nat) +
 ((0 : Nat) +
 List.length
 (lay
 (tr l
 (Int.toNat (Let.i (ns (2 : Nat)))))
 ((24 : Int) + k)) +
 List.length
 (lay
 (tr l (Int.toNat (Let.i (ns (3 : Nat)))))
 ((24 : Int) +
 Ex.wrapQ IntKind.i64
 (Ex.addQ k (1 : Int))))) ≤
 (9223372036854775807 : Nat))
 (Sy.Res.need
 (((0 : Nat) +
 ((0 : Nat) +
 List.length
 (lay
 (tr l
 (Int.toNat
 (Let.i (ns (2 : Nat)))))
 ((24 : Int) + k)) +
 List.length
 (lay
 (tr l
 (Int.toNat (Let.i (ns (3 : Nat)))))
 ((24 : Int) +
 Ex.wrapQ IntKind.i64
 (Ex.addQ k (1 : Int)))))) *
 (48 : Nat) ≤
 (140737488355328 : Nat))
 (Sy.Res.hyp
 (Nat.le
 ((0 : Nat) +
 ((0 : Nat) +
 List.length
 (lay
 (tr l
 (Int.toNat
 (Let.i (ns (2 : Nat)))))
 ((24 : Int) + k)) +
 List.length
 (lay
 (tr l
 (Int.toNat (Let.i (ns (3 : Nat)))))
 ((24 : Int) +
 Ex.wrapQ IntKind.i64
 (Ex.addQ k (1 : Int))))))
 (Let.n (ns (18 : Nat))))
 (Sy.Res.need
 ((0 : Nat) +
 ((0 : Nat) +
 List.length
 (lay
 (tr l
 (Int.toNat
 (Let.i (ns (2 : Nat)))))
 ((24 : Int) + k)) +
 List.length
 (lay
 (tr l
 (Int.toNat
 (Let.i (ns (3 : Nat)))))
 ((24 : Int) +
 Ex.wrapQ IntKind.i64
 (Ex.addQ k (1 : Int))))) +
 (1 : Nat) ≤
 (9223372036854775807 : Nat))
 (Sy.Res.need
 (((0 : Nat) +
 ((0 : Nat) +
 List.length
 (lay
 (tr l
 (Int.toNat
 (Let.i (ns (2 : Nat)))))
 ((24 : Int) + k)) +
 List.length
 (lay
 (tr l
 (Int.toNat
 (Let.i (ns (3 : Nat)))))
 ((24 : Int) +
 Ex.wrapQ IntKind.i64
 (Ex.addQ k (1 : Int))))) +
 (1 : Nat)) *
 (48 : Nat) ≤
 (140737488355328 : Nat))
 (Sy.Res.hyp
 (Nat.le
 ((0 : Nat) +
 ((0 : Nat) +
 List.length
 (lay
 (tr l
 (Int.toNat
 (Let.i (ns (2 : Nat)))))
 ((24 : Int) + k)) +
 List.length
 (lay
 (tr l
 (Int.toNat
 (Let.i (ns (3 : Nat)))))
 ((24 : Int) +
 Ex.wrapQ IntKind.i64
 (Ex.addQ k (1 : Int))))) +
 (1 : Nat))
 (Let.n (ns (20 : Nat))))
 (Sy.Res.need
 ((0 : Nat) +
 ((0 : Nat) +
 List.length
 (lay
 (tr l
 (Int.toNat
 (Let.i
 (ns (2 : Nat)))))
 ((24 : Int) + k)) +
 List.length
 (lay
 (tr l
 (Int.toNat
 (Let.i
 (ns (3 : Nat)))))
 ((24 : Int) +
 Ex.wrapQ IntKind.i64
 (Ex.addQ k
 (1 : Int))))) +
 (1 : Nat) +
 (1 : Nat) ≤
 (9223372036854775807 : Nat))
 (Sy.Res.need
 (((0 : Nat) +
 ((0 : Nat) +
 List.length
 (lay
 (tr l
 (Int.toNat
 (Let.i
 (ns
 (2 :
 Nat)))))
 ((24 : Int) + k)) +
 List.length
 (lay
 (tr l
 (Int.toNat
 (Let.i
 (ns
 (3 : Nat)))))
 ((24 : Int) +
 Ex.wrapQ IntKind.i64
 (Ex.addQ k
 (1 : Int))))) +
 (1 : Nat) +
 (1 : Nat)) *
 (48 : Nat) ≤
 (140737488355328 : Nat))
 (Sy.Res.hyp
 (Nat.le
 ((0 : Nat) +
 ((0 : Nat) +
 List.length
 (lay
 (tr l
 (Int.toNat
 (Let.i
 (ns
 (2 :
 Nat)))))
 ((24 : Int) + k)) +
 List.length
 (lay
 (tr l
 (Int.toNat
 (Let.i
 (ns
 (3 : Nat)))))
 ((24 : Int) +
 Ex.wrapQ IntKind.i64
 (Ex.addQ k
 (1 : Int))))) +
 (1 : Nat) +
 (1 : Nat))
 (Let.n (ns (22 : Nat))))
 (Sy.Res.leaf
 (Value.slice
 (some
 (Addr.mk
 (Let.n (ns (21 : Nat)))
 (0 : Nat) none))
 ((0 : Nat) +
 ((0 : Nat) +
 List.length
 (lay
 (tr l
 (Int.toNat
 (Let.i
 (ns
 (2 :
 Nat)))))
 ((24 : Int) +
 k)) +
 List.length
 (lay
 (tr l
 (Int.toNat
 (Let.i
 (ns
 (3 :
 Nat)))))
 ((24 : Int) +
 Ex.wrapQ
 IntKind.i64
 (Ex.addQ k
 (1 :
 Int))))) +
 (1 : Nat) +
 (1 : Nat))
 (Let.n (ns (22 : Nat))),
 [Blk.mk (Let.n (ns (21 : Nat)))
 (Sy.Cont.row (29 : Nat)
 (6 : Nat)
 ((0 : Nat) +
 ((0 : Nat) +
 List.length
 (lay
 (tr l
 (Int.toNat
 (Let.i
 (ns
 (2 :
 Nat)))))
 ((24 :
 Int) +
 k)) +
 List.length
 (lay
 (tr l
 (Int.toNat
 (Let.i
 (ns
 (3 :
 Nat)))))
 ((24 : Int) +
 Ex.wrapQ
 IntKind.i64
 (Ex.addQ k
 (1 :
 Int))))) +
 (1 : Nat) +
 (1 : Nat))
 (Let.n (ns (22 : Nat)))
 ([] ++
 ([] ++
 insCells
 (lay
 (tr l
 (Int.toNat
 (Let.i
 (ns
 (2 :
 Nat)))))
 ((24 :
 Int) +
 k)) ++
 insCells
 (lay
 (tr l
 (Int.toNat
 (Let.i
 (ns
 (3 :
 Nat)))))
 ((24 : Int) +
 Ex.wrapQ
 IntKind.i64
 (Ex.addQ k
 (1 :
 Int))))) ++
 [Value.int IntKind.i64
 (16 : Int),
 Value.int
 IntKind.i64
 (0 : Int),
 Value.int
 IntKind.i64
 (Ex.wrapQ
 IntKind.i64
 (Ex.addQ
 (24 : Int)
 k)),
 Value.int
 IntKind.i64
 (Ex.wrapQ
 IntKind.i64
 (Ex.addQ
 (Ex.wrapQ
 IntKind.i64
 (Ex.addQ
 (24 : Int)
 k))
 (1 : Int))),
 Value.int
 IntKind.i64
 (0 : Int),
 Value.int
 IntKind.i64
 (0 : Int)] ++
 [Value.int IntKind.i64
 (17 : Int),
 Value.int IntKind.i64
 (Ex.wrapQ
 IntKind.i64
 (Ex.addQ
 (24 : Int) k)),
 Value.int IntKind.i64
 (0 : Int),
 Value.int IntKind.i64
 (0 : Int),
 Value.int IntKind.i64
 (0 : Int),
 Value.int IntKind.i64
 (binCd
 (Let.i
 (ns
 (0 :
 Nat))))]))
 true,
 Blk.mk (Let.n (ns (15 : Nat)))
 (Sy.Cont.obj
 (Obj.cells
 (Array.mk
 [Value.int IntKind.i64
 (17 : Int),
 Value.int
 IntKind.i64
 (Ex.wrapQ
 IntKind.i64
 (Ex.addQ
 (24 : Int)
 k)),
 Value.int
 IntKind.i64
 (0 : Int),
 Value.int
 IntKind.i64
 (0 : Int),
 Value.int
 IntKind.i64
 (0 : Int),
 Value.int
 IntKind.i64
 (binCd
 (Let.i
 (ns
 (0 :
 Nat))))])
 (29 : Nat)))
 true,
 Blk.mk (Let.n (ns (14 : Nat)))
 (Sy.Cont.obj
 (Obj.cells
 (Array.mk
 [Value.int IntKind.i64
 (16 : Int),
 Value.int
 IntKind.i64
 (0 : Int),
 Value.int
 IntKind.i64
 (Ex.wrapQ
 IntKind.i64
 (Ex.addQ
 (24 : Int)
 k)),
 Value.int
 IntKind.i64
 (Ex.wrapQ
 IntKind.i64
 (Ex.addQ
 (Ex.wrapQ
 IntKind.i64
 (Ex.addQ
 (24 : Int)
 k))
 (1 : Int))),
 Value.int
 IntKind.i64
 (0 : Int),
 Value.int
 IntKind.i64
 (0 : Int)])
 (29 : Nat)))
 true,
 Blk.mk (Let.n (ns (12 : Nat)))
 (Sy.Cont.row (29 : Nat)
 (6 : Nat)
 ((0 : Nat) +
 List.length
 (lay
 (tr l
 (Int.toNat
 (Let.i
 (ns
 (2 :
 Nat)))))
 ((24 : Int) +
 k)) +
 List.length
 (lay
 (tr l
 (Int.toNat
 (Let.i
 (ns
 (3 :
 Nat)))))
 ((24 : Int) +
 Ex.wrapQ
 IntKind.i64
 (Ex.addQ k
 (1 : Int)))))
 (Let.n (ns (13 : Nat)))
 ([] ++
 insCells
 (lay
 (tr l
 (Int.toNat
 (Let.i
 (ns
 (2 :
 Nat)))))
 ((24 : Int) +
 k)) ++
 insCells
 (lay
 (tr l
 (Int.toNat
 (Let.i
 (ns
 (3 :
 Nat)))))
 ((24 : Int) +
 Ex.wrapQ
 IntKind.i64
 (Ex.addQ k
 (1 : Int))))))
 true,
 Blk.mk (Let.n (ns (7 : Nat)))
 (Sy.Cont.row (29 : Nat)
 (6 : Nat)
 (List.length
 (lay
 (tr l
 (Int.toNat
 (Let.i
 (ns
 (3 : Nat)))))
 ((24 : Int) +
 Ex.wrapQ IntKind.i64
 (Ex.addQ k
 (1 : Int)))))
 (Let.n (ns (8 : Nat)))
 (insCells
 (lay
 (tr l
 (Int.toNat
 (Let.i
 (ns
 (3 : Nat)))))
 ((24 : Int) +
 Ex.wrapQ IntKind.i64
 (Ex.addQ k
 (1 : Int))))))
 true,
 Blk.mk (Let.n (ns (5 : Nat)))
 (Sy.Cont.row (29 : Nat)
 (6 : Nat)
 (List.length
 (lay
 (tr l
 (Int.toNat
 (Let.i
 (ns
 (2 : Nat)))))
 ((24 : Int) + k)))
 (Let.n (ns (6 : Nat)))
 (insCells
 (lay
 (tr l
 (Int.toNat
 (Let.i
 (ns
 (2 : Nat)))))
 ((24 : Int) + k))))
 true])))))))))))))
 (Sy.Res.need
 ((0 : Nat) = (0 : Nat) ∧
 List.length
 ([] ++
 insCells
 (lay
 (tr l
 (Int.toNat (Let.i (ns (2 : Nat)))))
 ((24 : Int) + k)) ++
 insCells
 (lay
 (tr l (Int.toNat (Let.i (ns (3 : Nat)))))
 ((24 : Int) +
 Ex.wrapQ IntKind.i64
 (Ex.addQ k (1 : Int))))) =
 ((0 : Nat) +
 List.length
 (lay
 (tr l
 (Int.toNat (Let.i (ns (2 : Nat)))))
 ((24 : Int) + k)) +
 List.length
 (lay
 (tr l (Int.toNat (Let.i (ns (3 : Nat)))))
 ((24 : Int) +
 Ex.wrapQ IntKind.i64
 (Ex.addQ k (1 : Int))))) *
 (6 : Nat) ∧
 ∀ (u : Value),
 u ∈
 [] ++
 insCells
 (lay
 (tr l
 (Int.toNat (Let.i (ns (2 : Nat)))))
 ((24 : Int) + k)) ++
 insCells
 (lay
 (tr l
 (Int.toNat (Let.i (ns (3 : Nat)))))
 ((24 : Int) +
 Ex.wrapQ IntKind.i64
 (Ex.addQ k (1 : Int)))) →
 Value.oneCell' u = true)
 (Sy.Res.need
 ((1 : Nat) ≤
 (0 : Nat) +
 List.length
 (lay (tr l (Int.toNat (Let.i (ns (2 : Nat)))))
 ((24 : Int) + k)) +
 List.length
 (lay (tr l (Int.toNat (Let.i (ns (3 : Nat)))))
 ((24 : Int) +
 Ex.wrapQ IntKind.i64
 (Ex.addQ k (1 : Int)))))
 (Sy.Res.need
 ((0 : Nat) +
 ((0 : Nat) +
 List.length
 (lay
 (tr l
 (Int.toNat (Let.i (ns (2 : Nat)))))
 ((24 : Int) + k)) +
 List.length
 (lay
 (tr l (Int.toNat (Let.i (ns (3 : Nat)))))
 ((24 : Int) +
 Ex.wrapQ IntKind.i64
 (Ex.addQ k (1 : Int))))) ≤
 (9223372036854775807 : Nat))
 (Sy.Res.need
 (((0 : Nat) +
 ((0 : Nat) +
 List.length
 (lay
 (tr l
 (Int.toNat
 (Let.i (ns (2 : Nat)))))
 ((24 : Int) + k)) +
 List.length
 (lay
 (tr l
 (Int.toNat (Let.i (ns (3 : Nat)))))
 ((24 : Int) +
 Ex.wrapQ IntKind.i64
 (Ex.addQ k (1 : Int)))))) *
 (48 : Nat) ≤
 (140737488355328 : Nat))
 (Sy.Res.hyp
 (Nat.le
 ((0 : Nat) +
 ((0 : Nat) +
 List.length
 (lay
 (tr l
 (Int.toNat
 (Let.i (ns (2 : Nat)))))
 ((24 : Int) + k)) +
 List.length
 (lay
 (tr l
 (Int.toNat (Let.i (ns (3 : Nat)))))
 ((24 : Int) +
 Ex.wrapQ IntKind.i64
 (Ex.addQ k (1 : Int))))))
 (Let.n (ns (17 : Nat))))
 (Sy.Res.need
 ((0 : Nat) +
 ((0 : Nat) +
 List.length
 (lay
 (tr l
 (Int.toNat
 (Let.i (ns (2 : Nat)))))
 ((24 : Int) + k)) +
 List.length
 (lay
 (tr l
 (Int.toNat
 (Let.i (ns (3 : Nat)))))
 ((24 : Int) +
 Ex.wrapQ IntKind.i64
 (Ex.addQ k (1 : Int))))) +
 (1 : Nat) ≤
 (9223372036854775807 : Nat))
 (Sy.Res.need
 (((0 : Nat) +
 ((0 : Nat) +
 List.length
 (lay
 (tr l
 (Int.toNat
 (Let.i (ns (2 : Nat)))))
 ((24 : Int) + k)) +
 List.length
 (lay
 (tr l
 (Int.toNat
 (Let.i (ns (3 : Nat)))))
 ((24 : Int) +
 Ex.wrapQ IntKind.i64
 (Ex.addQ k (1 : Int))))) +
 (1 : Nat)) *
 (48 : Nat) ≤
 (140737488355328 : Nat))
 (Sy.Res.hyp
 (Nat.le
 ((0 : Nat) +
 ((0 : Nat) +
 List.length
 (lay
 (tr l
 (Int.toNat
 (Let.i (ns (2 : Nat)))))
 ((24 : Int) + k)) +
 List.length
 (lay
 (tr l
 (Int.toNat
 (Let.i (ns (3 : Nat)))))
 ((24 : Int) +
 Ex.wrapQ IntKind.i64
 (Ex.addQ k (1 : Int))))) +
 (1 : Nat))
 (Let.n (ns (19 : Nat))))
 (Sy.Res.leaf
 (Value.slice
 (some
 (Addr.mk (Let.n (ns (18 : Nat)))
 (0 : Nat) none))
 ((0 : Nat) +
 ((0 : Nat) +
 List.length
 (lay
 (tr l
 (Int.toNat
 (Let.i
 (ns (2 : Nat)))))
 ((24 : Int) + k)) +
 List.length
 (lay
 (tr l
 (Int.toNat
 (Let.i
 (ns (3 : Nat)))))
 ((24 : Int) +
 Ex.wrapQ IntKind.i64
 (Ex.addQ k
 (1 : Int))))) +
 (1 : Nat))
 (Let.n (ns (19 : Nat))),
 [Blk.mk (Let.n (ns (18 : Nat)))
 (Sy.Cont.row (29 : Nat) (6 : Nat)
 ((0 : Nat) +
 ((0 : Nat) +
 List.length
 (lay
 (tr l
 (Int.toNat
 (Let.i
 (ns
 (2 :
 Nat)))))
 ((24 : Int) + k)) +
 List.length
 (lay
 (tr l
 (Int.toNat
 (Let.i
 (ns
 (3 : Nat)))))
 ((24 : Int) +
 Ex.wrapQ IntKind.i64
 (Ex.addQ k
 (1 : Int))))) +
 (1 : Nat))
 (Let.n (ns (19 : Nat)))
 ([] ++
 ([] ++
 insCells
 (lay
 (tr l
 (Int.toNat
 (Let.i
 (ns
 (2 :
 Nat)))))
 ((24 : Int) + k)) ++
 insCells
 (lay
 (tr l
 (Int.toNat
 (Let.i
 (ns
 (3 : Nat)))))
 ((24 : Int) +
 Ex.wrapQ IntKind.i64
 (Ex.addQ k
 (1 : Int))))) ++
 [Value.int IntKind.i64
 (binOp
 (Let.i (ns (0 : Nat)))),
 Value.int IntKind.i64
 (Ex.wrapQ IntKind.i64
 (Ex.addQ (24 : Int) k)),
 Value.int IntKind.i64
 (Ex.wrapQ IntKind.i64
 (Ex.addQ (24 : Int) k)),
 Value.int IntKind.i64
 (Ex.wrapQ IntKind.i64
 (Ex.addQ
 (Ex.wrapQ IntKind.i64
 (Ex.addQ (24 : Int)
 k))
 (1 : Int))),
 Value.int IntKind.i64
 (0 : Int),
 Value.int IntKind.i64
 (0 : Int)]))
 true,
 Blk.mk (Let.n (ns (14 : Nat)))
 (Sy.Cont.obj
 (Obj.cells
 (Array.mk
 [Value.int IntKind.i64
 (binOp
 (Let.i
 (ns (0 : Nat)))),
 Value.int IntKind.i64
 (Ex.wrapQ IntKind.i64
 (Ex.addQ (24 : Int)
 k)),
 Value.int IntKind.i64
 (Ex.wrapQ IntKind.i64
 (Ex.addQ (24 : Int)
 k)),
 Value.int IntKind.i64
 (Ex.wrapQ IntKind.i64
 (Ex.addQ
 (Ex.wrapQ
 IntKind.i64
 (Ex.addQ
 (24 : Int) k))
 (1 : Int))),
 Value.int IntKind.i64
 (0 : Int),
 Value.int IntKind.i64
 (0 : Int)])
 (29 : Nat)))
 true,
 Blk.mk (Let.n (ns (12 : Nat)))
 (Sy.Cont.row (29 : Nat) (6 : Nat)
 ((0 : Nat) +
 List.length
 (lay
 (tr l
 (Int.toNat
 (Let.i
 (ns (2 : Nat)))))
 ((24 : Int) + k)) +
 List.length
 (lay
 (tr l
 (Int.toNat
 (Let.i
 (ns (3 : Nat)))))
 ((24 : Int) +
 Ex.wrapQ IntKind.i64
 (Ex.addQ k
 (1 : Int)))))
 (Let.n (ns (13 : Nat)))
 ([] ++
 insCells
 (lay
 (tr l
 (Int.toNat
 (Let.i
 (ns (2 : Nat)))))
 ((24 : Int) + k)) ++
 insCells
 (lay
 (tr l
 (Int.toNat
 (Let.i
 (ns (3 : Nat)))))
 ((24 : Int) +
 Ex.wrapQ IntKind.i64
 (Ex.addQ k
 (1 : Int))))))
 true,
 Blk.mk (Let.n (ns (7 : Nat)))
 (Sy.Cont.row (29 : Nat) (6 : Nat)
 (List.length
 (lay
 (tr l
 (Int.toNat
 (Let.i (ns (3 : Nat)))))
 ((24 : Int) +
 Ex.wrapQ IntKind.i64
 (Ex.addQ k (1 : Int)))))
 (Let.n (ns (8 : Nat)))
 (insCells
 (lay
 (tr l
 (Int.toNat
 (Let.i (ns (3 : Nat)))))
 ((24 : Int) +
 Ex.wrapQ IntKind.i64
 (Ex.addQ k
 (1 : Int))))))
 true,
 Blk.mk (Let.n (ns (5 : Nat)))
 (Sy.Cont.row (29 : Nat) (6 : Nat)
 (List.length
 (lay
 (tr l
 (Int.toNat
 (Let.i (ns (2 : Nat)))))
 ((24 : Int) + k)))
 (Let.n (ns (6 : Nat)))
 (insCells
 (lay
 (tr l
 (Int.toNat
 (Let.i (ns (2 : Nat)))))
 ((24 : Int) + k))))
 true]))))))))))))))))))))))))))))))))))))))))
theorem ex_run (g o c : Nat) (l : List Nd) (i k : Int) (i0 : Nat) : Sy.Ran (Sy.inT Try.prog (ctxX g o c l i0) 60 fExpr (exprC g o c l i0 i k).args (Sy.blks (exprC g o c l i0 i k).mem) (Sy.rowT tI)) ex_o (ex_R g o c l i k i0) := ⟨fun ns => by kernel_rfl, fun ns => by kernel_rfl⟩

theorem ctxX_holds (g o c : Nat) (l : List Nd) (i0 : Nat) (ih : ∀ i k, Sy.Meets Try.prog (exprC g o c l i0 i k)) : (ctxX g o c l i0).holds Try.prog := Sy.mkS_holds (fun p hp a L => by
  rcases List.mem_cons.1 hp with rfl | hp
  · exact ih _ _
  rcases List.mem_cons.1 hp with rfl | hp
  · exact numC_met _ _
  rcases List.mem_singleton.1 hp with rfl
  exact binC_met _) (fun _ h => (by cases h)) (fun _ h => (by cases h))

theorem insC_len (l : List I) : (insCells l).length = l.length * 6 := by
  induction l with
  | nil => rfl
  | cons x l ih => unfold insCells at *; rw [List.flatMap_cons, List.length_append, ih, List.length_cons]; show 6 + _ = _; omega
theorem insC_app (a b : List I) : insCells (a ++ b) = insCells a ++ insCells b := by simp [insCells]
theorem insC_one (l : List I) : ∀ u ∈ insCells l, u.oneCell' = true := by
  intro u hu
  unfold insCells at hu
  obtain ⟨x, -, hx⟩ := List.mem_flatMap.1 hu
  simp only [I.cells, List.mem_cons, List.not_mem_nil, or_false] at hx
  rcases hx with rfl | rfl | rfl | rfl | rfl | rfl <;> rfl
theorem insC_len2 (a b : List I) : (insCells a ++ insCells b).length = (a.length + b.length) * 6 := by rw [← insC_app, insC_len, List.length_append]
theorem insC_one2 (a b : List I) : ∀ u ∈ insCells a ++ insCells b, u.oneCell' = true := by rw [← insC_app]; exact insC_one _
theorem add_small {a b : Int} (h0 : 0 ≤ a + b) (h1 : a + b < 1000000) : Ex.wrapQ .i64 (Ex.addQ a b) = a + b := by
  rw [Ex.wrapQ_eq, Ex.addQ_eq]
  simp [IntKind.wrap, IntKind.signed, IntKind.bits]
  omega
theorem wrap_small {a : Int} (h0 : 0 ≤ a) (h1 : a < 1000000) : Ex.wrapQ .i64 a = a := by
  rw [Ex.wrapQ_eq]
  simp [IntKind.wrap, IntKind.signed, IntKind.bits]
  omega

/-- How long it gets. -/
theorem lay_fits {l : List Nd} (h : isExpr 24 l) {i : Nat} (hi : i < l.length) (t : Int) : 0 < (lay (tr l i) t).length ∧ (lay (tr l i) t).length ≤ 262144 := by
  have h1 := lay_le (tr l i) t
  have h2 := tr_small h hi
  have h3 := h.2.2.1
  exact ⟨lay_pos _ _, by omega⟩

theorem exprC_step (g o c : Nat) (l : List Nd) (i0 : Nat) (ih : ∀ i k, Sy.Meets Try.prog (exprC g o c l i0 i k)) (i k : Int) : Sy.Meets Try.prog (exprC g o c l (i0 + 1) i k) := by
  refine Sy.meets_of (ctxX_holds g o c l i0 ih) mixed (ex_run g o c l i k i0) fun hok ns => ?_
  obtain ⟨⟨hE, hG⟩, h0, h1, h2, h3, h4⟩ : (isExpr 24 l ∧ goodN l) ∧ 0 ≤ i ∧ i < l.length ∧ i < ((i0 + 1 : Nat) : Int) ∧ 0 ≤ k ∧ k + (tr l i.toNat).needs ≤ 5 := hok
  have hok := hE.1
  simp only [ex_R, Sy.Res.holds, Sy.b_and, Sy.b_or, Sy.b_not, Sy.b_f, Sy.b_and', Sy.b_or', Sy.q_lt, Sy.q_le, Sy.q_eq, Sy.b_tt, Sy.b_ft, not_true_eq_false, not_false_eq_true]
  have hlt : i.toNat < l.length := by omega
  have ea : l[i.toNat]? = some l[i.toNat] := List.getElem?_eq_getElem hlt
  obtain ⟨a0, a1, a2, a3⟩ := nd_atI ea o
  simp only [a0, a1, a2, a3, some_int, some_bool, exists_eq', true_and]
  have hxv : goodU l[i.toNat].val := hG _ (List.getElem_mem hlt)
  generalize l[i.toNat] = x at *
  refine ⟨⟨h0, h1⟩, fun e0 e1 e2 e3 => ?_⟩
  have hnp := (tr l i.toNat).needs_pos
  have w24 : Ex.wrapQ .i64 (Ex.addQ 24 k) = 24 + k := add_small (by omega) (by omega)
  have w25 : Ex.wrapQ .i64 (Ex.addQ (24 + k) 1) = 24 + k + 1 := add_small (by omega) (by omega)
  have wk : Ex.wrapQ .i64 (Ex.addQ k 1) = k + 1 := add_small (by omega) (by omega)
  have w26 : 24 + (k + 1) = 24 + k + 1 := by omega
  simp only [← e0, ← e1, ← e2, ← e3, w24, w25, wk, w26, List.nil_append]
  have hx := hok _ x ea
  have un : 3 ≤ x.op → x.op ≤ 5 → 0 ≤ x.a ∧ x.a < i ∧ tr l i.toNat = .un x.op (tr l x.a.toNat) := fun u1 u2 => by
    have ha := ok_a hx u1
    exact ⟨ha.1, by omega, tr_un ea u1 u2 (by omega)⟩
  refine ⟨fun c1 => ⟨hxv, fun hc => Sy.rowO_leaf' (List.mem_singleton_self _) rfl 0 rfl rfl ?_ ?_ hc⟩, fun c1 => ⟨fun c2 => Sy.rowO_leaf (List.mem_singleton_self _) rfl 0 ?_ rfl ⟨rfl, rfl, ?_⟩ (by rw [tr_loc ea c2]; exact Nat.le_refl _),
    fun c2 => ⟨fun c3 => ?_, fun c3 => ⟨fun c4 => ?_, fun c4 => ⟨fun c5 => ?_, fun c5 => ?_⟩⟩⟩⟩⟩
  · rw [tr_num ea (by omega)]; rfl
  · rw [tr_num ea (by omega)]; rfl
  · rw [tr_loc ea c2]; rfl
  · rw [tr_loc ea c2]
    have hv : Ex.wrapQ .i64 x.val = x.val := by
      unfold nodeOk at hx
      unfold goodU at hxv
      exact wrap_small hxv.1 (by omega)
    rw [hv]
    exact .inr (.inl rfl)
  · obtain ⟨ha0, ha1, eT⟩ := un (by omega) (by omega)
    have hf := lay_fits hE (i := x.a.toNat) (by omega) (24 + k)
    rw [eT, E.needs] at h4
    refine ⟨⟨⟨hE, hG⟩, ha0, by omega, by omega, h3, h4⟩, fun hc0 => ⟨⟨insC_len _, insC_one _⟩, by omega, by omega, by omega, fun hc1 => ⟨by omega, by omega, fun hc2 => Sy.rowO_leaf' (List.mem_singleton_self _) rfl 0 rfl rfl ?_ ?_ hc2⟩⟩⟩
    · rw [eT]; simp [lay, unL, c3]
    · rw [eT]; simp [lay, unL, insCells, I.cells, c3]
  · obtain ⟨ha0, ha1, eT⟩ := un (by omega) (by omega)
    have hf := lay_fits hE (i := x.a.toNat) (by omega) (24 + k)
    rw [eT, E.needs] at h4
    refine ⟨⟨⟨hE, hG⟩, ha0, by omega, by omega, h3, h4⟩, fun hc0 => ⟨⟨insC_len _, insC_one _⟩, by omega, by omega, by omega, fun hc1 => ⟨by omega, by omega, fun hc2 => Sy.rowO_leaf' (List.mem_singleton_self _) rfl 0 rfl rfl ?_ ?_ hc2⟩⟩⟩
    · rw [eT]; simp [lay, unL, c4]
    · rw [eT]; simp [lay, unL, insCells, I.cells, c4]
  · obtain ⟨ha0, ha1, eT⟩ := un (by omega) (by omega)
    have hf := lay_fits hE (i := x.a.toNat) (by omega) (24 + k)
    rw [eT, E.needs] at h4
    refine ⟨⟨⟨hE, hG⟩, ha0, by omega, by omega, h3, h4⟩, fun hc0 => ⟨⟨insC_len _, insC_one _⟩, by omega, by omega, by omega, fun hc1 => ⟨by omega, by omega, fun hc2 => ⟨by omega, by omega, fun hc3 => Sy.rowO_leaf' (List.mem_singleton_self _) rfl 0 rfl rfl ?_ ?_ hc3⟩⟩⟩⟩
    · rw [eT]; simp [lay, unL, c5]
    · rw [eT]; simp [lay, unL, insCells, I.cells, c5]
  · have h6 : 6 ≤ x.op := by unfold nodeOk at hx; omega
    have h19 : x.op ≤ 19 := by unfold nodeOk at hx; omega
    have ha := ok_a hx (by omega)
    have hb := ok_b hx h6
    have eT : tr l i.toNat = .bin x.op (tr l x.a.toNat) (tr l x.b.toNat) := tr_bin ea h6 (by omega) (by omega)
    have hf := lay_fits hE (i := x.a.toNat) (by omega) (24 + k)
    have hf2 := lay_fits hE (i := x.b.toNat) (by omega) (24 + k + 1)
    rw [eT, E.needs] at h4
    refine ⟨⟨⟨hE, hG⟩, ha.1, by omega, by omega, h3, by omega⟩, fun hc0 => ⟨⟨⟨hE, hG⟩, hb.1, by omega, by omega, by omega, by omega⟩, fun hc1 => ⟨⟨insC_len _, insC_one _⟩, by omega, by omega, by omega, fun hc2 => ⟨⟨insC_len _, insC_one _⟩, by omega, by omega, by omega, fun hc3 =>
      ⟨⟨h6, h19⟩, fun _ => ⟨fun hz => ⟨⟨by rw [insC_len2]; omega, insC_one2 _ _⟩, by omega, by omega, by omega, fun hc4 => ⟨by omega, by omega, fun hc5 => ⟨by omega, by omega, fun hc6 => Sy.rowO_leaf' (List.mem_singleton_self _) rfl 0 rfl rfl ?_ ?_ hc6⟩⟩⟩,
        fun hz => ⟨⟨by rw [insC_len2]; omega, insC_one2 _ _⟩, by omega, by omega, by omega, fun hc4 => ⟨by omega, by omega, fun hc5 => Sy.rowO_leaf' (List.mem_singleton_self _) rfl 0 rfl rfl ?_ ?_ hc5⟩⟩⟩⟩⟩⟩⟩⟩
    · rw [eT]; simp only [lay, binL, if_pos hz, List.length_append, List.length_cons, List.length_nil]; omega
    · rw [eT]; simp [lay, binL, if_pos hz, insCells, I.cells, binCd]
    · rw [eT]; simp only [lay, binL, if_neg hz, List.length_append, List.length_cons, List.length_nil]; omega
    · rw [eT]; simp [lay, binL, if_neg hz, insCells, I.cells]

theorem exprC_met (g o c : Nat) (l : List Nd) : ∀ (i0 : Nat) (i k : Int), Sy.Meets Try.prog (exprC g o c l i0 i k)
  | 0, i, k => fun hok => absurd hok.2.2.2.1 (by have := hok.2.1; omega)
  | i0 + 1, i, k => exprC_step g o c l i0 (fun j k => exprC_met g o c l i0 j k) i k

end Go.Proofs.Ytgaejhhipnpopaa
