/-
  lower.number, and the reference's: the instructions that put a number into a register.
-/
import Derived.Test.YtgaejhhipnpopaaSyG
import Derived.Test.YtgaejhhipnpopaaMix
namespace Go.Proofs.Ytgaejhhipnpopaa
set_option linter.unusedVariables false
set_option linter.unusedSimpArgs false
open Go Go.RowKit
open Sy (Let Blk)

/-- An instruction. -/
structure I where
  op : Int
  rd : Int
  rn : Int
  rm : Int
  imm : Int
  cond : Int
  deriving DecidableEq

def I.cells (i : I) : List Value := [.int .i64 i.op, .int .i64 i.rd, .int .i64 i.rn, .int .i64 i.rm, .int .i64 i.imm, .int .i64 i.cond]
def insCells (l : List I) : List Value := l.flatMap I.cells

def movk (r x : Int) (i : Int) : List I := if x = 0 then [] else [⟨2, r, 0, 0, x, i⟩]
/-- What puts v into r. -/
def numL (r v : Int) : List I := ⟨1, r, 0, 0, v % 65536, 0⟩ :: (movk r (v / 65536 % 65536) 1 ++ (movk r (v / 4294967296 % 65536) 2 ++ movk r (v / 281474976710656 % 65536) 3))

def goodU (v : Int) : Prop := 0 ≤ v ∧ v < 18446744073709551616

abbrev tI : TypeId := 29

def numC (r v : Int) : Sy.CallC := ⟨28, #[.int .i64 r, .int .u64 v], goodU v, ⟨[], [], 2⟩, [Sy.rowO tI 6 (numL r v).length (insCells (numL r v)) id]⟩

/-- The reference's, behind nothing, and behind a list. -/
def rnum0 (r v : Int) : Sy.CallC := ⟨18, #[.slice none 0 0, .int .i64 r, .int .u64 v], goodU v, ⟨[], [], 2⟩, [Sy.rowO tI 6 (numL r v).length (insCells (numL r v)) id]⟩
def rnumA (g n cap : Nat) (xs : List Value) (r v : Int) : Sy.CallC := ⟨18, #[.slice (some ⟨g, 0, none⟩) n cap, .int .i64 r, .int .u64 v], goodU v ∧ n ≤ 1000000, ⟨[], [(g, .row tI 6 n cap xs)], 2⟩,
  [Sy.rowO tI 6 (n + (numL r v).length) (xs ++ insCells (numL r v)) id]⟩

def rnum0_o : Sy.O := (Sy.O.steps [0, 0, 0, 0, 0, 0, 0, 0] (Sy.O.fork (Sy.O.steps [0, 0, 0, 1, 0, 0, 0, 0, 0, 0] (Sy.O.fork (Sy.O.steps [0, 0, 0, 1, 0, 0, 0, 0, 0, 0] (Sy.O.fork (Sy.O.steps [0, 0, 0, 1, 0, 0, 0, 0, 0, 0] Sy.O.nil) (Sy.O.steps [0] Sy.O.nil))) (Sy.O.steps [0] (Sy.O.fork (Sy.O.steps [0, 0, 0, 1, 0, 0, 0, 0, 0, 0] Sy.O.nil) (Sy.O.steps [0] Sy.O.nil))))) (Sy.O.steps [0] (Sy.O.fork (Sy.O.steps [0, 0, 0, 1, 0, 0, 0, 0, 0, 0] (Sy.O.fork (Sy.O.steps [0, 0, 0, 1, 0, 0, 0, 0, 0, 0] Sy.O.nil) (Sy.O.steps [0] Sy.O.nil))) (Sy.O.steps [0] (Sy.O.fork (Sy.O.steps [0, 0, 0, 1, 0, 0, 0, 0, 0, 0] Sy.O.nil) (Sy.O.steps [0] Sy.O.nil)))))))
noncomputable def rnum0_R (r : Int) (v : Int) (ns : Nat → Sy.Let) : Sy.Res (Value × List Blk) := Sy.Res.hyp (Nat.le (1 : Nat) (Let.n (ns (2 : Nat))))
 (Sy.Res.br (!Ex.eqQ (Ex.remQ (Ex.wrapQ IntKind.u64 (Ex.quoQ v (nat_lit 65536))) (nat_lit 65536)) (0 : Int))
 (Sy.Res.hyp (Nat.le (2 : Nat) (Let.n (ns (5 : Nat))))
 (Sy.Res.br
 (!Ex.eqQ
 (Ex.remQ (Ex.wrapQ IntKind.u64 (Ex.quoQ (Ex.wrapQ IntKind.u64 (Ex.quoQ v (nat_lit 65536))) (nat_lit 65536)))
 (nat_lit 65536))
 (0 : Int))
 (Sy.Res.hyp (Nat.le (3 : Nat) (Let.n (ns (8 : Nat))))
 (Sy.Res.br
 (!Ex.eqQ
 (Ex.remQ
 (Ex.wrapQ IntKind.u64
 (Ex.quoQ
 (Ex.wrapQ IntKind.u64
 (Ex.quoQ (Ex.wrapQ IntKind.u64 (Ex.quoQ v (nat_lit 65536))) (nat_lit 65536)))
 (nat_lit 65536)))
 (nat_lit 65536))
 (0 : Int))
 (Sy.Res.hyp (Nat.le (4 : Nat) (Let.n (ns (11 : Nat))))
 (Sy.Res.leaf
 (Value.slice (some (Addr.mk (Let.n (ns (10 : Nat))) (0 : Nat) none)) (4 : Nat) (Let.n (ns (11 : Nat))),
 [Blk.mk (Let.n (ns (10 : Nat)))
 (Sy.Cont.row (29 : Nat) (6 : Nat) (4 : Nat) (Let.n (ns (11 : Nat)))
 [Value.int IntKind.i64 (1 : Int), Value.int IntKind.i64 r, Value.int IntKind.i64 (0 : Int),
 Value.int IntKind.i64 (0 : Int),
 Value.int IntKind.i64 (Ex.wrapQ IntKind.i64 (Ex.remQ v (nat_lit 65536))),
 Value.int IntKind.i64 (0 : Int), Value.int IntKind.i64 (2 : Int), Value.int IntKind.i64 r,
 Value.int IntKind.i64 (0 : Int), Value.int IntKind.i64 (0 : Int),
 Value.int IntKind.i64
 (Ex.wrapQ IntKind.i64
 (Ex.remQ (Ex.wrapQ IntKind.u64 (Ex.quoQ v (nat_lit 65536))) (nat_lit 65536))),
 Value.int IntKind.i64 (1 : Int), Value.int IntKind.i64 (2 : Int), Value.int IntKind.i64 r,
 Value.int IntKind.i64 (0 : Int), Value.int IntKind.i64 (0 : Int),
 Value.int IntKind.i64
 (Ex.wrapQ IntKind.i64
 (Ex.remQ
 (Ex.wrapQ IntKind.u64
 (Ex.quoQ (Ex.wrapQ IntKind.u64 (Ex.quoQ v (nat_lit 65536))) (nat_lit 65536)))
 (nat_lit 65536))),
 Value.int IntKind.i64 (2 : Int), Value.int IntKind.i64 (2 : Int), Value.int IntKind.i64 r,
 Value.int IntKind.i64 (0 : Int), Value.int IntKind.i64 (0 : Int),
 Value.int IntKind.i64
 (Ex.wrapQ IntKind.i64
 (Ex.remQ
 (Ex.wrapQ IntKind.u64
 (Ex.quoQ
 (Ex.wrapQ IntKind.u64
 (Ex.quoQ (Ex.wrapQ IntKind.u64 (Ex.quoQ v (nat_lit 65536))) (nat_lit 65536)))
 (nat_lit 65536)))
 (nat_lit 65536))),
 Value.int IntKind.i64 (3 : Int)])
 true,
 Blk.mk (Let.n (ns (9 : Nat)))
 (Sy.Cont.obj
 (Obj.cells
 (Array.mk
 [Value.int IntKind.i64 (2 : Int), Value.int IntKind.i64 r, Value.int IntKind.i64 (0 : Int),
 Value.int IntKind.i64 (0 : Int),
 Value.int IntKind.i64
 (Ex.wrapQ IntKind.i64
 (Ex.remQ
 (Ex.wrapQ IntKind.u64
 (Ex.quoQ
 (Ex.wrapQ IntKind.u64
 (Ex.quoQ (Ex.wrapQ IntKind.u64 (Ex.quoQ v (nat_lit 65536))) (nat_lit 65536)))
 (nat_lit 65536)))
 (nat_lit 65536))),
 Value.int IntKind.i64 (3 : Int)])
 (29 : Nat)))
 true,
 Blk.mk (Let.n (ns (6 : Nat)))
 (Sy.Cont.obj
 (Obj.cells
 (Array.mk
 [Value.int IntKind.i64 (2 : Int), Value.int IntKind.i64 r, Value.int IntKind.i64 (0 : Int),
 Value.int IntKind.i64 (0 : Int),
 Value.int IntKind.i64
 (Ex.wrapQ IntKind.i64
 (Ex.remQ
 (Ex.wrapQ IntKind.u64
 (Ex.quoQ (Ex.wrapQ IntKind.u64 (Ex.quoQ v (nat_lit 65536))) (nat_lit 65536)))
 (nat_lit 65536))),
 Value.int IntKind.i64 (2 : Int)])
 (29 : Nat)))
 true,
 Blk.mk (Let.n (ns (3 : Nat)))
 (Sy.Cont.obj
 (Obj.cells
 (Array.mk
 [Value.int IntKind.i64 (2 : Int), Value.int IntKind.i64 r, Value.int IntKind.i64 (0 : Int),
 Value.int IntKind.i64 (0 : Int),
 Value.int IntKind.i64
 (Ex.wrapQ IntKind.i64
 (Ex.remQ (Ex.wrapQ IntKind.u64 (Ex.quoQ v (nat_lit 65536))) (nat_lit 65536))),
 Value.int IntKind.i64 (1 : Int)])
 (29 : Nat)))
 true,
 Blk.mk (Let.n (ns (0 : Nat)))
 (Sy.Cont.obj
 (Obj.cells
 (Array.mk
 [Value.int IntKind.i64 (1 : Int), Value.int IntKind.i64 r, Value.int IntKind.i64 (0 : Int),
 Value.int IntKind.i64 (0 : Int),
 Value.int IntKind.i64 (Ex.wrapQ IntKind.i64 (Ex.remQ v (nat_lit 65536))),
 Value.int IntKind.i64 (0 : Int)])
 (29 : Nat)))
 true])))
 (Sy.Res.leaf
 (Value.slice (some (Addr.mk (Let.n (ns (7 : Nat))) (0 : Nat) none)) (3 : Nat) (Let.n (ns (8 : Nat))),
 [Blk.mk (Let.n (ns (7 : Nat)))
 (Sy.Cont.row (29 : Nat) (6 : Nat) (3 : Nat) (Let.n (ns (8 : Nat)))
 [Value.int IntKind.i64 (1 : Int), Value.int IntKind.i64 r, Value.int IntKind.i64 (0 : Int),
 Value.int IntKind.i64 (0 : Int),
 Value.int IntKind.i64 (Ex.wrapQ IntKind.i64 (Ex.remQ v (nat_lit 65536))),
 Value.int IntKind.i64 (0 : Int), Value.int IntKind.i64 (2 : Int), Value.int IntKind.i64 r,
 Value.int IntKind.i64 (0 : Int), Value.int IntKind.i64 (0 : Int),
 Value.int IntKind.i64
 (Ex.wrapQ IntKind.i64
 (Ex.remQ (Ex.wrapQ IntKind.u64 (Ex.quoQ v (nat_lit 65536))) (nat_lit 65536))),
 Value.int IntKind.i64 (1 : Int), Value.int IntKind.i64 (2 : Int), Value.int IntKind.i64 r,
 Value.int IntKind.i64 (0 : Int), Value.int IntKind.i64 (0 : Int),
 Value.int IntKind.i64
 (Ex.wrapQ IntKind.i64
 (Ex.remQ
 (Ex.wrapQ IntKind.u64
 (Ex.quoQ (Ex.wrapQ IntKind.u64 (Ex.quoQ v (nat_lit 65536))) (nat_lit 65536)))
 (nat_lit 65536))),
 Value.int IntKind.i64 (2 : Int)])
 true,
 Blk.mk (Let.n (ns (6 : Nat)))
 (Sy.Cont.obj
 (Obj.cells
 (Array.mk
 [Value.int IntKind.i64 (2 : Int), Value.int IntKind.i64 r, Value.int IntKind.i64 (0 : Int),
 Value.int IntKind.i64 (0 : Int),
 Value.int IntKind.i64
 (Ex.wrapQ IntKind.i64
 (Ex.remQ
 (Ex.wrapQ IntKind.u64
 (Ex.quoQ (Ex.wrapQ IntKind.u64 (Ex.quoQ v (nat_lit 65536))) (nat_lit 65536)))
 (nat_lit 65536))),
 Value.int IntKind.i64 (2 : Int)])
 (29 : Nat)))
 true,
 Blk.mk (Let.n (ns (3 : Nat)))
 (Sy.Cont.obj
 (Obj.cells
 (Array.mk
 [Value.int IntKind.i64 (2 : Int), Value.int IntKind.i64 r, Value.int IntKind.i64 (0 : Int),
 Value.int IntKind.i64 (0 : Int),
 Value.int IntKind.i64
 (Ex.wrapQ IntKind.i64
 (Ex.remQ (Ex.wrapQ IntKind.u64 (Ex.quoQ v (nat_lit 65536))) (nat_lit 65536))),
 Value.int IntKind.i64 (1 : Int)])
 (29 : Nat)))
 true,
 Blk.mk (Let.n (ns (0 : Nat)))
 (Sy.Cont.obj
 (Obj.cells
 (Array.mk
 [Value.int IntKind.i64 (1 : Int), Value.int IntKind.i64 r, Value.int IntKind.i64 (0 : Int),
 Value.int IntKind.i64 (0 : Int),
 Value.int IntKind.i64 (Ex.wrapQ IntKind.i64 (Ex.remQ v (nat_lit 65536))),
 Value.int IntKind.i64 (0 : Int)])
 (29 : Nat)))
 true]))))
 (Sy.Res.br
 (!Ex.eqQ
 (Ex.remQ
 (Ex.wrapQ IntKind.u64
 (Ex.quoQ
 (Ex.wrapQ IntKind.u64 (Ex.quoQ (Ex.wrapQ IntKind.u64 (Ex.quoQ v (nat_lit 65536))) (nat_lit 65536)))
 (nat_lit 65536)))
 (nat_lit 65536))
 (0 : Int))
 (Sy.Res.hyp (Nat.le (3 : Nat) (Let.n (ns (8 : Nat))))
 (Sy.Res.leaf
 (Value.slice (some (Addr.mk (Let.n (ns (7 : Nat))) (0 : Nat) none)) (3 : Nat) (Let.n (ns (8 : Nat))),
 [Blk.mk (Let.n (ns (7 : Nat)))
 (Sy.Cont.row (29 : Nat) (6 : Nat) (3 : Nat) (Let.n (ns (8 : Nat)))
 [Value.int IntKind.i64 (1 : Int), Value.int IntKind.i64 r, Value.int IntKind.i64 (0 : Int),
 Value.int IntKind.i64 (0 : Int),
 Value.int IntKind.i64 (Ex.wrapQ IntKind.i64 (Ex.remQ v (nat_lit 65536))),
 Value.int IntKind.i64 (0 : Int), Value.int IntKind.i64 (2 : Int), Value.int IntKind.i64 r,
 Value.int IntKind.i64 (0 : Int), Value.int IntKind.i64 (0 : Int),
 Value.int IntKind.i64
 (Ex.wrapQ IntKind.i64
 (Ex.remQ (Ex.wrapQ IntKind.u64 (Ex.quoQ v (nat_lit 65536))) (nat_lit 65536))),
 Value.int IntKind.i64 (1 : Int), Value.int IntKind.i64 (2 : Int), Value.int IntKind.i64 r,
 Value.int IntKind.i64 (0 : Int), Value.int IntKind.i64 (0 : Int),
 Value.int IntKind.i64
 (Ex.wrapQ IntKind.i64
 (Ex.remQ
 (Ex.wrapQ IntKind.u64
 (Ex.quoQ
 (Ex.wrapQ IntKind.u64
 (Ex.quoQ (Ex.wrapQ IntKind.u64 (Ex.quoQ v (nat_lit 65536))) (nat_lit 65536)))
 (nat_lit 65536)))
 (nat_lit 65536))),
 Value.int IntKind.i64 (3 : Int)])
 true,
 Blk.mk (Let.n (ns (6 : Nat)))
 (Sy.Cont.obj
 (Obj.cells
 (Array.mk
 [Value.int IntKind.i64 (2 : Int), Value.int IntKind.i64 r, Value.int IntKind.i64 (0 : Int),
 Value.int IntKind.i64 (0 : Int),
 Value.int IntKind.i64
 (Ex.wrapQ IntKind.i64
 (Ex.remQ
 (Ex.wrapQ IntKind.u64
 (Ex.quoQ
 (Ex.wrapQ IntKind.u64
 (Ex.quoQ (Ex.wrapQ IntKind.u64 (Ex.quoQ v (nat_lit 65536))) (nat_lit 65536)))
 (nat_lit 65536)))
 (nat_lit 65536))),
 Value.int IntKind.i64 (3 : Int)])
 (29 : Nat)))
 true,
 Blk.mk (Let.n (ns (3 : Nat)))
 (Sy.Cont.obj
 (Obj.cells
 (Array.mk
 [Value.int IntKind.i64 (2 : Int), Value.int IntKind.i64 r, Value.int IntKind.i64 (0 : Int),
 Value.int IntKind.i64 (0 : Int),
 Value.int IntKind.i64
 (Ex.wrapQ IntKind.i64
 (Ex.remQ (Ex.wrapQ IntKind.u64 (Ex.quoQ v (nat_lit 65536))) (nat_lit 65536))),
 Value.int IntKind.i64 (1 : Int)])
 (29 : Nat)))
 true,
 Blk.mk (Let.n (ns (0 : Nat)))
 (Sy.Cont.obj
 (Obj.cells
 (Array.mk
 [Value.int IntKind.i64 (1 : Int), Value.int IntKind.i64 r, Value.int IntKind.i64 (0 : Int),
 Value.int IntKind.i64 (0 : Int),
 Value.int IntKind.i64 (Ex.wrapQ IntKind.i64 (Ex.remQ v (nat_lit 65536))),
 Value.int IntKind.i64 (0 : Int)])
 (29 : Nat)))
 true])))
 (Sy.Res.leaf
 (Value.slice (some (Addr.mk (Let.n (ns (4 : Nat))) (0 : Nat) none)) (2 : Nat) (Let.n (ns (5 : Nat))),
 [Blk.mk (Let.n (ns (4 : Nat)))
 (Sy.Cont.row (29 : Nat) (6 : Nat) (2 : Nat) (Let.n (ns (5 : Nat)))
 [Value.int IntKind.i64 (1 : Int), Value.int IntKind.i64 r, Value.int IntKind.i64 (0 : Int),
 Value.int IntKind.i64 (0 : Int),
 Value.int IntKind.i64 (Ex.wrapQ IntKind.i64 (Ex.remQ v (nat_lit 65536))),
 Value.int IntKind.i64 (0 : Int), Value.int IntKind.i64 (2 : Int), Value.int IntKind.i64 r,
 Value.int IntKind.i64 (0 : Int), Value.int IntKind.i64 (0 : Int),
 Value.int IntKind.i64
 (Ex.wrapQ IntKind.i64
 (Ex.remQ (Ex.wrapQ IntKind.u64 (Ex.quoQ v (nat_lit 65536))) (nat_lit 65536))),
 Value.int IntKind.i64 (1 : Int)])
 true,
 Blk.mk (Let.n (ns (3 : Nat)))
 (Sy.Cont.obj
 (Obj.cells
 (Array.mk
 [Value.int IntKind.i64 (2 : Int), Value.int IntKind.i64 r, Value.int IntKind.i64 (0 : Int),
 Value.int IntKind.i64 (0 : Int),
 Value.int IntKind.i64
 (Ex.wrapQ IntKind.i64
 (Ex.remQ (Ex.wrapQ IntKind.u64 (Ex.quoQ v (nat_lit 65536))) (nat_lit 65536))),
 Value.int IntKind.i64 (1 : Int)])
 (29 : Nat)))
 true,
 Blk.mk (Let.n (ns (0 : Nat)))
 (Sy.Cont.obj
 (Obj.cells
 (Array.mk
 [Value.int IntKind.i64 (1 : Int), Value.int IntKind.i64 r, Value.int IntKind.i64 (0 : Int),
 Value.int IntKind.i64 (0 : Int),
 Value.int IntKind.i64 (Ex.wrapQ IntKind.i64 (Ex.remQ v (nat_lit 65536))),
 Value.int IntKind.i64 (0 : Int)])
 (29 : Nat)))
 true])))))
 (Sy.Res.br
 (!Ex.eqQ
 (Ex.remQ (Ex.wrapQ IntKind.u64 (Ex.quoQ (Ex.wrapQ IntKind.u64 (Ex.quoQ v (nat_lit 65536))) (nat_lit 65536)))
 (nat_lit 65536))
 (0 : Int))
 (Sy.Res.hyp (Nat.le (2 : Nat) (Let.n (ns (5 : Nat))))
 (Sy.Res.br
 (!Ex.eqQ
 (Ex.remQ
 (Ex.wrapQ IntKind.u64
 (Ex.quoQ
 (Ex.wrapQ IntKind.u64 (Ex.quoQ (Ex.wrapQ IntKind.u64 (Ex.quoQ v (nat_lit 65536))) (nat_lit 65536)))
 (nat_lit 65536)))
 (nat_lit 65536))
 (0 : Int))
 (Sy.Res.hyp (Nat.le (3 : Nat) (Let.n (ns (8 : Nat))))
 (Sy.Res.leaf
 (Value.slice (some (Addr.mk (Let.n (ns (7 : Nat))) (0 : Nat) none)) (3 : Nat) (Let.n (ns (8 : Nat))),
 [Blk.mk (Let.n (ns (7 : Nat)))
 (Sy.Cont.row (29 : Nat) (6 : Nat) (3 : Nat) (Let.n (ns (8 : Nat)))
 [Value.int IntKind.i64 (1 : Int), Value.int IntKind.i64 r, Value.int IntKind.i64 (0 : Int),
 Value.int IntKind.i64 (0 : Int),
 Value.int IntKind.i64 (Ex.wrapQ IntKind.i64 (Ex.remQ v (nat_lit 65536))),
 Value.int IntKind.i64 (0 : Int), Value.int IntKind.i64 (2 : Int), Value.int IntKind.i64 r,
 Value.int IntKind.i64 (0 : Int), Value.int IntKind.i64 (0 : Int),
 Value.int IntKind.i64
 (Ex.wrapQ IntKind.i64
 (Ex.remQ
 (Ex.wrapQ IntKind.u64
 (Ex.quoQ (Ex.wrapQ IntKind.u64 (Ex.quoQ v (nat_lit 65536))) (nat_lit 65536)))
 (nat_lit 65536))),
 Value.int IntKind.i64 (2 : Int), Value.int IntKind.i64 (2 : Int), Value.int IntKind.i64 r,
 Value.int IntKind.i64 (0 : Int), Value.int IntKind.i64 (0 : Int),
 Value.int IntKind.i64
 (Ex.wrapQ IntKind.i64
 (Ex.remQ
 (Ex.wrapQ IntKind.u64
 (Ex.quoQ
 (Ex.wrapQ IntKind.u64
 (Ex.quoQ (Ex.wrapQ IntKind.u64 (Ex.quoQ v (nat_lit 65536))) (nat_lit 65536)))
 (nat_lit 65536)))
 (nat_lit 65536))),
 Value.int IntKind.i64 (3 : Int)])
 true,
 Blk.mk (Let.n (ns (6 : Nat)))
 (Sy.Cont.obj
 (Obj.cells
 (Array.mk
 [Value.int IntKind.i64 (2 : Int), Value.int IntKind.i64 r, Value.int IntKind.i64 (0 : Int),
 Value.int IntKind.i64 (0 : Int),
 Value.int IntKind.i64
 (Ex.wrapQ IntKind.i64
 (Ex.remQ
 (Ex.wrapQ IntKind.u64
 (Ex.quoQ
 (Ex.wrapQ IntKind.u64
 (Ex.quoQ (Ex.wrapQ IntKind.u64 (Ex.quoQ v (nat_lit 65536))) (nat_lit 65536)))
 (nat_lit 65536)))
 (nat_lit 65536))),
 Value.int IntKind.i64 (3 : Int)])
 (29 : Nat)))
 true,
 Blk.mk (Let.n (ns (3 : Nat)))
 (Sy.Cont.obj
 (Obj.cells
 (Array.mk
 [Value.int IntKind.i64 (2 : Int), Value.int IntKind.i64 r, Value.int IntKind.i64 (0 : Int),
 Value.int IntKind.i64 (0 : Int),
 Value.int IntKind.i64
 (Ex.wrapQ IntKind.i64
 (Ex.remQ
 (Ex.wrapQ IntKind.u64
 (Ex.quoQ (Ex.wrapQ IntKind.u64 (Ex.quoQ v (nat_lit 65536))) (nat_lit 65536)))
 (nat_lit 65536))),
 Value.int IntKind.i64 (2 : Int)])
 (29 : Nat)))
 true,
 Blk.mk (Let.n (ns (0 : Nat)))
 (Sy.Cont.obj
 (Obj.cells
 (Array.mk
 [Value.int IntKind.i64 (1 : Int), Value.int IntKind.i64 r, Value.int IntKind.i64 (0 : Int),
 Value.int IntKind.i64 (0 : Int),
 Value.int IntKind.i64 (Ex.wrapQ IntKind.i64 (Ex.remQ v (nat_lit 65536))),
 Value.int IntKind.i64 (0 : Int)])
 (29 : Nat)))
 true])))
 (Sy.Res.leaf
 (Value.slice (some (Addr.mk (Let.n (ns (4 : Nat))) (0 : Nat) none)) (2 : Nat) (Let.n (ns (5 : Nat))),
 [Blk.mk (Let.n (ns (4 : Nat)))
 (Sy.Cont.row (29 : Nat) (6 : Nat) (2 : Nat) (Let.n (ns (5 : Nat)))
 [Value.int IntKind.i64 (1 : Int), Value.int IntKind.i64 r, Value.int IntKind.i64 (0 : Int),
 Value.int IntKind.i64 (0 : Int),
 Value.int IntKind.i64 (Ex.wrapQ IntKind.i64 (Ex.remQ v (nat_lit 65536))),
 Value.int IntKind.i64 (0 : Int), Value.int IntKind.i64 (2 : Int), Value.int IntKind.i64 r,
 Value.int IntKind.i64 (0 : Int), Value.int IntKind.i64 (0 : Int),
 Value.int IntKind.i64
 (Ex.wrapQ IntKind.i64
 (Ex.remQ
 (Ex.wrapQ IntKind.u64
 (Ex.quoQ (Ex.wrapQ IntKind.u64 (Ex.quoQ v (nat_lit 65536))) (nat_lit 65536)))
 (nat_lit 65536))),
 Value.int IntKind.i64 (2 : Int)])
 true,
 Blk.mk (Let.n (ns (3 : Nat)))
 (Sy.Cont.obj
 (Obj.cells
 (Array.mk
 [Value.int IntKind.i64 (2 : Int), Value.int IntKind.i64 r, Value.int IntKind.i64 (0 : Int),
 Value.int IntKind.i64 (0 : Int),
 Value.int IntKind.i64
 (Ex.wrapQ IntKind.i64
 (Ex.remQ
 (Ex.wrapQ IntKind.u64
 (Ex.quoQ (Ex.wrapQ IntKind.u64 (Ex.quoQ v (nat_lit 65536))) (nat_lit 65536)))
 (nat_lit 65536))),
 Value.int IntKind.i64 (2 : Int)])
 (29 : Nat)))
 true,
 Blk.mk (Let.n (ns (0 : Nat)))
 (Sy.Cont.obj
 (Obj.cells
 (Array.mk
 [Value.int IntKind.i64 (1 : Int), Value.int IntKind.i64 r, Value.int IntKind.i64 (0 : Int),
 Value.int IntKind.i64 (0 : Int),
 Value.int IntKind.i64 (Ex.wrapQ IntKind.i64 (Ex.remQ v (nat_lit 65536))),
 Value.int IntKind.i64 (0 : Int)])
 (29 : Nat)))
 true]))))
 (Sy.Res.br
 (!Ex.eqQ
 (Ex.remQ
 (Ex.wrapQ IntKind.u64
 (Ex.quoQ
 (Ex.wrapQ IntKind.u64 (Ex.quoQ (Ex.wrapQ IntKind.u64 (Ex.quoQ v (nat_lit 65536))) (nat_lit 65536)))
 (nat_lit 65536)))
 (nat_lit 65536))
 (0 : Int))
 (Sy.Res.hyp (Nat.le (2 : Nat) (Let.n (ns (5 : Nat))))
 (Sy.Res.leaf
 (Value.slice (some (Addr.mk (Let.n (ns (4 : Nat))) (0 : Nat) none)) (2 : Nat) (Let.n (ns (5 : Nat))),
 [Blk.mk (Let.n (ns (4 : Nat)))
 (Sy.Cont.row (29 : Nat) (6 : Nat) (2 : Nat) (Let.n (ns (5 : Nat)))
 [Value.int IntKind.i64 (1 : Int), Value.int IntKind.i64 r, Value.int IntKind.i64 (0 : Int),
 Value.int IntKind.i64 (0 : Int),
 Value.int IntKind.i64 (Ex.wrapQ IntKind.i64 (Ex.remQ v (nat_lit 65536))),
 Value.int IntKind.i64 (0 : Int), Value.int IntKind.i64 (2 : Int), Value.int IntKind.i64 r,
 Value.int IntKind.i64 (0 : Int), Value.int IntKind.i64 (0 : Int),
 Value.int IntKind.i64
 (Ex.wrapQ IntKind.i64
 (Ex.remQ
 (Ex.wrapQ IntKind.u64
 (Ex.quoQ
 (Ex.wrapQ IntKind.u64
 (Ex.quoQ (Ex.wrapQ IntKind.u64 (Ex.quoQ v (nat_lit 65536))) (nat_lit 65536)))
 (nat_lit 65536)))
 (nat_lit 65536))),
 Value.int IntKind.i64 (3 : Int)])
 true,
 Blk.mk (Let.n (ns (3 : Nat)))
 (Sy.Cont.obj
 (Obj.cells
 (Array.mk
 [Value.int IntKind.i64 (2 : Int), Value.int IntKind.i64 r, Value.int IntKind.i64 (0 : Int),
 Value.int IntKind.i64 (0 : Int),
 Value.int IntKind.i64
 (Ex.wrapQ IntKind.i64
 (Ex.remQ
 (Ex.wrapQ IntKind.u64
 (Ex.quoQ
 (Ex.wrapQ IntKind.u64
 (Ex.quoQ (Ex.wrapQ IntKind.u64 (Ex.quoQ v (nat_lit 65536))) (nat_lit 65536)))
 (nat_lit 65536)))
 (nat_lit 65536))),
 Value.int IntKind.i64 (3 : Int)])
 (29 : Nat)))
 true,
 Blk.mk (Let.n (ns (0 : Nat)))
 (Sy.Cont.obj
 (Obj.cells
 (Array.mk
 [Value.int IntKind.i64 (1 : Int), Value.int IntKind.i64 r, Value.int IntKind.i64 (0 : Int),
 Value.int IntKind.i64 (0 : Int),
 Value.int IntKind.i64 (Ex.wrapQ IntKind.i64 (Ex.remQ v (nat_lit 65536))),
 Value.int IntKind.i64 (0 : Int)])
 (29 : Nat)))
 true])))
 (Sy.Res.leaf
 (Value.slice (some (Addr.mk (Let.n (ns (1 : Nat))) (0 : Nat) none)) (1 : Nat) (Let.n (ns (2 : Nat))),
 [Blk.mk (Let.n (ns (1 : Nat)))
 (Sy.Cont.row (29 : Nat) (6 : Nat) (1 : Nat) (Let.n (ns (2 : Nat)))
 [Value.int IntKind.i64 (1 : Int), Value.int IntKind.i64 r, Value.int IntKind.i64 (0 : Int),
 Value.int IntKind.i64 (0 : Int),
 Value.int IntKind.i64 (Ex.wrapQ IntKind.i64 (Ex.remQ v (nat_lit 65536))),
 Value.int IntKind.i64 (0 : Int)])
 true,
 Blk.mk (Let.n (ns (0 : Nat)))
 (Sy.Cont.obj
 (Obj.cells
 (Array.mk
 [Value.int IntKind.i64 (1 : Int), Value.int IntKind.i64 r, Value.int IntKind.i64 (0 : Int),
 Value.int IntKind.i64 (0 : Int),
 Value.int IntKind.i64 (Ex.wrapQ IntKind.i64 (Ex.remQ v (nat_lit 65536))),
 Value.int IntKind.i64 (0 : Int)])
 (29 : Nat)))
 true])))))
theorem rnum0_run (r v : Int) : Sy.Ran (Sy.inT Try.prog Sy.S0 100 18 #[.slice none 0 0, .int .i64 r, .int .u64 v] [] (Sy.rowT tI)) rnum0_o (rnum0_R r v) := ⟨fun ns => by kernel_rfl, fun ns => by kernel_rfl⟩
def rnumA_o : Sy.O := (Sy.O.steps [0, 0, 0, 1, 0, 1, 1, 0, 0, 0] (Sy.O.fork (Sy.O.steps [0, 0, 0, 1, 0, 1, 1, 0, 0, 0] (Sy.O.fork (Sy.O.steps [0, 0, 0, 1, 0, 1, 1, 0, 0, 0] (Sy.O.fork (Sy.O.steps [0, 0, 0, 1, 0, 1, 1, 0, 0, 0] Sy.O.nil) (Sy.O.steps [0] Sy.O.nil))) (Sy.O.steps [0] (Sy.O.fork (Sy.O.steps [0, 0, 0, 1, 0, 1, 1, 0, 0, 0] Sy.O.nil) (Sy.O.steps [0] Sy.O.nil))))) (Sy.O.steps [0] (Sy.O.fork (Sy.O.steps [0, 0, 0, 1, 0, 1, 1, 0, 0, 0] (Sy.O.fork (Sy.O.steps [0, 0, 0, 1, 0, 1, 1, 0, 0, 0] Sy.O.nil) (Sy.O.steps [0] Sy.O.nil))) (Sy.O.steps [0] (Sy.O.fork (Sy.O.steps [0, 0, 0, 1, 0, 1, 1, 0, 0, 0] Sy.O.nil) (Sy.O.steps [0] Sy.O.nil)))))))
noncomputable def rnumA_R (g : Nat) (n : Nat) (cap : Nat) (xs : List Value) (r : Int) (v : Int) (ns : Nat → Sy.Let) : Sy.Res (Value × List Blk) := Sy.Res.need (n + (1 : Nat) ≤ (9223372036854775807 : Nat))
 (Sy.Res.need ((n + (1 : Nat)) * (48 : Nat) ≤ (140737488355328 : Nat))
 (Sy.Res.hyp (Nat.le (n + (1 : Nat)) (Let.n (ns (2 : Nat))))
 (Sy.Res.br (!Ex.eqQ (Ex.remQ (Ex.wrapQ IntKind.u64 (Ex.quoQ v (nat_lit 65536))) (nat_lit 65536)) (0 : Int))
 (Sy.Res.need (n + (1 : Nat) + (1 : Nat) ≤ (9223372036854775807 : Nat))
 (Sy.Res.need ((n + (1 : Nat) + (1 : Nat)) * (48 : Nat) ≤ (140737488355328 : Nat))
 (Sy.Res.hyp (Nat.le (n + (1 : Nat) + (1 : Nat)) (Let.n (ns (5 : Nat))))
 (Sy.Res.br
 (!Ex.eqQ
 (Ex.remQ
 (Ex.wrapQ IntKind.u64
 (Ex.quoQ (Ex.wrapQ IntKind.u64 (Ex.quoQ v (nat_lit 65536))) (nat_lit 65536)))
 (nat_lit 65536))
 (0 : Int))
 (Sy.Res.need (n + (1 : Nat) + (1 : Nat) + (1 : Nat) ≤ (9223372036854775807 : Nat))
 (Sy.Res.need ((n + (1 : Nat) + (1 : Nat) + (1 : Nat)) * (48 : Nat) ≤ (140737488355328 : Nat))
 (Sy.Res.hyp (Nat.le (n + (1 : Nat) + (1 : Nat) + (1 : Nat)) (Let.n (ns (8 : Nat))))
 (Sy.Res.br
 (!Ex.eqQ
 (Ex.remQ
 (Ex.wrapQ IntKind.u64
 (Ex.quoQ
 (Ex.wrapQ IntKind.u64
 (Ex.quoQ (Ex.wrapQ IntKind.u64 (Ex.quoQ v (nat_lit 65536))) (nat_lit 65536)))
 (nat_lit 65536)))
 (nat_lit 65536))
 (0 : Int))
 (Sy.Res.need (n + (1 : Nat) + (1 : Nat) + (1 : Nat) + (1 : Nat) ≤ (9223372036854775807 : Nat))
 (Sy.Res.need
 ((n + (1 : Nat) + (1 : Nat) + (1 : Nat) + (1 : Nat)) * (48 : Nat) ≤ (140737488355328 : Nat))
 (Sy.Res.hyp
 (Nat.le (n + (1 : Nat) + (1 : Nat) + (1 : Nat) + (1 : Nat)) (Let.n (ns (11 : Nat))))
 (Sy.Res.leaf
 (Value.slice (some (Addr.mk (Let.n (ns (10 : Nat))) (0 : Nat) none))
 (n + (1 : Nat) + (1 : Nat) + (1 : Nat) + (1 : Nat)) (Let.n (ns (11 : Nat))),
 [Blk.mk (Let.n (ns (10 : Nat)))
 (Sy.Cont.row (29 : Nat) (6 : Nat)
 (n + (1 : Nat) + (1 : Nat) + (1 : Nat) + (1 : Nat)) (Let.n (ns (11 : Nat)))
 (xs ++
 [Value.int IntKind.i64 (1 : Int), Value.int IntKind.i64 r,
 Value.int IntKind.i64 (0 : Int), Value.int IntKind.i64 (0 : Int),
 Value.int IntKind.i64
 (Ex.wrapQ IntKind.i64 (Ex.remQ v (nat_lit 65536))),
 Value.int IntKind.i64 (0 : Int)] ++
 [Value.int IntKind.i64 (2 : Int), Value.int IntKind.i64 r,
 Value.int IntKind.i64 (0 : Int), Value.int IntKind.i64 (0 : Int),
 Value.int IntKind.i64
 (Ex.wrapQ IntKind.i64
 (Ex.remQ (Ex.wrapQ IntKind.u64 (Ex.quoQ v (nat_lit 65536)))
 (nat_lit 65536))),
 Value.int IntKind.i64 (1 : Int)] ++
 [Value.int IntKind.i64 (2 : Int), Value.int IntKind.i64 r,
 Value.int IntKind.i64 (0 : Int), Value.int IntKind.i64 (0 : Int),
 Value.int IntKind.i64
 (Ex.wrapQ IntKind.i64
 (Ex.remQ
 (Ex.wrapQ IntKind.u64
 (Ex.quoQ (Ex.wrapQ IntKind.u64 (Ex.quoQ v (nat_lit 65536)))
 (nat_lit 65536)))
 (nat_lit 65536))),
 Value.int IntKind.i64 (2 : Int)] ++
 [Value.int IntKind.i64 (2 : Int), Value.int IntKind.i64 r,
 Value.int IntKind.i64 (0 : Int), Value.int IntKind.i64 (0 : Int),
 Value.int IntKind.i64
 (Ex.wrapQ IntKind.i64
 (Ex.remQ
 (Ex.wrapQ IntKind.u64
 (Ex.quoQ
 (Ex.wrapQ IntKind.u64
 (Ex.quoQ (Ex.wrapQ IntKind.u64 (Ex.quoQ v (nat_lit 65536)))
 (nat_lit 65536)))
 (nat_lit 65536)))
 (nat_lit 65536))),
 Value.int IntKind.i64 (3 : Int)]))
 true,
 Blk.mk (Let.n (ns (9 : Nat)))
 (Sy.Cont.obj
 (Obj.cells
 (Array.mk
 [Value.int IntKind.i64 (2 : Int), Value.int IntKind.i64 r,
 Value.int IntKind.i64 (0 : Int), Value.int IntKind.i64 (0 : Int),
 Value.int IntKind.i64
 (Ex.wrapQ IntKind.i64
 (Ex.remQ
 (Ex.wrapQ IntKind.u64
 (Ex.quoQ
 (Ex.wrapQ IntKind.u64
 (Ex.quoQ (Ex.wrapQ IntKind.u64 (Ex.quoQ v (nat_lit 65536)))
 (nat_lit 65536)))
 (nat_lit 65536)))
 (nat_lit 65536))),
 Value.int IntKind.i64 (3 : Int)])
 (29 : Nat)))
 true,
 Blk.mk (Let.n (ns (6 : Nat)))
 (Sy.Cont.obj
 (Obj.cells
 (Array.mk
 [Value.int IntKind.i64 (2 : Int), Value.int IntKind.i64 r,
 Value.int IntKind.i64 (0 : Int), Value.int IntKind.i64 (0 : Int),
 Value.int IntKind.i64
 (Ex.wrapQ IntKind.i64
 (Ex.remQ
 (Ex.wrapQ IntKind.u64
 (Ex.quoQ (Ex.wrapQ IntKind.u64 (Ex.quoQ v (nat_lit 65536)))
 (nat_lit 65536)))
 (nat_lit 65536))),
 Value.int IntKind.i64 (2 : Int)])
 (29 : Nat)))
 true,
 Blk.mk (Let.n (ns (3 : Nat)))
 (Sy.Cont.obj
 (Obj.cells
 (Array.mk
 [Value.int IntKind.i64 (2 : Int), Value.int IntKind.i64 r,
 Value.int IntKind.i64 (0 : Int), Value.int IntKind.i64 (0 : Int),
 Value.int IntKind.i64
 (Ex.wrapQ IntKind.i64
 (Ex.remQ (Ex.wrapQ IntKind.u64 (Ex.quoQ v (nat_lit 65536)))
 (nat_lit 65536))),
 Value.int IntKind.i64 (1 : Int)])
 (29 : Nat)))
 true,
 Blk.mk (Let.n (ns (0 : Nat)))
 (Sy.Cont.obj
 (Obj.cells
 (Array.mk
 [Value.int IntKind.i64 (1 : Int), Value.int IntKind.i64 r,
 Value.int IntKind.i64 (0 : Int), Value.int IntKind.i64 (0 : Int),
 Value.int IntKind.i64 (Ex.wrapQ IntKind.i64 (Ex.remQ v (nat_lit 65536))),
 Value.int IntKind.i64 (0 : Int)])
 (29 : Nat)))
 true])))))
 (Sy.Res.leaf
 (Value.slice (some (Addr.mk (Let.n (ns (7 : Nat))) (0 : Nat) none))
 (n + (1 : Nat) + (1 : Nat) + (1 : Nat)) (Let.n (ns (8 : Nat))),
 [Blk.mk (Let.n (ns (7 : Nat)))
 (Sy.Cont.row (29 : Nat) (6 : Nat) (n + (1 : Nat) + (1 : Nat) + (1 : Nat))
 (Let.n (ns (8 : Nat)))
 (xs ++
 [Value.int IntKind.i64 (1 : Int), Value.int IntKind.i64 r,
 Value.int IntKind.i64 (0 : Int), Value.int IntKind.i64 (0 : Int),
 Value.int IntKind.i64 (Ex.wrapQ IntKind.i64 (Ex.remQ v (nat_lit 65536))),
 Value.int IntKind.i64 (0 : Int)] ++
 [Value.int IntKind.i64 (2 : Int), Value.int IntKind.i64 r,
 Value.int IntKind.i64 (0 : Int), Value.int IntKind.i64 (0 : Int),
 Value.int IntKind.i64
 (Ex.wrapQ IntKind.i64
 (Ex.remQ (Ex.wrapQ IntKind.u64 (Ex.quoQ v (nat_lit 65536)))
 (nat_lit 65536))),
 Value.int IntKind.i64 (1 : Int)] ++
 [Value.int IntKind.i64 (2 : Int), Value.int IntKind.i64 r,
 Value.int IntKind.i64 (0 : Int), Value.int IntKind.i64 (0 : Int),
 Value.int IntKind.i64
 (Ex.wrapQ IntKind.i64
 (Ex.remQ
 (Ex.wrapQ IntKind.u64
 (Ex.quoQ (Ex.wrapQ IntKind.u64 (Ex.quoQ v (nat_lit 65536)))
 (nat_lit 65536)))
 (nat_lit 65536))),
 Value.int IntKind.i64 (2 : Int)]))
 true,
 Blk.mk (Let.n (ns (6 : Nat)))
 (Sy.Cont.obj
 (Obj.cells
 (Array.mk
 [Value.int IntKind.i64 (2 : Int), Value.int IntKind.i64 r,
 Value.int IntKind.i64 (0 : Int), Value.int IntKind.i64 (0 : Int),
 Value.int IntKind.i64
 (Ex.wrapQ IntKind.i64
 (Ex.remQ
 (Ex.wrapQ IntKind.u64
 (Ex.quoQ (Ex.wrapQ IntKind.u64 (Ex.quoQ v (nat_lit 65536)))
 (nat_lit 65536)))
 (nat_lit 65536))),
 Value.int IntKind.i64 (2 : Int)])
 (29 : Nat)))
 true,
 Blk.mk (Let.n (ns (3 : Nat)))
 (Sy.Cont.obj
 (Obj.cells
 (Array.mk
 [Value.int IntKind.i64 (2 : Int), Value.int IntKind.i64 r,
 Value.int IntKind.i64 (0 : Int), Value.int IntKind.i64 (0 : Int),
 Value.int IntKind.i64
 (Ex.wrapQ IntKind.i64
 (Ex.remQ (Ex.wrapQ IntKind.u64 (Ex.quoQ v (nat_lit 65536)))
 (nat_lit 65536))),
 Value.int IntKind.i64 (1 : Int)])
 (29 : Nat)))
 true,
 Blk.mk (Let.n (ns (0 : Nat)))
 (Sy.Cont.obj
 (Obj.cells
 (Array.mk
 [Value.int IntKind.i64 (1 : Int), Value.int IntKind.i64 r,
 Value.int IntKind.i64 (0 : Int), Value.int IntKind.i64 (0 : Int),
 Value.int IntKind.i64 (Ex.wrapQ IntKind.i64 (Ex.remQ v (nat_lit 65536))),
 Value.int IntKind.i64 (0 : Int)])
 (29 : Nat)))
 true]))))))
 (Sy.Res.br
 (!Ex.eqQ
 (Ex.remQ
 (Ex.wrapQ IntKind.u64
 (Ex.quoQ
 (Ex.wrapQ IntKind.u64
 (Ex.quoQ (Ex.wrapQ IntKind.u64 (Ex.quoQ v (nat_lit 65536))) (nat_lit 65536)))
 (nat_lit 65536)))
 (nat_lit 65536))
 (0 : Int))
 (Sy.Res.need (n + (1 : Nat) + (1 : Nat) + (1 : Nat) ≤ (9223372036854775807 : Nat))
 (Sy.Res.need ((n + (1 : Nat) + (1 : Nat) + (1 : Nat)) * (48 : Nat) ≤ (140737488355328 : Nat))
 (Sy.Res.hyp (Nat.le (n + (1 : Nat) + (1 : Nat) + (1 : Nat)) (Let.n (ns (8 : Nat))))
 (Sy.Res.leaf
 (Value.slice (some (Addr.mk (Let.n (ns (7 : Nat))) (0 : Nat) none))
 (n + (1 : Nat) + (1 : Nat) + (1 : Nat)) (Let.n (ns (8 : Nat))),
 [Blk.mk (Let.n (ns (7 : Nat)))
 (Sy.Cont.row (29 : Nat) (6 : Nat) (n + (1 : Nat) + (1 : Nat) + (1 : Nat))
 (Let.n (ns (8 : Nat)))
 (xs ++
 [Value.int IntKind.i64 (1 : Int), Value.int IntKind.i64 r,
 Value.int IntKind.i64 (0 : Int), Value.int IntKind.i64 (0 : Int),
 Value.int IntKind.i64 (Ex.wrapQ IntKind.i64 (Ex.remQ v (nat_lit 65536))),
 Value.int IntKind.i64 (0 : Int)] ++
 [Value.int IntKind.i64 (2 : Int), Value.int IntKind.i64 r,
 Value.int IntKind.i64 (0 : Int), Value.int IntKind.i64 (0 : Int),
 Value.int IntKind.i64
 (Ex.wrapQ IntKind.i64
 (Ex.remQ (Ex.wrapQ IntKind.u64 (Ex.quoQ v (nat_lit 65536)))
 (nat_lit 65536))),
 Value.int IntKind.i64 (1 : Int)] ++
 [Value.int IntKind.i64 (2 : Int), Value.int IntKind.i64 r,
 Value.int IntKind.i64 (0 : Int), Value.int IntKind.i64 (0 : Int),
 Value.int IntKind.i64
 (Ex.wrapQ IntKind.i64
 (Ex.remQ
 (Ex.wrapQ IntKind.u64
 (Ex.quoQ
 (Ex.wrapQ IntKind.u64
 (Ex.quoQ (Ex.wrapQ IntKind.u64 (Ex.quoQ v (nat_lit 65536)))
 (nat_lit 65536)))
 (nat_lit 65536)))
 (nat_lit 65536))),
 Value.int IntKind.i64 (3 : Int)]))
 true,
 Blk.mk (Let.n (ns (6 : Nat)))
 (Sy.Cont.obj
 (Obj.cells
 (Array.mk
 [Value.int IntKind.i64 (2 : Int), Value.int IntKind.i64 r,
 Value.int IntKind.i64 (0 : Int), Value.int IntKind.i64 (0 : Int),
 Value.int IntKind.i64
 (Ex.wrapQ IntKind.i64
 (Ex.remQ
 (Ex.wrapQ IntKind.u64
 (Ex.quoQ
 (Ex.wrapQ IntKind.u64
 (Ex.quoQ (Ex.wrapQ IntKind.u64 (Ex.quoQ v (nat_lit 65536)))
 (nat_lit 65536)))
 (nat_lit 65536)))
 (nat_lit 65536))),
 Value.int IntKind.i64 (3 : Int)])
 (29 : Nat)))
 true,
 Blk.mk (Let.n (ns (3 : Nat)))
 (Sy.Cont.obj
 (Obj.cells
 (Array.mk
 [Value.int IntKind.i64 (2 : Int), Value.int IntKind.i64 r,
 Value.int IntKind.i64 (0 : Int), Value.int IntKind.i64 (0 : Int),
 Value.int IntKind.i64
 (Ex.wrapQ IntKind.i64
 (Ex.remQ (Ex.wrapQ IntKind.u64 (Ex.quoQ v (nat_lit 65536)))
 (nat_lit 65536))),
 Value.int IntKind.i64 (1 : Int)])
 (29 : Nat)))
 true,
 Blk.mk (Let.n (ns (0 : Nat)))
 (Sy.Cont.obj
 (Obj.cells
 (Array.mk
 [Value.int IntKind.i64 (1 : Int), Value.int IntKind.i64 r,
 Value.int IntKind.i64 (0 : Int), Value.int IntKind.i64 (0 : Int),
 Value.int IntKind.i64 (Ex.wrapQ IntKind.i64 (Ex.remQ v (nat_lit 65536))),
 Value.int IntKind.i64 (0 : Int)])
 (29 : Nat)))
 true])))))
 (Sy.Res.leaf
 (Value.slice (some (Addr.mk (Let.n (ns (4 : Nat))) (0 : Nat) none)) (n + (1 : Nat) + (1 : Nat))
 (Let.n (ns (5 : Nat))),
 [Blk.mk (Let.n (ns (4 : Nat)))
 (Sy.Cont.row (29 : Nat) (6 : Nat) (n + (1 : Nat) + (1 : Nat)) (Let.n (ns (5 : Nat)))
 (xs ++
 [Value.int IntKind.i64 (1 : Int), Value.int IntKind.i64 r,
 Value.int IntKind.i64 (0 : Int), Value.int IntKind.i64 (0 : Int),
 Value.int IntKind.i64 (Ex.wrapQ IntKind.i64 (Ex.remQ v (nat_lit 65536))),
 Value.int IntKind.i64 (0 : Int)] ++
 [Value.int IntKind.i64 (2 : Int), Value.int IntKind.i64 r,
 Value.int IntKind.i64 (0 : Int), Value.int IntKind.i64 (0 : Int),
 Value.int IntKind.i64
 (Ex.wrapQ IntKind.i64
 (Ex.remQ (Ex.wrapQ IntKind.u64 (Ex.quoQ v (nat_lit 65536))) (nat_lit 65536))),
 Value.int IntKind.i64 (1 : Int)]))
 true,
 Blk.mk (Let.n (ns (3 : Nat)))
 (Sy.Cont.obj
 (Obj.cells
 (Array.mk
 [Value.int IntKind.i64 (2 : Int), Value.int IntKind.i64 r,
 Value.int IntKind.i64 (0 : Int), Value.int IntKind.i64 (0 : Int),
 Value.int IntKind.i64
 (Ex.wrapQ IntKind.i64
 (Ex.remQ (Ex.wrapQ IntKind.u64 (Ex.quoQ v (nat_lit 65536))) (nat_lit 65536))),
 Value.int IntKind.i64 (1 : Int)])
 (29 : Nat)))
 true,
 Blk.mk (Let.n (ns (0 : Nat)))
 (Sy.Cont.obj
 (Obj.cells
 (Array.mk
 [Value.int IntKind.i64 (1 : Int), Value.int IntKind.i64 r,
 Value.int IntKind.i64 (0 : Int), Value.int IntKind.i64 (0 : Int),
 Value.int IntKind.i64 (Ex.wrapQ IntKind.i64 (Ex.remQ v (nat_lit 65536))),
 Value.int IntKind.i64 (0 : Int)])
 (29 : Nat)))
 true])))))))
 (Sy.Res.br
 (!Ex.eqQ
 (Ex.remQ
 (Ex.wrapQ IntKind.u64 (Ex.quoQ (Ex.wrapQ IntKind.u64 (Ex.quoQ v (nat_lit 65536))) (nat_lit 65536)))
 (nat_lit 65536))
 (0 : Int))
 (Sy.Res.need (n + (1 : Nat) + (1 : Nat) ≤ (9223372036854775807 : Nat))
 (Sy.Res.need ((n + (1 : Nat) + (1 : Nat)) * (48 : Nat) ≤ (140737488355328 : Nat))
 (Sy.Res.hyp (Nat.le (n + (1 : Nat) + (1 : Nat)) (Let.n (ns (5 : Nat))))
 (Sy.Res.br
 (!Ex.eqQ
 (Ex.remQ
 (Ex.wrapQ IntKind.u64
 (Ex.quoQ
 (Ex.wrapQ IntKind.u64
 (Ex.quoQ (Ex.wrapQ IntKind.u64 (Ex.quoQ v (nat_lit 65536))) (nat_lit 65536)))
 (nat_lit 65536)))
 (nat_lit 65536))
 (0 : Int))
 (Sy.Res.need (n + (1 : Nat) + (1 : Nat) + (1 : Nat) ≤ (9223372036854775807 : Nat))
 (Sy.Res.need ((n + (1 : Nat) + (1 : Nat) + (1 : Nat)) * (48 : Nat) ≤ (140737488355328 : Nat))
 (Sy.Res.hyp (Nat.le (n + (1 : Nat) + (1 : Nat) + (1 : Nat)) (Let.n (ns (8 : Nat))))
 (Sy.Res.leaf
 (Value.slice (some (Addr.mk (Let.n (ns (7 : Nat))) (0 : Nat) none))
 (n + (1 : Nat) + (1 : Nat) + (1 : Nat)) (Let.n (ns (8 : Nat))),
 [Blk.mk (Let.n (ns (7 : Nat)))
 (Sy.Cont.row (29 : Nat) (6 : Nat) (n + (1 : Nat) + (1 : Nat) + (1 : Nat))
 (Let.n (ns (8 : Nat)))
 (xs ++
 [Value.int IntKind.i64 (1 : Int), Value.int IntKind.i64 r,
 Value.int IntKind.i64 (0 : Int), Value.int IntKind.i64 (0 : Int),
 Value.int IntKind.i64 (Ex.wrapQ IntKind.i64 (Ex.remQ v (nat_lit 65536))),
 Value.int IntKind.i64 (0 : Int)] ++
 [Value.int IntKind.i64 (2 : Int), Value.int IntKind.i64 r,
 Value.int IntKind.i64 (0 : Int), Value.int IntKind.i64 (0 : Int),
 Value.int IntKind.i64
 (Ex.wrapQ IntKind.i64
 (Ex.remQ
 (Ex.wrapQ IntKind.u64
 (Ex.quoQ (Ex.wrapQ IntKind.u64 (Ex.quoQ v (nat_lit 65536)))
 (nat_lit 65536)))
 (nat_lit 65536))),
 Value.int IntKind.i64 (2 : Int)] ++
 [Value.int IntKind.i64 (2 : Int), Value.int IntKind.i64 r,
 Value.int IntKind.i64 (0 : Int), Value.int IntKind.i64 (0 : Int),
 Value.int IntKind.i64
 (Ex.wrapQ IntKind.i64
 (Ex.remQ
 (Ex.wrapQ IntKind.u64
 (Ex.quoQ
 (Ex.wrapQ IntKind.u64
 (Ex.quoQ (Ex.wrapQ IntKind.u64 (Ex.quoQ v (nat_lit 65536)))
 (nat_lit 65536)))
 (nat_lit 65536)))
 (nat_lit 65536))),
 Value.int IntKind.i64 (3 : Int)]))
 true,
 Blk.mk (Let.n (ns (6 : Nat)))
 (Sy.Cont.obj
 (Obj.cells
 (Array.mk
 [Value.int IntKind.i64 (2 : Int), Value.int IntKind.i64 r,
 Value.int IntKind.i64 (0 : Int), Value.int IntKind.i64 (0 : Int),
 Value.int IntKind.i64
 (Ex.wrapQ IntKind.i64
 (Ex.remQ
 (Ex.wrapQ IntKind.u64
 (Ex.quoQ
 (Ex.wrapQ IntKind.u64
 (Ex.quoQ (Ex.wrapQ IntKind.u64 (Ex.quoQ v (nat_lit 65536)))
 (nat_lit 65536)))
 (nat_lit 65536)))
 (nat_lit 65536))),
 Value.int IntKind.i64 (3 : Int)])
 (29 : Nat)))
 true,
 Blk.mk (Let.n (ns (3 : Nat)))
 (Sy.Cont.obj
 (Obj.cells
 (Array.mk
 [Value.int IntKind.i64 (2 : Int), Value.int IntKind.i64 r,
 Value.int IntKind.i64 (0 : Int), Value.int IntKind.i64 (0 : Int),
 Value.int IntKind.i64
 (Ex.wrapQ IntKind.i64
 (Ex.remQ
 (Ex.wrapQ IntKind.u64
 (Ex.quoQ (Ex.wrapQ IntKind.u64 (Ex.quoQ v (nat_lit 65536)))
 (nat_lit 65536)))
 (nat_lit 65536))),
 Value.int IntKind.i64 (2 : Int)])
 (29 : Nat)))
 true,
 Blk.mk (Let.n (ns (0 : Nat)))
 (Sy.Cont.obj
 (Obj.cells
 (Array.mk
 [Value.int IntKind.i64 (1 : Int), Value.int IntKind.i64 r,
 Value.int IntKind.i64 (0 : Int), Value.int IntKind.i64 (0 : Int),
 Value.int IntKind.i64 (Ex.wrapQ IntKind.i64 (Ex.remQ v (nat_lit 65536))),
 Value.int IntKind.i64 (0 : Int)])
 (29 : Nat)))
 true])))))
 (Sy.Res.leaf
 (Value.slice (some (Addr.mk (Let.n (ns (4 : Nat))) (0 : Nat) none)) (n + (1 : Nat) + (1 : Nat))
 (Let.n (ns (5 : Nat))),
 [Blk.mk (Let.n (ns (4 : Nat)))
 (Sy.Cont.row (29 : Nat) (6 : Nat) (n + (1 : Nat) + (1 : Nat)) (Let.n (ns (5 : Nat)))
 (xs ++
 [Value.int IntKind.i64 (1 : Int), Value.int IntKind.i64 r,
 Value.int IntKind.i64 (0 : Int), Value.int IntKind.i64 (0 : Int),
 Value.int IntKind.i64 (Ex.wrapQ IntKind.i64 (Ex.remQ v (nat_lit 65536))),
 Value.int IntKind.i64 (0 : Int)] ++
 [Value.int IntKind.i64 (2 : Int), Value.int IntKind.i64 r,
 Value.int IntKind.i64 (0 : Int), Value.int IntKind.i64 (0 : Int),
 Value.int IntKind.i64
 (Ex.wrapQ IntKind.i64
 (Ex.remQ
 (Ex.wrapQ IntKind.u64
 (Ex.quoQ (Ex.wrapQ IntKind.u64 (Ex.quoQ v (nat_lit 65536))) (nat_lit 65536)))
 (nat_lit 65536))),
 Value.int IntKind.i64 (2 : Int)]))
 true,
 Blk.mk (Let.n (ns (3 : Nat)))
 (Sy.Cont.obj
 (Obj.cells
 (Array.mk
 [Value.int IntKind.i64 (2 : Int), Value.int IntKind.i64 r,
 Value.int IntKind.i64 (0 : Int), Value.int IntKind.i64 (0 : Int),
 Value.int IntKind.i64
 (Ex.wrapQ IntKind.i64
 (Ex.remQ
 (Ex.wrapQ IntKind.u64
 (Ex.quoQ (Ex.wrapQ IntKind.u64 (Ex.quoQ v (nat_lit 65536))) (nat_lit 65536)))
 (nat_lit 65536))),
 Value.int IntKind.i64 (2 : Int)])
 (29 : Nat)))
 true,
 Blk.mk (Let.n (ns (0 : Nat)))
 (Sy.Cont.obj
 (Obj.cells
 (Array.mk
 [Value.int IntKind.i64 (1 : Int), Value.int IntKind.i64 r,
 Value.int IntKind.i64 (0 : Int), Value.int IntKind.i64 (0 : Int),
 Value.int IntKind.i64 (Ex.wrapQ IntKind.i64 (Ex.remQ v (nat_lit 65536))),
 Value.int IntKind.i64 (0 : Int)])
 (29 : Nat)))
 true]))))))
 (Sy.Res.br
 (!Ex.eqQ
 (Ex.remQ
 (Ex.wrapQ IntKind.u64
 (Ex.quoQ
 (Ex.wrapQ IntKind.u64
 (Ex.quoQ (Ex.wrapQ IntKind.u64 (Ex.quoQ v (nat_lit 65536))) (nat_lit 65536)))
 (nat_lit 65536)))
 (nat_lit 65536))
 (0 : Int))
 (Sy.Res.need (n + (1 : Nat) + (1 : Nat) ≤ (9223372036854775807 : Nat))
 (Sy.Res.need ((n + (1 : Nat) + (1 : Nat)) * (48 : Nat) ≤ (140737488355328 : Nat))
 (Sy.Res.hyp (Nat.le (n + (1 : Nat) + (1 : Nat)) (Let.n (ns (5 : Nat))))
 (Sy.Res.leaf
 (Value.slice (some (Addr.mk (Let.n (ns (4 : Nat))) (0 : Nat) none)) (n + (1 : Nat) + (1 : Nat))
 (Let.n (ns (5 : Nat))),
 [Blk.mk (Let.n (ns (4 : Nat)))
 (Sy.Cont.row (29 : Nat) (6 : Nat) (n + (1 : Nat) + (1 : Nat)) (Let.n (ns (5 : Nat)))
 (xs ++
 [Value.int IntKind.i64 (1 : Int), Value.int IntKind.i64 r,
 Value.int IntKind.i64 (0 : Int), Value.int IntKind.i64 (0 : Int),
 Value.int IntKind.i64 (Ex.wrapQ IntKind.i64 (Ex.remQ v (nat_lit 65536))),
 Value.int IntKind.i64 (0 : Int)] ++
 [Value.int IntKind.i64 (2 : Int), Value.int IntKind.i64 r,
 Value.int IntKind.i64 (0 : Int), Value.int IntKind.i64 (0 : Int),
 Value.int IntKind.i64
 (Ex.wrapQ IntKind.i64
 (Ex.remQ
 (Ex.wrapQ IntKind.u64
 (Ex.quoQ
 (Ex.wrapQ IntKind.u64
 (Ex.quoQ (Ex.wrapQ IntKind.u64 (Ex.quoQ v (nat_lit 65536)))
 (nat_lit 65536)))
 (nat_lit 65536)))
 (nat_lit 65536))),
 Value.int IntKind.i64 (3 : Int)]))
 true,
 Blk.mk (Let.n (ns (3 : Nat)))
 (Sy.Cont.obj
 (Obj.cells
 (Array.mk
 [Value.int IntKind.i64 (2 : Int), Value.int IntKind.i64 r,
 Value.int IntKind.i64 (0 : Int), Value.int IntKind.i64 (0 : Int),
 Value.int IntKind.i64
 (Ex.wrapQ IntKind.i64
 (Ex.remQ
 (Ex.wrapQ IntKind.u64
 (Ex.quoQ
 (Ex.wrapQ IntKind.u64
 (Ex.quoQ (Ex.wrapQ IntKind.u64 (Ex.quoQ v (nat_lit 65536)))
 (nat_lit 65536)))
 (nat_lit 65536)))
 (nat_lit 65536))),
 Value.int IntKind.i64 (3 : Int)])
 (29 : Nat)))
 true,
 Blk.mk (Let.n (ns (0 : Nat)))
 (Sy.Cont.obj
 (Obj.cells
 (Array.mk
 [Value.int IntKind.i64 (1 : Int), Value.int IntKind.i64 r,
 Value.int IntKind.i64 (0 : Int), Value.int IntKind.i64 (0 : Int),
 Value.int IntKind.i64 (Ex.wrapQ IntKind.i64 (Ex.remQ v (nat_lit 65536))),
 Value.int IntKind.i64 (0 : Int)])
 (29 : Nat)))
 true])))))
 (Sy.Res.leaf
 (Value.slice (some (Addr.mk (Let.n (ns (1 : Nat))) (0 : Nat) none)) (n + (1 : Nat))
 (Let.n (ns (2 : Nat))),
 [Blk.mk (Let.n (ns (1 : Nat)))
 (Sy.Cont.row (29 : Nat) (6 : Nat) (n + (1 : Nat)) (Let.n (ns (2 : Nat)))
 (xs ++
 [Value.int IntKind.i64 (1 : Int), Value.int IntKind.i64 r, Value.int IntKind.i64 (0 : Int),
 Value.int IntKind.i64 (0 : Int),
 Value.int IntKind.i64 (Ex.wrapQ IntKind.i64 (Ex.remQ v (nat_lit 65536))),
 Value.int IntKind.i64 (0 : Int)]))
 true,
 Blk.mk (Let.n (ns (0 : Nat)))
 (Sy.Cont.obj
 (Obj.cells
 (Array.mk
 [Value.int IntKind.i64 (1 : Int), Value.int IntKind.i64 r, Value.int IntKind.i64 (0 : Int),
 Value.int IntKind.i64 (0 : Int),
 Value.int IntKind.i64 (Ex.wrapQ IntKind.i64 (Ex.remQ v (nat_lit 65536))),
 Value.int IntKind.i64 (0 : Int)])
 (29 : Nat)))
 true])))))))
theorem rnumA_run (g n cap : Nat) (xs : List Value) (r v : Int) : Sy.Ran (Sy.inT Try.prog Sy.S0 100 18 #[.slice (some ⟨g, 0, none⟩) n cap, .int .i64 r, .int .u64 v] [⟨g, .row tI 6 n cap xs, true⟩] (Sy.rowT tI)) rnumA_o (rnumA_R g n cap xs r v) := ⟨fun ns => by kernel_rfl, fun ns => by kernel_rfl⟩
def num_o : Sy.O := (Sy.O.steps [0, 0] (Sy.O.fork (Sy.O.steps [0, 0, 0, 1, 0, 0, 0, 0, 0, 0, 0] (Sy.O.fork (Sy.O.steps [0, 0, 0, 1, 0, 0, 0, 0, 0, 0, 0] (Sy.O.fork (Sy.O.steps [0, 0, 0, 1, 0, 0, 0, 0, 0, 0] Sy.O.nil) (Sy.O.steps [0] Sy.O.nil))) (Sy.O.steps [0, 0] (Sy.O.fork (Sy.O.steps [0, 0, 0, 1, 0, 0, 0, 0, 0, 0] Sy.O.nil) (Sy.O.steps [0] Sy.O.nil))))) (Sy.O.steps [0, 0] (Sy.O.fork (Sy.O.steps [0, 0, 0, 1, 0, 0, 0, 0, 0, 0, 0] (Sy.O.fork (Sy.O.steps [0, 0, 0, 1, 0, 0, 0, 0, 0, 0] Sy.O.nil) (Sy.O.steps [0] Sy.O.nil))) (Sy.O.steps [0, 0] (Sy.O.fork (Sy.O.steps [0, 0, 0, 1, 0, 0, 0, 0, 0, 0] Sy.O.nil) (Sy.O.steps [0] Sy.O.nil)))))))
noncomputable def num_R (r : Int) (v : Int) (ns : Nat → Sy.Let) : Sy.Res (Value × List Blk) := Sy.Res.br (!Ex.eqQ (Ex.andQ IntKind.u64 (Ex.shrQ IntKind.u64 v (16 : Nat)) (65535 : Int)) (0 : Int))
 (Sy.Res.hyp (Nat.le (2 : Nat) (Let.n (ns (3 : Nat))))
 (Sy.Res.br (!Ex.eqQ (Ex.andQ IntKind.u64 (Ex.shrQ IntKind.u64 v (32 : Nat)) (65535 : Int)) (0 : Int))
 (Sy.Res.hyp (Nat.le (3 : Nat) (Let.n (ns (6 : Nat))))
 (Sy.Res.br (!Ex.eqQ (Ex.andQ IntKind.u64 (Ex.shrQ IntKind.u64 v (48 : Nat)) (65535 : Int)) (0 : Int))
 (Sy.Res.hyp (Nat.le (4 : Nat) (Let.n (ns (9 : Nat))))
 (Sy.Res.leaf
 (Value.slice (some (Addr.mk (Let.n (ns (8 : Nat))) (0 : Nat) none)) (4 : Nat) (Let.n (ns (9 : Nat))),
 [Blk.mk (Let.n (ns (8 : Nat)))
 (Sy.Cont.row (29 : Nat) (6 : Nat) (4 : Nat) (Let.n (ns (9 : Nat)))
 [Value.int IntKind.i64 (1 : Int), Value.int IntKind.i64 r, Value.int IntKind.i64 (0 : Int),
 Value.int IntKind.i64 (0 : Int),
 Value.int IntKind.i64 (Ex.wrapQ IntKind.i64 (Ex.andQ IntKind.u64 v (65535 : Int))),
 Value.int IntKind.i64 (0 : Int), Value.int IntKind.i64 (2 : Int), Value.int IntKind.i64 r,
 Value.int IntKind.i64 (0 : Int), Value.int IntKind.i64 (0 : Int),
 Value.int IntKind.i64
 (Ex.wrapQ IntKind.i64 (Ex.andQ IntKind.u64 (Ex.shrQ IntKind.u64 v (16 : Nat)) (65535 : Int))),
 Value.int IntKind.i64 (1 : Int), Value.int IntKind.i64 (2 : Int), Value.int IntKind.i64 r,
 Value.int IntKind.i64 (0 : Int), Value.int IntKind.i64 (0 : Int),
 Value.int IntKind.i64
 (Ex.wrapQ IntKind.i64 (Ex.andQ IntKind.u64 (Ex.shrQ IntKind.u64 v (32 : Nat)) (65535 : Int))),
 Value.int IntKind.i64 (2 : Int), Value.int IntKind.i64 (2 : Int), Value.int IntKind.i64 r,
 Value.int IntKind.i64 (0 : Int), Value.int IntKind.i64 (0 : Int),
 Value.int IntKind.i64
 (Ex.wrapQ IntKind.i64 (Ex.andQ IntKind.u64 (Ex.shrQ IntKind.u64 v (48 : Nat)) (65535 : Int))),
 Value.int IntKind.i64 (3 : Int)])
 true,
 Blk.mk (Let.n (ns (7 : Nat)))
 (Sy.Cont.obj
 (Obj.cells
 (Array.mk
 [Value.int IntKind.i64 (2 : Int), Value.int IntKind.i64 r, Value.int IntKind.i64 (0 : Int),
 Value.int IntKind.i64 (0 : Int),
 Value.int IntKind.i64
 (Ex.wrapQ IntKind.i64
 (Ex.andQ IntKind.u64 (Ex.shrQ IntKind.u64 v (48 : Nat)) (65535 : Int))),
 Value.int IntKind.i64 (3 : Int)])
 (29 : Nat)))
 true,
 Blk.mk (Let.n (ns (4 : Nat)))
 (Sy.Cont.obj
 (Obj.cells
 (Array.mk
 [Value.int IntKind.i64 (2 : Int), Value.int IntKind.i64 r, Value.int IntKind.i64 (0 : Int),
 Value.int IntKind.i64 (0 : Int),
 Value.int IntKind.i64
 (Ex.wrapQ IntKind.i64
 (Ex.andQ IntKind.u64 (Ex.shrQ IntKind.u64 v (32 : Nat)) (65535 : Int))),
 Value.int IntKind.i64 (2 : Int)])
 (29 : Nat)))
 true,
 Blk.mk (Let.n (ns (1 : Nat)))
 (Sy.Cont.obj
 (Obj.cells
 (Array.mk
 [Value.int IntKind.i64 (2 : Int), Value.int IntKind.i64 r, Value.int IntKind.i64 (0 : Int),
 Value.int IntKind.i64 (0 : Int),
 Value.int IntKind.i64
 (Ex.wrapQ IntKind.i64
 (Ex.andQ IntKind.u64 (Ex.shrQ IntKind.u64 v (16 : Nat)) (65535 : Int))),
 Value.int IntKind.i64 (1 : Int)])
 (29 : Nat)))
 true])))
 (Sy.Res.leaf
 (Value.slice (some (Addr.mk (Let.n (ns (5 : Nat))) (0 : Nat) none)) (3 : Nat) (Let.n (ns (6 : Nat))),
 [Blk.mk (Let.n (ns (5 : Nat)))
 (Sy.Cont.row (29 : Nat) (6 : Nat) (3 : Nat) (Let.n (ns (6 : Nat)))
 [Value.int IntKind.i64 (1 : Int), Value.int IntKind.i64 r, Value.int IntKind.i64 (0 : Int),
 Value.int IntKind.i64 (0 : Int),
 Value.int IntKind.i64 (Ex.wrapQ IntKind.i64 (Ex.andQ IntKind.u64 v (65535 : Int))),
 Value.int IntKind.i64 (0 : Int), Value.int IntKind.i64 (2 : Int), Value.int IntKind.i64 r,
 Value.int IntKind.i64 (0 : Int), Value.int IntKind.i64 (0 : Int),
 Value.int IntKind.i64
 (Ex.wrapQ IntKind.i64 (Ex.andQ IntKind.u64 (Ex.shrQ IntKind.u64 v (16 : Nat)) (65535 : Int))),
 Value.int IntKind.i64 (1 : Int), Value.int IntKind.i64 (2 : Int), Value.int IntKind.i64 r,
 Value.int IntKind.i64 (0 : Int), Value.int IntKind.i64 (0 : Int),
 Value.int IntKind.i64
 (Ex.wrapQ IntKind.i64 (Ex.andQ IntKind.u64 (Ex.shrQ IntKind.u64 v (32 : Nat)) (65535 : Int))),
 Value.int IntKind.i64 (2 : Int)])
 true,
 Blk.mk (Let.n (ns (4 : Nat)))
 (Sy.Cont.obj
 (Obj.cells
 (Array.mk
 [Value.int IntKind.i64 (2 : Int), Value.int IntKind.i64 r, Value.int IntKind.i64 (0 : Int),
 Value.int IntKind.i64 (0 : Int),
 Value.int IntKind.i64
 (Ex.wrapQ IntKind.i64
 (Ex.andQ IntKind.u64 (Ex.shrQ IntKind.u64 v (32 : Nat)) (65535 : Int))),
 Value.int IntKind.i64 (2 : Int)])
 (29 : Nat)))
 true,
 Blk.mk (Let.n (ns (1 : Nat)))
 (Sy.Cont.obj
 (Obj.cells
 (Array.mk
 [Value.int IntKind.i64 (2 : Int), Value.int IntKind.i64 r, Value.int IntKind.i64 (0 : Int),
 Value.int IntKind.i64 (0 : Int),
 Value.int IntKind.i64
 (Ex.wrapQ IntKind.i64
 (Ex.andQ IntKind.u64 (Ex.shrQ IntKind.u64 v (16 : Nat)) (65535 : Int))),
 Value.int IntKind.i64 (1 : Int)])
 (29 : Nat)))
 true]))))
 (Sy.Res.br (!Ex.eqQ (Ex.andQ IntKind.u64 (Ex.shrQ IntKind.u64 v (48 : Nat)) (65535 : Int)) (0 : Int))
 (Sy.Res.hyp (Nat.le (3 : Nat) (Let.n (ns (6 : Nat))))
 (Sy.Res.leaf
 (Value.slice (some (Addr.mk (Let.n (ns (5 : Nat))) (0 : Nat) none)) (3 : Nat) (Let.n (ns (6 : Nat))),
 [Blk.mk (Let.n (ns (5 : Nat)))
 (Sy.Cont.row (29 : Nat) (6 : Nat) (3 : Nat) (Let.n (ns (6 : Nat)))
 [Value.int IntKind.i64 (1 : Int), Value.int IntKind.i64 r, Value.int IntKind.i64 (0 : Int),
 Value.int IntKind.i64 (0 : Int),
 Value.int IntKind.i64 (Ex.wrapQ IntKind.i64 (Ex.andQ IntKind.u64 v (65535 : Int))),
 Value.int IntKind.i64 (0 : Int), Value.int IntKind.i64 (2 : Int), Value.int IntKind.i64 r,
 Value.int IntKind.i64 (0 : Int), Value.int IntKind.i64 (0 : Int),
 Value.int IntKind.i64
 (Ex.wrapQ IntKind.i64 (Ex.andQ IntKind.u64 (Ex.shrQ IntKind.u64 v (16 : Nat)) (65535 : Int))),
 Value.int IntKind.i64 (1 : Int), Value.int IntKind.i64 (2 : Int), Value.int IntKind.i64 r,
 Value.int IntKind.i64 (0 : Int), Value.int IntKind.i64 (0 : Int),
 Value.int IntKind.i64
 (Ex.wrapQ IntKind.i64 (Ex.andQ IntKind.u64 (Ex.shrQ IntKind.u64 v (48 : Nat)) (65535 : Int))),
 Value.int IntKind.i64 (3 : Int)])
 true,
 Blk.mk (Let.n (ns (4 : Nat)))
 (Sy.Cont.obj
 (Obj.cells
 (Array.mk
 [Value.int IntKind.i64 (2 : Int), Value.int IntKind.i64 r, Value.int IntKind.i64 (0 : Int),
 Value.int IntKind.i64 (0 : Int),
 Value.int IntKind.i64
 (Ex.wrapQ IntKind.i64
 (Ex.andQ IntKind.u64 (Ex.shrQ IntKind.u64 v (48 : Nat)) (65535 : Int))),
 Value.int IntKind.i64 (3 : Int)])
 (29 : Nat)))
 true,
 Blk.mk (Let.n (ns (1 : Nat)))
 (Sy.Cont.obj
 (Obj.cells
 (Array.mk
 [Value.int IntKind.i64 (2 : Int), Value.int IntKind.i64 r, Value.int IntKind.i64 (0 : Int),
 Value.int IntKind.i64 (0 : Int),
 Value.int IntKind.i64
 (Ex.wrapQ IntKind.i64
 (Ex.andQ IntKind.u64 (Ex.shrQ IntKind.u64 v (16 : Nat)) (65535 : Int))),
 Value.int IntKind.i64 (1 : Int)])
 (29 : Nat)))
 true])))
 (Sy.Res.leaf
 (Value.slice (some (Addr.mk (Let.n (ns (2 : Nat))) (0 : Nat) none)) (2 : Nat) (Let.n (ns (3 : Nat))),
 [Blk.mk (Let.n (ns (2 : Nat)))
 (Sy.Cont.row (29 : Nat) (6 : Nat) (2 : Nat) (Let.n (ns (3 : Nat)))
 [Value.int IntKind.i64 (1 : Int), Value.int IntKind.i64 r, Value.int IntKind.i64 (0 : Int),
 Value.int IntKind.i64 (0 : Int),
 Value.int IntKind.i64 (Ex.wrapQ IntKind.i64 (Ex.andQ IntKind.u64 v (65535 : Int))),
 Value.int IntKind.i64 (0 : Int), Value.int IntKind.i64 (2 : Int), Value.int IntKind.i64 r,
 Value.int IntKind.i64 (0 : Int), Value.int IntKind.i64 (0 : Int),
 Value.int IntKind.i64
 (Ex.wrapQ IntKind.i64 (Ex.andQ IntKind.u64 (Ex.shrQ IntKind.u64 v (16 : Nat)) (65535 : Int))),
 Value.int IntKind.i64 (1 : Int)])
 true,
 Blk.mk (Let.n (ns (1 : Nat)))
 (Sy.Cont.obj
 (Obj.cells
 (Array.mk
 [Value.int IntKind.i64 (2 : Int), Value.int IntKind.i64 r, Value.int IntKind.i64 (0 : Int),
 Value.int IntKind.i64 (0 : Int),
 Value.int IntKind.i64
 (Ex.wrapQ IntKind.i64 (Ex.andQ IntKind.u64 (Ex.shrQ IntKind.u64 v (16 : Nat)) (65535 : Int))),
 Value.int IntKind.i64 (1 : Int)])
 (29 : Nat)))
 true])))))
 (Sy.Res.br (!Ex.eqQ (Ex.andQ IntKind.u64 (Ex.shrQ IntKind.u64 v (32 : Nat)) (65535 : Int)) (0 : Int))
 (Sy.Res.hyp (Nat.le (2 : Nat) (Let.n (ns (3 : Nat))))
 (Sy.Res.br (!Ex.eqQ (Ex.andQ IntKind.u64 (Ex.shrQ IntKind.u64 v (48 : Nat)) (65535 : Int)) (0 : Int))
 (Sy.Res.hyp (Nat.le (3 : Nat) (Let.n (ns (6 : Nat))))
 (Sy.Res.leaf
 (Value.slice (some (Addr.mk (Let.n (ns (5 : Nat))) (0 : Nat) none)) (3 : Nat) (Let.n (ns (6 : Nat))),
 [Blk.mk (Let.n (ns (5 : Nat)))
 (Sy.Cont.row (29 : Nat) (6 : Nat) (3 : Nat) (Let.n (ns (6 : Nat)))
 [Value.int IntKind.i64 (1 : Int), Value.int IntKind.i64 r, Value.int IntKind.i64 (0 : Int),
 Value.int IntKind.i64 (0 : Int),
 Value.int IntKind.i64 (Ex.wrapQ IntKind.i64 (Ex.andQ IntKind.u64 v (65535 : Int))),
 Value.int IntKind.i64 (0 : Int), Value.int IntKind.i64 (2 : Int), Value.int IntKind.i64 r,
 Value.int IntKind.i64 (0 : Int), Value.int IntKind.i64 (0 : Int),
 Value.int IntKind.i64
 (Ex.wrapQ IntKind.i64 (Ex.andQ IntKind.u64 (Ex.shrQ IntKind.u64 v (32 : Nat)) (65535 : Int))),
 Value.int IntKind.i64 (2 : Int), Value.int IntKind.i64 (2 : Int), Value.int IntKind.i64 r,
 Value.int IntKind.i64 (0 : Int), Value.int IntKind.i64 (0 : Int),
 Value.int IntKind.i64
 (Ex.wrapQ IntKind.i64 (Ex.andQ IntKind.u64 (Ex.shrQ IntKind.u64 v (48 : Nat)) (65535 : Int))),
 Value.int IntKind.i64 (3 : Int)])
 true,
 Blk.mk (Let.n (ns (4 : Nat)))
 (Sy.Cont.obj
 (Obj.cells
 (Array.mk
 [Value.int IntKind.i64 (2 : Int), Value.int IntKind.i64 r, Value.int IntKind.i64 (0 : Int),
 Value.int IntKind.i64 (0 : Int),
 Value.int IntKind.i64
 (Ex.wrapQ IntKind.i64
 (Ex.andQ IntKind.u64 (Ex.shrQ IntKind.u64 v (48 : Nat)) (65535 : Int))),
 Value.int IntKind.i64 (3 : Int)])
 (29 : Nat)))
 true,
 Blk.mk (Let.n (ns (1 : Nat)))
 (Sy.Cont.obj
 (Obj.cells
 (Array.mk
 [Value.int IntKind.i64 (2 : Int), Value.int IntKind.i64 r, Value.int IntKind.i64 (0 : Int),
 Value.int IntKind.i64 (0 : Int),
 Value.int IntKind.i64
 (Ex.wrapQ IntKind.i64
 (Ex.andQ IntKind.u64 (Ex.shrQ IntKind.u64 v (32 : Nat)) (65535 : Int))),
 Value.int IntKind.i64 (2 : Int)])
 (29 : Nat)))
 true])))
 (Sy.Res.leaf
 (Value.slice (some (Addr.mk (Let.n (ns (2 : Nat))) (0 : Nat) none)) (2 : Nat) (Let.n (ns (3 : Nat))),
 [Blk.mk (Let.n (ns (2 : Nat)))
 (Sy.Cont.row (29 : Nat) (6 : Nat) (2 : Nat) (Let.n (ns (3 : Nat)))
 [Value.int IntKind.i64 (1 : Int), Value.int IntKind.i64 r, Value.int IntKind.i64 (0 : Int),
 Value.int IntKind.i64 (0 : Int),
 Value.int IntKind.i64 (Ex.wrapQ IntKind.i64 (Ex.andQ IntKind.u64 v (65535 : Int))),
 Value.int IntKind.i64 (0 : Int), Value.int IntKind.i64 (2 : Int), Value.int IntKind.i64 r,
 Value.int IntKind.i64 (0 : Int), Value.int IntKind.i64 (0 : Int),
 Value.int IntKind.i64
 (Ex.wrapQ IntKind.i64 (Ex.andQ IntKind.u64 (Ex.shrQ IntKind.u64 v (32 : Nat)) (65535 : Int))),
 Value.int IntKind.i64 (2 : Int)])
 true,
 Blk.mk (Let.n (ns (1 : Nat)))
 (Sy.Cont.obj
 (Obj.cells
 (Array.mk
 [Value.int IntKind.i64 (2 : Int), Value.int IntKind.i64 r, Value.int IntKind.i64 (0 : Int),
 Value.int IntKind.i64 (0 : Int),
 Value.int IntKind.i64
 (Ex.wrapQ IntKind.i64 (Ex.andQ IntKind.u64 (Ex.shrQ IntKind.u64 v (32 : Nat)) (65535 : Int))),
 Value.int IntKind.i64 (2 : Int)])
 (29 : Nat)))
 true]))))
 (Sy.Res.br (!Ex.eqQ (Ex.andQ IntKind.u64 (Ex.shrQ IntKind.u64 v (48 : Nat)) (65535 : Int)) (0 : Int))
 (Sy.Res.hyp (Nat.le (2 : Nat) (Let.n (ns (3 : Nat))))
 (Sy.Res.leaf
 (Value.slice (some (Addr.mk (Let.n (ns (2 : Nat))) (0 : Nat) none)) (2 : Nat) (Let.n (ns (3 : Nat))),
 [Blk.mk (Let.n (ns (2 : Nat)))
 (Sy.Cont.row (29 : Nat) (6 : Nat) (2 : Nat) (Let.n (ns (3 : Nat)))
 [Value.int IntKind.i64 (1 : Int), Value.int IntKind.i64 r, Value.int IntKind.i64 (0 : Int),
 Value.int IntKind.i64 (0 : Int),
 Value.int IntKind.i64 (Ex.wrapQ IntKind.i64 (Ex.andQ IntKind.u64 v (65535 : Int))),
 Value.int IntKind.i64 (0 : Int), Value.int IntKind.i64 (2 : Int), Value.int IntKind.i64 r,
 Value.int IntKind.i64 (0 : Int), Value.int IntKind.i64 (0 : Int),
 Value.int IntKind.i64
 (Ex.wrapQ IntKind.i64 (Ex.andQ IntKind.u64 (Ex.shrQ IntKind.u64 v (48 : Nat)) (65535 : Int))),
 Value.int IntKind.i64 (3 : Int)])
 true,
 Blk.mk (Let.n (ns (1 : Nat)))
 (Sy.Cont.obj
 (Obj.cells
 (Array.mk
 [Value.int IntKind.i64 (2 : Int), Value.int IntKind.i64 r, Value.int IntKind.i64 (0 : Int),
 Value.int IntKind.i64 (0 : Int),
 Value.int IntKind.i64
 (Ex.wrapQ IntKind.i64 (Ex.andQ IntKind.u64 (Ex.shrQ IntKind.u64 v (48 : Nat)) (65535 : Int))),
 Value.int IntKind.i64 (3 : Int)])
 (29 : Nat)))
 true])))
 (Sy.Res.leaf
 (Value.slice (some (Addr.mk (Let.n (ns (0 : Nat))) (0 : Nat) none)) (1 : Nat) (1 : Nat),
 [Blk.mk (Let.n (ns (0 : Nat)))
 (Sy.Cont.obj
 (Obj.cells
 (Array.mk
 [Value.int IntKind.i64 (1 : Int), Value.int IntKind.i64 r, Value.int IntKind.i64 (0 : Int),
 Value.int IntKind.i64 (0 : Int),
 Value.int IntKind.i64 (Ex.wrapQ IntKind.i64 (Ex.andQ IntKind.u64 v (65535 : Int))),
 Value.int IntKind.i64 (0 : Int)])
 (29 : Nat)))
 true]))))
theorem num_run (r v : Int) : Sy.Ran (Sy.inT Try.prog Sy.S0 100 28 #[.int .i64 r, .int .u64 v] [] (Sy.rowT tI)) num_o (num_R r v) := ⟨fun ns => by kernel_rfl, fun ns => by kernel_rfl⟩

theorem and16 {v : Int} (h : goodU v) : Ex.wrapQ .i64 (Ex.andQ .u64 v 65535) = v % 65536 := by
  unfold goodU at h
  obtain ⟨n, rfl⟩ : ∃ n : Nat, v = n := ⟨v.toNat, by omega⟩
  rw [Ex.andQ_eq, Ex.wrapQ_eq]
  have : ((BitVec.ofInt 64 (n : Int) &&& BitVec.ofInt 64 65535).toNat : Int) = (n : Int) % 65536 := by
    have e : (BitVec.ofInt 64 (n : Int) &&& BitVec.ofInt 64 65535).toNat = n % 65536 := by
      have h1 : (BitVec.ofInt 64 (n : Int)).toNat = n := by
        rw [BitVec.toNat_ofInt]; omega
      rw [BitVec.toNat_and, h1]
      exact Nat.and_two_pow_sub_one_eq_mod n 16
    rw [e]; omega
  show IntKind.i64.wrap (IntKind.u64.wrap ((BitVec.ofInt 64 (n : Int) &&& BitVec.ofInt 64 65535).toNat : Int)) = _
  rw [this]
  simp [IntKind.wrap, IntKind.signed, IntKind.bits]
  omega

theorem shand {v : Int} (h : goodU v) (k : Nat) (hk : k < 64) : Ex.andQ .u64 (Ex.shrQ .u64 v k) 65535 = v / (2 ^ k : Nat) % 65536 := by
  unfold goodU at h
  obtain ⟨n, rfl⟩ : ∃ n : Nat, v = n := ⟨v.toNat, by omega⟩
  have hs : Ex.shrQ .u64 (n : Int) k = ((n / 2 ^ k : Nat) : Int) := by
    rw [Ex.shrQ_eq]
    have : min k IntKind.u64.bits = k := by simp [IntKind.bits]; omega
    rw [this]
    have : ((2 : Int) ^ k) = ((2 ^ k : Nat) : Int) := by simp
    rw [this]
    exact (Int.ofNat_fdiv n (2 ^ k)).symm
  rw [hs, Ex.andQ_eq]
  have hm : n / 2 ^ k < 18446744073709551616 := Nat.lt_of_le_of_lt (Nat.div_le_self _ _) (by omega)
  generalize hj : n / 2 ^ k = m at *
  have e : (BitVec.ofInt 64 (m : Int) &&& BitVec.ofInt 64 65535).toNat = m % 65536 := by
    have h1 : (BitVec.ofInt 64 (m : Int)).toNat = m := by
      rw [BitVec.toNat_ofInt]; omega
    rw [BitVec.toNat_and, h1]
    exact Nat.and_two_pow_sub_one_eq_mod m 16
  show IntKind.u64.wrap ((BitVec.ofInt 64 (m : Int) &&& BitVec.ofInt 64 65535).toNat : Int) = _
  rw [e]
  have : (n : Int) / ((2 ^ k : Nat) : Int) = (m : Int) := by rw [← hj]; simp
  rw [this]
  simp [IntKind.wrap, IntKind.signed, IntKind.bits]
  omega

theorem wrap16 (x : Int) : Ex.wrapQ .i64 (x % 65536) = x % 65536 := by
  rw [Ex.wrapQ_eq]
  simp [IntKind.wrap, IntKind.signed, IntKind.bits]
  omega

theorem tst_t (x : Int) : ((!Ex.eqQ x 0) = true) = ¬ (x = 0) := by rw [Ex.eqQ_eq]; simp
theorem tst_f (x : Int) : ((!Ex.eqQ x 0) = false) = (x = 0) := by rw [Ex.eqQ_eq]; simp

theorem quo16 {v : Int} (h : goodU v) : Ex.wrapQ .u64 (Ex.quoQ v 65536) = v / 65536 := by
  unfold goodU at h
  obtain ⟨n, rfl⟩ : ∃ n : Nat, v = n := ⟨v.toNat, by omega⟩
  rw [Ex.wrapQ_eq, Ex.quoQ_eq]
  show IntKind.u64.wrap (((n / 65536 : Nat) : Int)) = _
  simp [IntKind.wrap, IntKind.signed, IntKind.bits]
  omega
theorem rem16 {v : Int} (h : goodU v) : Ex.remQ v 65536 = v % 65536 := by
  unfold goodU at h
  obtain ⟨n, rfl⟩ : ∃ n : Nat, v = n := ⟨v.toNat, by omega⟩
  rw [Ex.remQ_eq]
  show ((n % 65536 : Nat) : Int) = _
  omega
theorem good_quo {v : Int} (h : goodU v) : goodU (v / 65536) := by unfold goodU at *; omega

theorem rnum_eqs {v : Int} (h : goodU v) : Ex.remQ v 65536 = v % 65536 ∧ Ex.wrapQ .u64 (Ex.quoQ v 65536) = v / 65536 ∧ Ex.remQ (v / 65536) 65536 = v / 65536 % 65536 ∧ Ex.wrapQ .u64 (Ex.quoQ (v / 65536) 65536) = v / 4294967296 ∧ Ex.remQ (v / 4294967296) 65536 = v / 4294967296 % 65536 ∧
    Ex.wrapQ .u64 (Ex.quoQ (v / 4294967296) 65536) = v / 281474976710656 ∧ Ex.remQ (v / 281474976710656) 65536 = v / 281474976710656 % 65536 := by
  have e1 : v / 65536 / 65536 = v / 4294967296 := by omega
  have e2 : v / 4294967296 / 65536 = v / 281474976710656 := by omega
  have g1 := good_quo h
  have g2 := good_quo g1
  rw [e1] at g2
  have g3 := good_quo g2
  rw [e2] at g3
  exact ⟨rem16 h, quo16 h, rem16 g1, by rw [quo16 g1, e1], rem16 g2, by rw [quo16 g2, e2], rem16 g3⟩

theorem rnum0_met (r v : Int) : Sy.Meets Try.prog (rnum0 r v) := by
  refine Sy.meets_of Sy.S0_holds mixed (rnum0_run r v) fun hok ns => ?_
  obtain ⟨h1, h2, h3, h4, h5, h6, h7⟩ := rnum_eqs (show goodU v from hok)
  simp only [rnum0_R, Sy.Res.holds, h1, h2, h3, h4, h5, h6, h7, wrap16, tst_t, tst_f]
  unfold rnum0 numL movk
  refine fun hc0 => ⟨fun c1 hc1 => ⟨fun c2 hc2 => ⟨fun c3 hc3 => ?_, fun c3 => ?_⟩, fun c2 => ⟨fun c3 hc3 => ?_, fun c3 => ?_⟩⟩, fun c1 => ⟨fun c2 hc2 => ⟨fun c3 hc3 => ?_, fun c3 => ?_⟩, fun c2 => ⟨fun c3 hc3 => ?_, fun c3 => ?_⟩⟩⟩
  all_goals
    simp only [c1, c2, c3, if_true, if_false]
    exact Sy.rowO_leaf' (List.mem_singleton_self _) rfl 0 rfl rfl rfl rfl (by assumption)

theorem rnumA_met (g n cap : Nat) (xs : List Value) (r v : Int) : Sy.Meets Try.prog (rnumA g n cap xs r v) := by
  refine Sy.meets_of Sy.S0_holds mixed (rnumA_run g n cap xs r v) fun hok ns => ?_
  obtain ⟨hok, hn⟩ := hok
  obtain ⟨h1, h2, h3, h4, h5, h6, h7⟩ := rnum_eqs (show goodU v from hok)
  simp only [rnumA_R, Sy.Res.holds, h1, h2, h3, h4, h5, h6, h7, wrap16, tst_t, tst_f]
  unfold rnumA numL movk
  refine ⟨by omega, by omega, fun hc0 => ⟨fun c1 => ⟨by omega, by omega, fun hc1 => ⟨fun c2 => ⟨by omega, by omega, fun hc2 => ⟨fun c3 => ⟨by omega, by omega, fun hc3 => ?_⟩, fun c3 => ?_⟩⟩, fun c2 => ⟨fun c3 => ⟨by omega, by omega, fun hc3 => ?_⟩, fun c3 => ?_⟩⟩⟩,
    fun c1 => ⟨fun c2 => ⟨by omega, by omega, fun hc2 => ⟨fun c3 => ⟨by omega, by omega, fun hc3 => ?_⟩, fun c3 => ?_⟩⟩, fun c2 => ⟨fun c3 => ⟨by omega, by omega, fun hc3 => ?_⟩, fun c3 => ?_⟩⟩⟩⟩
  all_goals
    simp only [c1, c2, c3, if_true, if_false]
    exact Sy.rowO_leaf' (List.mem_singleton_self _) rfl 0 rfl rfl (by simp) (by simp [insCells, I.cells]) (by assumption)

theorem numC_met (r v : Int) : Sy.Meets Try.prog (numC r v) := by
  refine Sy.meets_of Sy.S0_holds mixed (num_run r v) fun hok ns => ?_
  have h1 : Ex.andQ .u64 (Ex.shrQ .u64 v 16) 65535 = v / 65536 % 65536 := shand hok 16 (by omega)
  have h2 : Ex.andQ .u64 (Ex.shrQ .u64 v 32) 65535 = v / 4294967296 % 65536 := shand hok 32 (by omega)
  have h3 : Ex.andQ .u64 (Ex.shrQ .u64 v 48) 65535 = v / 281474976710656 % 65536 := shand hok 48 (by omega)
  have h0 := and16 (show goodU v from hok)
  simp only [num_R, Sy.Res.holds, h0, h1, h2, h3, wrap16, tst_t, tst_f]
  unfold numC numL movk
  refine ⟨fun c1 hc1 => ⟨fun c2 hc2 => ⟨fun c3 hc3 => ?_, fun c3 => ?_⟩, fun c2 => ⟨fun c3 hc3 => ?_, fun c3 => ?_⟩⟩, fun c1 => ⟨fun c2 hc2 => ⟨fun c3 hc3 => ?_, fun c3 => ?_⟩, fun c2 => ⟨fun c3 hc3 => ?_, fun c3 => ?_⟩⟩⟩
  all_goals
    simp only [c1, c2, c3, if_true, if_false]
    refine Sy.rowO_leaf (List.mem_singleton_self _) rfl 0 rfl rfl ⟨rfl, rfl, ?_⟩ (by first | assumption | exact Nat.le_refl _)
    first | exact .inl rfl | exact .inr (.inl rfl)

end Go.Proofs.Ytgaejhhipnpopaa
