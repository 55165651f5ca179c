/-
  LowerValues: registers out of numbers; are they kept; an expression's value: explored.
-/
import Derived.Test.YtgaejhhipnpopaaLwR3
import Derived.Test.YtgaejhhipnpopaaLwAd
namespace Go.Proofs.Ytgaejhhipnpopaa
set_option linter.unusedVariables false
set_option linter.unusedSimpArgs false
open Go Go.RowKit
open Sy (Let Blk)

abbrev fRegs : FuncId := 22
abbrev fKept : FuncId := 24
abbrev fAt : FuncId := 39
noncomputable def bodyRg : Code := Sy.loopBody Try.f22 0
noncomputable def bodyKp : Code := Sy.loopBody Try.f24 0
noncomputable def bodyS0 : Code := Sy.loopBody Try.f39 0
noncomputable def bodyS1 : Code := Sy.loopBody Try.f39 1

def numC8 (l : List Int) : List Value := l.map (Value.int .u64)
def slRg (g o c m gr g2 : Nat) (i : Nat) : List (Nat × Value) := [(0, .slice (some ⟨g, o, none⟩) (.succ m) c), (2, .pointer (some ⟨g2, 0, none⟩)), (3, .pointer (some ⟨gr, 0, none⟩)), (4, .int .i64 i)]
def memRg (g o gr : Nat) (ys : List Value) (xs : List Int) : List Blk := [⟨g, .seg o ys, false⟩, ⟨gr, regO xs, true⟩]
def rg_o : Sy.O := (Sy.O.steps [1] (Sy.O.fork (Sy.O.steps [2, 0, 1, 2, 3, 4, 5, 6, 1, 7, 0, 1, 1, 1, 8, 9, 10, 11, 12, 13, 14, 15, 1, 19, 1, 0, 1, 1, 0] Sy.O.nil) Sy.O.nil))
noncomputable def rg_R (g : Nat) (o : Nat) (c : Nat) (m : Nat) (gr : Nat) (g2 : Nat) (i : Nat) (ys : List Value) (xs : List Int) (rest : List Value) (ns : Nat → Sy.Let) : Sy.Res (Exit × Nat × List Value × List Blk) := Sy.Res.br (bif Ex.ltQ (↑i : Int) (31 : Int) then true else false)
 (Sy.Res.need ((0 : Int) ≤ Ex.remQ (↑i : Int) (Nat.succ m) ∧ Ex.remQ (↑i : Int) (Nat.succ m) < (↑(Nat.succ m) : Int))
 (Sy.Res.need
 (∃ (i_1 : Int),
 Sy.Cont.at (Sy.Cont.seg o ys) (o + Int.toNat (Ex.remQ (↑i : Int) (Nat.succ m)) * (1 : Nat)) =
 some (Value.int IntKind.u64 i_1))
 (Sy.Res.hyp
 (Sy.Cont.at (Sy.Cont.seg o ys) (o + Int.toNat (Ex.remQ (↑i : Int) (Nat.succ m)) * (1 : Nat)) =
 some (Value.int IntKind.u64 (Let.i (ns (0 : Nat)))))
 (Sy.Res.need ((0 : Int) ≤ (↑i : Int) ∧ (↑i : Int) < (32 : Int))
 (Sy.Res.need ((0 : Nat) + Int.toNat (↑i : Int) * (1 : Nat) < Array.size (regA xs))
 (Sy.Res.leaf
 (Exit.normal, (31 : Nat),
 [Value.slice (some (Addr.mk g o none)) (Nat.succ m) c, Value.pointer (some (Addr.mk g2 (0 : Nat) none)),
 Value.pointer (some (Addr.mk gr (0 : Nat) none)),
 Value.int IntKind.i64 (Ex.wrapQ IntKind.i64 (Ex.addQ (↑i : Int) (1 : Int)))],
 [Blk.mk g (Sy.Cont.seg o ys) false,
 Blk.mk gr
 (Sy.Cont.obj
 (Obj.cells
 (Array.setIfInBounds (regA xs) ((0 : Nat) + Int.toNat (↑i : Int) * (1 : Nat))
 (Value.int IntKind.u64
 (Ex.wrapQ IntKind.u64
 (Ex.addQ (Let.i (ns (0 : Nat)))
 (Ex.wrapQ IntKind.u64 (Ex.wrapQ IntKind.i64 (Ex.quoQ (↑i : Int) (Nat.succ m))))))))
 (42 : Nat)))
 true])))))))
 (Sy.Res.leaf
 (Exit.exit (0 : Nat), (31 : Nat),
 [Value.slice (some (Addr.mk g o none)) (Nat.succ m) c, Value.pointer (some (Addr.mk g2 (0 : Nat) none)),
 Value.pointer (some (Addr.mk gr (0 : Nat) none)), Value.int IntKind.i64 (↑i : Int)],
 memRg g o gr ys xs))
theorem rg_run (g o c m gr g2 i : Nat) (ys : List Value) (xs : List Int) (rest : List Value) : Sy.Ran (Sy.pieceT Try.prog Sy.S0 60 fRegs bodyRg 31 (slRg g o c m gr g2 i) rest (memRg g o gr ys xs) [0, 2, 3, 4]) rg_o (rg_R g o c m gr g2 i ys xs rest) := ⟨fun ns => by kernel_rfl, fun ns => by kernel_rfl⟩

def slKp (gr gs : Nat) (k e : Int) (i : Nat) : List (Nat × Value) := [(2, .int .i64 k), (3, .int .i64 e), (4, .pointer (some ⟨gr, 0, none⟩)), (5, .pointer (some ⟨gs, 0, none⟩)), (8, .bool false), (9, .int .i64 i)]
def kp_o : Sy.O := (Sy.O.fork (Sy.O.steps [0, 0, 1, 2, 1, 3, 0, 1, 1, 1, 4, 5, 6, 1, 7, 1, 1, 1, 1, 8, 9, 10] (Sy.O.fork (Sy.O.steps [11, 0, 12, 0, 13, 0, 14, 0, 15] (Sy.O.fork (Sy.O.steps [16, 0, 17, 0, 18, 19, 20, 21, 0, 22, 0, 23, 0] Sy.O.nil) (Sy.O.steps [16, 0, 17, 0, 18] (Sy.O.fork (Sy.O.steps [19, 0, 20, 0, 21, 0, 22, 0, 23] (Sy.O.fork Sy.O.nil Sy.O.nil)) (Sy.O.steps [19, 0, 20, 0, 21, 0, 22, 0, 23, 0] Sy.O.nil))))) (Sy.O.steps [11, 0, 12, 0, 13, 0, 14, 0, 15, 16, 17, 18, 19, 20, 21, 22, 0, 23, 0] Sy.O.nil))) Sy.O.nil)
noncomputable def kp_R (gr : Nat) (gs : Nat) (k : Int) (e : Int) (i : Nat) (xs : List Int) (ys : List Int) (rest : List Value) (ns : Nat → Sy.Let) : Sy.Res (Exit × Nat × List Value × List Blk) := Sy.Res.br (Ex.ltQ (↑i : Int) (31 : Int))
 (Sy.Res.need ((0 : Int) ≤ (↑i : Int) ∧ (↑i : Int) < (32 : Int))
 (Sy.Res.need
 (∃ (i_1 : Int),
 Sy.Cont.at (Sy.Cont.obj (Obj.cells (regA xs) (42 : Nat))) ((0 : Nat) + Int.toNat (↑i : Int) * (1 : Nat)) =
 some (Value.int IntKind.u64 i_1))
 (Sy.Res.hyp
 (Sy.Cont.at (Sy.Cont.obj (Obj.cells (regA xs) (42 : Nat))) ((0 : Nat) + Int.toNat (↑i : Int) * (1 : Nat)) =
 some (Value.int IntKind.u64 (Let.i (ns (0 : Nat)))))
 (Sy.Res.need ((0 : Int) ≤ (↑i : Int) ∧ (↑i : Int) < (32 : Int))
 (Sy.Res.need
 (∃ (i_1 : Int),
 Sy.Cont.at (Sy.Cont.obj (Obj.cells (regA ys) (42 : Nat))) ((0 : Nat) + Int.toNat (↑i : Int) * (1 : Nat)) =
 some (Value.int IntKind.u64 i_1))
 (Sy.Res.hyp
 (Sy.Cont.at (Sy.Cont.obj (Obj.cells (regA ys) (42 : Nat)))
 ((0 : Nat) + Int.toNat (↑i : Int) * (1 : Nat)) =
 some (Value.int IntKind.u64 (Let.i (ns (1 : Nat)))))
 (Sy.Res.br (!Ex.eqQ (Let.i (ns (0 : Nat))) (Let.i (ns (1 : Nat))))
 (Sy.Res.br (Ex.ltQ (↑i : Int) (Ex.wrapQ IntKind.i64 (Ex.addQ (24 : Int) k)))
 (Sy.Res.leaf
 (Exit.ret, (38 : Nat),
 [Value.int IntKind.i64 k, Value.int IntKind.i64 e,
 Value.pointer (some (Addr.mk gr (0 : Nat) none)),
 Value.pointer (some (Addr.mk gs (0 : Nat) none)), Value.bool false,
 Value.int IntKind.i64 (↑i : Int)],
 [Blk.mk gr (regO xs) false, Blk.mk gs (regO ys) false]))
 (Sy.Res.br (Ex.leQ (29 : Int) (↑i : Int))
 (Sy.Res.br
 (bif true then bif false then true else bif true then Ex.leQ e (↑i : Int) else false else false)
 (Sy.Res.leaf
 (Exit.ret, (38 : Nat),
 [Value.int IntKind.i64 k, Value.int IntKind.i64 e,
 Value.pointer (some (Addr.mk gr (0 : Nat) none)),
 Value.pointer (some (Addr.mk gs (0 : Nat) none)), Value.bool false,
 Value.int IntKind.i64 (↑i : Int)],
 [Blk.mk gr (regO xs) false, Blk.mk gs (regO ys) false]))
 (Sy.Res.leaf
 (Exit.normal, (38 : Nat),
 [Value.int IntKind.i64 k, Value.int IntKind.i64 e,
 Value.pointer (some (Addr.mk gr (0 : Nat) none)),
 Value.pointer (some (Addr.mk gs (0 : Nat) none)), Value.bool false,
 Value.int IntKind.i64 (Ex.wrapQ IntKind.i64 (Ex.addQ (↑i : Int) (1 : Int)))],
 [Blk.mk gr (regO xs) false, Blk.mk gs (regO ys) false])))
 (Sy.Res.leaf
 (Exit.normal, (38 : Nat),
 [Value.int IntKind.i64 k, Value.int IntKind.i64 e,
 Value.pointer (some (Addr.mk gr (0 : Nat) none)),
 Value.pointer (some (Addr.mk gs (0 : Nat) none)), Value.bool false,
 Value.int IntKind.i64 (Ex.wrapQ IntKind.i64 (Ex.addQ (↑i : Int) (1 : Int)))],
 [Blk.mk gr (regO xs) false, Blk.mk gs (regO ys) false]))))
 (Sy.Res.leaf
 (Exit.normal, (38 : Nat),
 [Value.int IntKind.i64 k, Value.int IntKind.i64 e, Value.pointer (some (Addr.mk gr (0 : Nat) none)),
 Value.pointer (some (Addr.mk gs (0 : Nat) none)), Value.bool false,
 Value.int IntKind.i64 (Ex.wrapQ IntKind.i64 (Ex.addQ (↑i : Int) (1 : Int)))],
 [Blk.mk gr (regO xs) false, Blk.mk gs (regO ys) false])))))))))
 (Sy.Res.leaf
 (Exit.exit (0 : Nat), (38 : Nat),
 [Value.int IntKind.i64 k, Value.int IntKind.i64 e, Value.pointer (some (Addr.mk gr (0 : Nat) none)),
 Value.pointer (some (Addr.mk gs (0 : Nat) none)), Value.bool false, Value.int IntKind.i64 (↑i : Int)],
 [Blk.mk gr (regO xs) false, Blk.mk gs (regO ys) false]))
theorem kp_run (gr gs : Nat) (k e : Int) (i : Nat) (xs ys : List Int) (rest : List Value) : Sy.Ran (Sy.pieceT Try.prog Sy.S0 60 fKept bodyKp 38 (slKp gr gs k e i) rest [⟨gr, regO xs, false⟩, ⟨gs, regO ys, false⟩] [2, 3, 4, 5, 8, 9]) kp_o (kp_R gr gs k e i xs ys rest) := ⟨fun ns => by kernel_rfl, fun ns => by kernel_rfl⟩

def slS0 (V6 : Value) (a b k : Int) : List (Nat × Value) := [(6, V6), (8, .int .u64 a), (9, .int .u64 b), (10, .int .u64 k)]
def slS1 (V6 : Value) (a b k : Int) : List (Nat × Value) := [(6, V6), (8, .int .u64 a), (9, .int .u64 b), (11, .int .u64 k)]
def s0_o : Sy.O := (Sy.O.fork Sy.O.nil Sy.O.nil)
noncomputable def s0_R (V6 : Value) (a : Int) (b : Int) (k : Int) (rest : List Value) (ns : Nat → Sy.Let) : Sy.Res (Exit × Nat × List Value × List Blk) := Sy.Res.br (Ex.ltQ k (Ex.remQ b (nat_lit 64)))
 (Sy.Res.leaf
 (Exit.normal, (143 : Nat),
 [V6, Value.int IntKind.u64 (Ex.wrapQ IntKind.u64 (Ex.addQ a a)), Value.int IntKind.u64 b,
 Value.int IntKind.u64 (Ex.wrapQ IntKind.u64 (Ex.addQ k (1 : Int)))],
 []))
 (Sy.Res.leaf
 (Exit.exit (2 : Nat), (143 : Nat), [V6, Value.int IntKind.u64 a, Value.int IntKind.u64 b, Value.int IntKind.u64 k],
 []))
theorem s0_run (V6 : Value) (a b k : Int) (rest : List Value) : Sy.Ran (Sy.pieceT Try.prog Sy.S0 60 fAt bodyS0 143 (slS0 V6 a b k) rest [] [6, 8, 9, 10]) s0_o (s0_R V6 a b k rest) := ⟨fun ns => by kernel_rfl, fun ns => by kernel_rfl⟩
def s1_o : Sy.O := (Sy.O.fork Sy.O.nil Sy.O.nil)
noncomputable def s1_R (V6 : Value) (a : Int) (b : Int) (k : Int) (rest : List Value) (ns : Nat → Sy.Let) : Sy.Res (Exit × Nat × List Value × List Blk) := Sy.Res.br (Ex.ltQ k (Ex.remQ b (nat_lit 64)))
 (Sy.Res.leaf
 (Exit.normal, (143 : Nat),
 [V6, Value.int IntKind.u64 (Ex.wrapQ IntKind.u64 (Ex.quoQ a (nat_lit 2))), Value.int IntKind.u64 b,
 Value.int IntKind.u64 (Ex.wrapQ IntKind.u64 (Ex.addQ k (1 : Int)))],
 []))
 (Sy.Res.leaf
 (Exit.exit (4 : Nat), (143 : Nat), [V6, Value.int IntKind.u64 a, Value.int IntKind.u64 b, Value.int IntKind.u64 k],
 []))
theorem s1_run (V6 : Value) (a b k : Int) (rest : List Value) : Sy.Ran (Sy.pieceT Try.prog Sy.S0 60 fAt bodyS1 143 (slS1 V6 a b k) rest [] [6, 8, 9, 11]) s1_o (s1_R V6 a b k rest) := ⟨fun ns => by kernel_rfl, fun ns => by kernel_rfl⟩

end Go.Proofs.Ytgaejhhipnpopaa
