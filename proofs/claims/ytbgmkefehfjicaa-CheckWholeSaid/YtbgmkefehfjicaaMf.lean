/-
  The reference's look at an act: the runs, by its number. And what follows it.
-/
import Derived.Test.YtbgmkefehfjicaaMe

/-
  The reference's look at an act: the runs, by its number.
-/
namespace Go.Proofs.Ytbgmkefehfjicaa
set_option linter.unusedVariables false
set_option linter.unusedSimpArgs false
open Go Go.RowKit
open Sy (Let Blk HasL)

def rac1_o : Sy.O := (Sy.O.pack 28 0x400000020000010000000020000000040 (Sy.O.fork Sy.O.nil (Sy.O.pack 14 0x8000040000040 (Sy.O.fork (Sy.O.pack 12 0x0 Sy.O.nil) (Sy.O.pack 11 0x800 (Sy.O.fork (Sy.O.pack 6 0x0 Sy.O.nil) (Sy.O.pack 36 0x80400804008040004000004000000000010000000800 (Sy.O.fork Sy.O.nil (Sy.O.pack 38 0x100c210000000002000000004000000000020000000040 (Sy.O.fork (Sy.O.pack 4 0x0 Sy.O.nil) (Sy.O.pack 33 0x40010000000020000000000000400000000000 (Sy.O.fork Sy.O.nil (Sy.O.pack 16 0x800000020000000040 Sy.O.nil)))))))))))))
noncomputable def rac1_R (B : List (Nat × Sy.Cont)) (dst : Int) (base : Int) (size : Int) (mode : Int) (to : Int) (line : Int) (col : Int) (iv : Value) (ev : Value) (fv : Value) (tv : Value) (av : Value) (ix : List NodeD) (e : List NodeD) (f : List NodeD) (cells : Int) (loc : Int) (ns : Nat → Sy.Let) : Sy.Res (Value × List Blk) := .need True (.hyp True (.br (bif false then true else !mayF (1 : Int) mode) (.leaf (Value.bool false, Blk.mk (Let.n (ns 2)) (.obj (.cells (Array.mk [.int .i64 loc, av]) (37 : Nat))) true :: Blk.mk (Let.n (ns 1)) (.obj (.cells (Array.mk [.int .i64 cells, tv]) (27 : Nat))) true :: Blk.mk (Let.n (ns 0)) (.obj (.cells (Array.mk [.int .i64 (1 : Int), .int .i64 dst, .int .i64 base, .int .i64 size, iv, ev, fv, .int .i64 mode, .int .i64 to, .int .i64 line, .int .i64 col]) (67 : Nat))) true :: rdOf B)) (.need True (.hyp True (.br (Ex.ltQ dst (0 : Int)) (.leaf (Value.bool false, Blk.mk (Let.n (ns 2)) (.obj (.cells (Array.mk [.int .i64 loc, av]) (37 : Nat))) true :: Blk.mk (Let.n (ns 1)) (.obj (.cells (Array.mk [.int .i64 cells, tv]) (27 : Nat))) true :: Blk.mk (Let.n (ns 0)) (.obj (.cells (Array.mk [.int .i64 (1 : Int), .int .i64 dst, .int .i64 base, .int .i64 size, iv, ev, fv, .int .i64 mode, .int .i64 to, .int .i64 line, .int .i64 col]) (67 : Nat))) true :: rdOf B)) (.br (bif true then bif
 false then true else Ex.leQ loc dst else false) (.leaf (Value.bool false, Blk.mk (Let.n (ns 2)) (.obj (.cells (Array.mk [.int .i64 loc, av]) (37 : Nat))) true :: Blk.mk (Let.n (ns 1)) (.obj (.cells (Array.mk [.int .i64 cells, tv]) (27 : Nat))) true :: Blk.mk (Let.n (ns 0)) (.obj (.cells (Array.mk [.int .i64 (1 : Int), .int .i64 dst, .int .i64 base, .int .i64 size, iv, ev, fv, .int .i64 mode, .int .i64 to, .int .i64 line, .int .i64 col]) (67 : Nat))) true :: rdOf B)) (.need True (.hyp True (.need True (.hyp True (.need (∃ (p : Option Addr), ∃ (n : Nat), ∃ (c : Nat), iv = Value.slice p n c) (.br (bif bif !Ex.eqQ base (0 : Int) then true else !Ex.eqQ size (0 : Int) then true else Ex.ltQ (0 : Int) (Int.ofNat (Sy.lenS iv))) (.leaf (Value.bool false, Blk.mk (Let.n (ns 2)) (.obj (.cells (Array.mk [.int .i64 loc, av]) (37 : Nat))) true :: Blk.mk (Let.n (ns 1)) (.obj (.cells (Array.mk [.int .i64 cells, tv]) (27 : Nat))) true :: Blk.mk (Let.n (ns 0)) (.obj (.cells (Array.mk [.int .i64 (1 : Int),
 .int .i64 dst, .int .i64 base, .int .i64 size, iv, ev, fv, .int .i64 mode, .int .i64 to, .int .i64 line, .int .i64 col]) (67 : Nat))) true :: rdOf B)) (.need (NodesR B ev e ∧ List.length e < (4398046511104 : Nat)) (.need (Sy.GotL (rdOf B) B) (.hyp True (.br (bif true then !exprR loc e else false) (.leaf (Value.bool false, Blk.mk (Let.n (ns 2)) (.obj (.cells (Array.mk [.int .i64 loc, av]) (37 : Nat))) true :: Blk.mk (Let.n (ns 1)) (.obj (.cells (Array.mk [.int .i64 cells, tv]) (27 : Nat))) true :: Blk.mk (Let.n (ns 0)) (.obj (.cells (Array.mk [.int .i64 (1 : Int), .int .i64 dst, .int .i64 base, .int .i64 size, iv, ev, fv, .int .i64 mode, .int .i64 to, .int .i64 line, .int .i64 col]) (67 : Nat))) true :: rdOf B)) (.need (∃ (p : Option Addr), ∃ (n : Nat), ∃ (c : Nat), fv = Value.slice p n c) (.br (bif false then true else bif true then Ex.ltQ (0 : Int) (Int.ofNat (Sy.lenS fv)) else false) (.leaf (Value.bool false, Blk.mk (Let.n (ns 2)) (.obj (.cells (Array.mk [.int .i64 loc, av]) (37 :
 Nat))) true :: Blk.mk (Let.n (ns 1)) (.obj (.cells (Array.mk [.int .i64 cells, tv]) (27 : Nat))) true :: Blk.mk (Let.n (ns 0)) (.obj (.cells (Array.mk [.int .i64 (1 : Int), .int .i64 dst, .int .i64 base, .int .i64 size, iv, ev, fv, .int .i64 mode, .int .i64 to, .int .i64 line, .int .i64 col]) (67 : Nat))) true :: rdOf B)) (.leaf (Value.bool (Ex.eqQ to (0 : Int)), Blk.mk (Let.n (ns 2)) (.obj (.cells (Array.mk [.int .i64 loc, av]) (37 : Nat))) true :: Blk.mk (Let.n (ns 1)) (.obj (.cells (Array.mk [.int .i64 cells, tv]) (27 : Nat))) true :: Blk.mk (Let.n (ns 0)) (.obj (.cells (Array.mk [.int .i64 (1 : Int), .int .i64 dst, .int .i64 base, .int .i64 size, iv, ev, fv, .int .i64 mode, .int .i64 to, .int .i64 line, .int .i64 col]) (67 : Nat))) true :: rdOf B))))))))))))))))))))

theorem rac1_run (B : List (Nat × Sy.Cont)) (dst base size mode to line col : Int) (iv ev fv tv av : Value) (ix e f : List NodeD) (cells loc : Int) : Sy.Ran (Sy.inB Try.prog (ctxR B (1) size mode iv ev fv ix e f loc) 50 fRAct #[.agg #[.int .i64 (1), .int .i64 dst, .int .i64 base, .int .i64 size, iv, ev, fv, .int .i64 mode, .int .i64 to, .int .i64 line, .int .i64 col], progV cells tv, thrV loc av] (rdOf B)) rac1_o (rac1_R B dst base size mode to line col iv ev fv tv av ix e f cells loc) := ⟨fun ns => by kernel_rfl, fun ns => by kernel_rfl⟩
def rac2_o : Sy.O := (Sy.O.pack 28 0x400000020000010000000020000000040 (Sy.O.fork Sy.O.nil (Sy.O.pack 14 0x8000040000040 (Sy.O.fork (Sy.O.pack 12 0x0 Sy.O.nil) (Sy.O.pack 11 0x800 (Sy.O.fork (Sy.O.pack 6 0x0 Sy.O.nil) (Sy.O.pack 27 0x40004000004000000000010000000800 (Sy.O.fork (Sy.O.pack 3 0x40 (Sy.O.fork (Sy.O.pack 17 0x0 Sy.O.nil) (Sy.O.pack 12 0x800000800 (Sy.O.fork (Sy.O.pack 10 0x0 Sy.O.nil) (Sy.O.pack 6 0x800 (Sy.O.fork (Sy.O.pack 8 0x2000800 (Sy.O.fork (Sy.O.pack 5 0x0 Sy.O.nil) (Sy.O.pack 6 0x800 (Sy.O.fork (Sy.O.pack 17 0x403080000000000800 (Sy.O.fork Sy.O.nil (Sy.O.pack 33 0x40010000000000000000000000000000000040 (Sy.O.fork Sy.O.nil (Sy.O.pack 25 0x4001000000002000000000000040 (Sy.O.fork Sy.O.nil (Sy.O.pack 16 0x800000020000000040 Sy.O.nil))))))) (Sy.O.pack 40 0x20008000000000000000000000000000000020000000000 (Sy.O.fork Sy.O.nil (Sy.O.pack 25 0x4001000000002000000000000040 (Sy.O.fork Sy.O.nil (Sy.O.pack 16 0x800000020000000040 Sy.O.nil))))))))) (Sy.O.pack 11 0x1000000000 (Sy.O.fork (Sy.O.pack 17 0x403080000000000800 (Sy.O.fork Sy.O.nil (Sy.O.pack 33 0x40010000000000000000000000000000000040 (Sy.O.fork Sy.O.nil (Sy.O.pack 25 0x4001000000002000000000000040 (Sy.O.fork Sy.O.nil (Sy.O.pack 16 0x800000020000000040 Sy.O.nil))))))) (Sy.O.pack 40 0x20008000000000000000000000000000000020000000000 (Sy.O.fork Sy.O.nil (Sy.O.pack 25 0x4001000000002000000000000040 (Sy.O.fork Sy.O.nil (Sy.O.pack 16 0x800000020000000040 Sy.O.nil))))))))))))) (Sy.O.pack 4 0x8000 (Sy.O.fork Sy.O.nil (Sy.O.pack 3 0x40 (Sy.O.fork (Sy.O.pack 17 0x0 Sy.O.nil) (Sy.O.pack 12 0x800000800 (Sy.O.fork (Sy.O.pack 10 0x0 Sy.O.nil) (Sy.O.pack 6 0x800 (Sy.O.fork (Sy.O.pack 8 0x2000800 (Sy.O.fork (Sy.O.pack 5 0x0 Sy.O.nil) (Sy.O.pack 6 0x800 (Sy.O.fork (Sy.O.pack 17 0x403080000000000800 (Sy.O.fork Sy.O.nil (Sy.O.pack 33 0x40010000000000000000000000000000000040 (Sy.O.fork Sy.O.nil (Sy.O.pack 25 0x4001000000002000000000000040 (Sy.O.fork Sy.O.nil (Sy.O.pack 16 0x800000020000000040 Sy.O.nil))))))) (Sy.O.pack 40 0x20008000000000000000000000000000000020000000000 (Sy.O.fork Sy.O.nil (Sy.O.pack 25 0x4001000000002000000000000040 (Sy.O.fork Sy.O.nil (Sy.O.pack 16 0x800000020000000040 Sy.O.nil))))))))) (Sy.O.pack 11 0x1000000000 (Sy.O.fork (Sy.O.pack 17 0x403080000000000800 (Sy.O.fork Sy.O.nil (Sy.O.pack 33 0x40010000000000000000000000000000000040 (Sy.O.fork Sy.O.nil (Sy.O.pack 25 0x4001000000002000000000000040 (Sy.O.fork Sy.O.nil (Sy.O.pack 16 0x800000020000000040 Sy.O.nil))))))) (Sy.O.pack 40 0x20008000000000000000000000000000000020000000000 (Sy.O.fork Sy.O.nil (Sy.O.pack 25 0x4001000000002000000000000040 (Sy.O.fork Sy.O.nil (Sy.O.pack 16 0x800000020000000040 Sy.O.nil)))))))))))))))))))))))
noncomputable def rac2_R (B : List (Nat × Sy.Cont)) (dst : Int) (base : Int) (size : Int) (mode : Int) (to : Int) (line : Int) (col : Int) (iv : Value) (ev : Value) (fv : Value) (tv : Value) (av : Value) (ix : List NodeD) (e : List NodeD) (f : List NodeD) (cells : Int) (loc : Int) (ns : Nat → Sy.Let) : Sy.Res (Value × List Blk) := .need True (.hyp True (.br (bif false then true else !mayF (2 : Int) mode) (.leaf (Value.bool false, Blk.mk (Let.n (ns 2)) (.obj (.cells (Array.mk [.int .i64 loc, av]) (37 : Nat))) true :: Blk.mk (Let.n (ns 1)) (.obj (.cells (Array.mk [.int .i64 cells, tv]) (27 : Nat))) true :: Blk.mk (Let.n (ns 0)) (.obj (.cells (Array.mk [.int .i64 (2 : Int), .int .i64 dst, .int .i64 base, .int .i64 size, iv, ev, fv, .int .i64 mode, .int .i64 to, .int .i64 line, .int .i64 col]) (67 : Nat))) true :: rdOf B)) (.need True (.hyp True (.br (Ex.ltQ dst (0 : Int)) (.leaf (Value.bool false, Blk.mk (Let.n (ns 2)) (.obj (.cells (Array.mk [.int .i64 loc, av]) (37 : Nat))) true :: Blk.mk (Let.n (ns 1)) (.obj (.cells (Array.mk [.int .i64 cells, tv]) (27 : Nat))) true :: Blk.mk (Let.n (ns 0)) (.obj (.cells (Array.mk [.int .i64 (2 : Int), .int .i64 dst, .int .i64 base, .int .i64 size, iv, ev, fv, .int .i64 mode, .int .i64 to, .int .i64 line, .int .i64 col]) (67 : Nat))) true :: rdOf B)) (.br (bif true then bif
 false then true else Ex.leQ loc dst else false) (.leaf (Value.bool false, Blk.mk (Let.n (ns 2)) (.obj (.cells (Array.mk [.int .i64 loc, av]) (37 : Nat))) true :: Blk.mk (Let.n (ns 1)) (.obj (.cells (Array.mk [.int .i64 cells, tv]) (27 : Nat))) true :: Blk.mk (Let.n (ns 0)) (.obj (.cells (Array.mk [.int .i64 (2 : Int), .int .i64 dst, .int .i64 base, .int .i64 size, iv, ev, fv, .int .i64 mode, .int .i64 to, .int .i64 line, .int .i64 col]) (67 : Nat))) true :: rdOf B)) (.need True (.hyp True (.need True (.hyp True (.br (Ex.eqQ size (0 : Int)) (.br (Ex.ltQ base (0 : Int)) (.leaf (Value.bool false, Blk.mk (Let.n (ns 2)) (.obj (.cells (Array.mk [.int .i64 loc, av]) (37 : Nat))) true :: Blk.mk (Let.n (ns 1)) (.obj (.cells (Array.mk [.int .i64 cells, tv]) (27 : Nat))) true :: Blk.mk (Let.n (ns 0)) (.obj (.cells (Array.mk [.int .i64 (2 : Int), .int .i64 dst, .int .i64 base, .int .i64 size, iv, ev, fv, .int .i64 mode, .int .i64 to, .int .i64 line, .int .i64 col]) (67 : Nat))) true :: rdOf B))
 (.br (bif false then true else Ex.ltQ (Ex.wrapQ .i64 (Ex.subQ' cells (1 : Int))) base) (.leaf (Value.bool false, Blk.mk (Let.n (ns 2)) (.obj (.cells (Array.mk [.int .i64 loc, av]) (37 : Nat))) true :: Blk.mk (Let.n (ns 1)) (.obj (.cells (Array.mk [.int .i64 cells, tv]) (27 : Nat))) true :: Blk.mk (Let.n (ns 0)) (.obj (.cells (Array.mk [.int .i64 (2 : Int), .int .i64 dst, .int .i64 base, .int .i64 size, iv, ev, fv, .int .i64 mode, .int .i64 to, .int .i64 line, .int .i64 col]) (67 : Nat))) true :: rdOf B)) (.br (Ex.eqQ size (0 : Int)) (.need (∃ (p : Option Addr), ∃ (n : Nat), ∃ (c : Nat), iv = Value.slice p n c) (.br (bif false then true else bif true then Ex.ltQ (0 : Int) (Int.ofNat (Sy.lenS iv)) else false) (.leaf (Value.bool false, Blk.mk (Let.n (ns 2)) (.obj (.cells (Array.mk [.int .i64 loc, av]) (37 : Nat))) true :: Blk.mk (Let.n (ns 1)) (.obj (.cells (Array.mk [.int .i64 cells, tv]) (27 : Nat))) true :: Blk.mk (Let.n (ns 0)) (.obj (.cells (Array.mk [.int .i64 (2 : Int), .int .i64
 dst, .int .i64 base, .int .i64 size, iv, ev, fv, .int .i64 mode, .int .i64 to, .int .i64 line, .int .i64 col]) (67 : Nat))) true :: rdOf B)) (.br (Ex.ltQ (0 : Int) size) (.need (NodesR B iv ix ∧ List.length ix < (4398046511104 : Nat)) (.need (Sy.GotL (rdOf B) B) (.hyp True (.br (bif false then true else bif true then !exprR loc ix else false) (.leaf (Value.bool false, Blk.mk (Let.n (ns 2)) (.obj (.cells (Array.mk [.int .i64 loc, av]) (37 : Nat))) true :: Blk.mk (Let.n (ns 1)) (.obj (.cells (Array.mk [.int .i64 cells, tv]) (27 : Nat))) true :: Blk.mk (Let.n (ns 0)) (.obj (.cells (Array.mk [.int .i64 (2 : Int), .int .i64 dst, .int .i64 base, .int .i64 size, iv, ev, fv, .int .i64 mode, .int .i64 to, .int .i64 line, .int .i64 col]) (67 : Nat))) true :: rdOf B)) (.need (∃ (p : Option Addr), ∃ (n : Nat), ∃ (c : Nat), ev = Value.slice p n c) (.br (bif false then true else bif true then Ex.ltQ (0 : Int) (Int.ofNat (Sy.lenS ev)) else false) (.leaf (Value.bool false, Blk.mk (Let.n (ns 2)) (.obj
 (.cells (Array.mk [.int .i64 loc, av]) (37 : Nat))) true :: Blk.mk (Let.n (ns 1)) (.obj (.cells (Array.mk [.int .i64 cells, tv]) (27 : Nat))) true :: Blk.mk (Let.n (ns 0)) (.obj (.cells (Array.mk [.int .i64 (2 : Int), .int .i64 dst, .int .i64 base, .int .i64 size, iv, ev, fv, .int .i64 mode, .int .i64 to, .int .i64 line, .int .i64 col]) (67 : Nat))) true :: rdOf B)) (.need (∃ (p : Option Addr), ∃ (n : Nat), ∃ (c : Nat), fv = Value.slice p n c) (.br (bif false then true else bif true then Ex.ltQ (0 : Int) (Int.ofNat (Sy.lenS fv)) else false) (.leaf (Value.bool false, Blk.mk (Let.n (ns 2)) (.obj (.cells (Array.mk [.int .i64 loc, av]) (37 : Nat))) true :: Blk.mk (Let.n (ns 1)) (.obj (.cells (Array.mk [.int .i64 cells, tv]) (27 : Nat))) true :: Blk.mk (Let.n (ns 0)) (.obj (.cells (Array.mk [.int .i64 (2 : Int), .int .i64 dst, .int .i64 base, .int .i64 size, iv, ev, fv, .int .i64 mode, .int .i64 to, .int .i64 line, .int .i64 col]) (67 : Nat))) true :: rdOf B)) (.leaf (Value.bool (Ex.eqQ to
 (0 : Int)), Blk.mk (Let.n (ns 2)) (.obj (.cells (Array.mk [.int .i64 loc, av]) (37 : Nat))) true :: Blk.mk (Let.n (ns 1)) (.obj (.cells (Array.mk [.int .i64 cells, tv]) (27 : Nat))) true :: Blk.mk (Let.n (ns 0)) (.obj (.cells (Array.mk [.int .i64 (2 : Int), .int .i64 dst, .int .i64 base, .int .i64 size, iv, ev, fv, .int .i64 mode, .int .i64 to, .int .i64 line, .int .i64 col]) (67 : Nat))) true :: rdOf B)))))))))) (.need (∃ (p : Option Addr), ∃ (n : Nat), ∃ (c : Nat), ev = Value.slice p n c) (.br (bif false then true else bif true then Ex.ltQ (0 : Int) (Int.ofNat (Sy.lenS ev)) else false) (.leaf (Value.bool false, Blk.mk (Let.n (ns 2)) (.obj (.cells (Array.mk [.int .i64 loc, av]) (37 : Nat))) true :: Blk.mk (Let.n (ns 1)) (.obj (.cells (Array.mk [.int .i64 cells, tv]) (27 : Nat))) true :: Blk.mk (Let.n (ns 0)) (.obj (.cells (Array.mk [.int .i64 (2 : Int), .int .i64 dst, .int .i64 base, .int .i64 size, iv, ev, fv, .int .i64 mode, .int .i64 to, .int .i64 line, .int .i64 col]) (67 : Nat)))
 true :: rdOf B)) (.need (∃ (p : Option Addr), ∃ (n : Nat), ∃ (c : Nat), fv = Value.slice p n c) (.br (bif false then true else bif true then Ex.ltQ (0 : Int) (Int.ofNat (Sy.lenS fv)) else false) (.leaf (Value.bool false, Blk.mk (Let.n (ns 2)) (.obj (.cells (Array.mk [.int .i64 loc, av]) (37 : Nat))) true :: Blk.mk (Let.n (ns 1)) (.obj (.cells (Array.mk [.int .i64 cells, tv]) (27 : Nat))) true :: Blk.mk (Let.n (ns 0)) (.obj (.cells (Array.mk [.int .i64 (2 : Int), .int .i64 dst, .int .i64 base, .int .i64 size, iv, ev, fv, .int .i64 mode, .int .i64 to, .int .i64 line, .int .i64 col]) (67 : Nat))) true :: rdOf B)) (.leaf (Value.bool (Ex.eqQ to (0 : Int)), Blk.mk (Let.n (ns 2)) (.obj (.cells (Array.mk [.int .i64 loc, av]) (37 : Nat))) true :: Blk.mk (Let.n (ns 1)) (.obj (.cells (Array.mk [.int .i64 cells, tv]) (27 : Nat))) true :: Blk.mk (Let.n (ns 0)) (.obj (.cells (Array.mk [.int .i64 (2 : Int), .int .i64 dst, .int .i64 base, .int .i64 size, iv, ev, fv, .int .i64 mode, .int .i64 to, .int
 .i64 line, .int .i64 col]) (67 : Nat))) true :: rdOf B))))))))) (.br (Ex.ltQ (0 : Int) size) (.need (NodesR B iv ix ∧ List.length ix < (4398046511104 : Nat)) (.need (Sy.GotL (rdOf B) B) (.hyp True (.br (bif false then true else bif true then !exprR loc ix else false) (.leaf (Value.bool false, Blk.mk (Let.n (ns 2)) (.obj (.cells (Array.mk [.int .i64 loc, av]) (37 : Nat))) true :: Blk.mk (Let.n (ns 1)) (.obj (.cells (Array.mk [.int .i64 cells, tv]) (27 : Nat))) true :: Blk.mk (Let.n (ns 0)) (.obj (.cells (Array.mk [.int .i64 (2 : Int), .int .i64 dst, .int .i64 base, .int .i64 size, iv, ev, fv, .int .i64 mode, .int .i64 to, .int .i64 line, .int .i64 col]) (67 : Nat))) true :: rdOf B)) (.need (∃ (p : Option Addr), ∃ (n : Nat), ∃ (c : Nat), ev = Value.slice p n c) (.br (bif false then true else bif true then Ex.ltQ (0 : Int) (Int.ofNat (Sy.lenS ev)) else false) (.leaf (Value.bool false, Blk.mk (Let.n (ns 2)) (.obj (.cells (Array.mk [.int .i64 loc, av]) (37 : Nat))) true :: Blk.mk (Let.n (ns
 1)) (.obj (.cells (Array.mk [.int .i64 cells, tv]) (27 : Nat))) true :: Blk.mk (Let.n (ns 0)) (.obj (.cells (Array.mk [.int .i64 (2 : Int), .int .i64 dst, .int .i64 base, .int .i64 size, iv, ev, fv, .int .i64 mode, .int .i64 to, .int .i64 line, .int .i64 col]) (67 : Nat))) true :: rdOf B)) (.need (∃ (p : Option Addr), ∃ (n : Nat), ∃ (c : Nat), fv = Value.slice p n c) (.br (bif false then true else bif true then Ex.ltQ (0 : Int) (Int.ofNat (Sy.lenS fv)) else false) (.leaf (Value.bool false, Blk.mk (Let.n (ns 2)) (.obj (.cells (Array.mk [.int .i64 loc, av]) (37 : Nat))) true :: Blk.mk (Let.n (ns 1)) (.obj (.cells (Array.mk [.int .i64 cells, tv]) (27 : Nat))) true :: Blk.mk (Let.n (ns 0)) (.obj (.cells (Array.mk [.int .i64 (2 : Int), .int .i64 dst, .int .i64 base, .int .i64 size, iv, ev, fv, .int .i64 mode, .int .i64 to, .int .i64 line, .int .i64 col]) (67 : Nat))) true :: rdOf B)) (.leaf (Value.bool (Ex.eqQ to (0 : Int)), Blk.mk (Let.n (ns 2)) (.obj (.cells (Array.mk [.int .i64 loc, av])
 (37 : Nat))) true :: Blk.mk (Let.n (ns 1)) (.obj (.cells (Array.mk [.int .i64 cells, tv]) (27 : Nat))) true :: Blk.mk (Let.n (ns 0)) (.obj (.cells (Array.mk [.int .i64 (2 : Int), .int .i64 dst, .int .i64 base, .int .i64 size, iv, ev, fv, .int .i64 mode, .int .i64 to, .int .i64 line, .int .i64 col]) (67 : Nat))) true :: rdOf B)))))))))) (.need (∃ (p : Option Addr), ∃ (n : Nat), ∃ (c : Nat), ev = Value.slice p n c) (.br (bif false then true else bif true then Ex.ltQ (0 : Int) (Int.ofNat (Sy.lenS ev)) else false) (.leaf (Value.bool false, Blk.mk (Let.n (ns 2)) (.obj (.cells (Array.mk [.int .i64 loc, av]) (37 : Nat))) true :: Blk.mk (Let.n (ns 1)) (.obj (.cells (Array.mk [.int .i64 cells, tv]) (27 : Nat))) true :: Blk.mk (Let.n (ns 0)) (.obj (.cells (Array.mk [.int .i64 (2 : Int), .int .i64 dst, .int .i64 base, .int .i64 size, iv, ev, fv, .int .i64 mode, .int .i64 to, .int .i64 line, .int .i64 col]) (67 : Nat))) true :: rdOf B)) (.need (∃ (p : Option Addr), ∃ (n : Nat), ∃ (c : Nat), fv =
 Value.slice p n c) (.br (bif false then true else bif true then Ex.ltQ (0 : Int) (Int.ofNat (Sy.lenS fv)) else false) (.leaf (Value.bool false, Blk.mk (Let.n (ns 2)) (.obj (.cells (Array.mk [.int .i64 loc, av]) (37 : Nat))) true :: Blk.mk (Let.n (ns 1)) (.obj (.cells (Array.mk [.int .i64 cells, tv]) (27 : Nat))) true :: Blk.mk (Let.n (ns 0)) (.obj (.cells (Array.mk [.int .i64 (2 : Int), .int .i64 dst, .int .i64 base, .int .i64 size, iv, ev, fv, .int .i64 mode, .int .i64 to, .int .i64 line, .int .i64 col]) (67 : Nat))) true :: rdOf B)) (.leaf (Value.bool (Ex.eqQ to (0 : Int)), Blk.mk (Let.n (ns 2)) (.obj (.cells (Array.mk [.int .i64 loc, av]) (37 : Nat))) true :: Blk.mk (Let.n (ns 1)) (.obj (.cells (Array.mk [.int .i64 cells, tv]) (27 : Nat))) true :: Blk.mk (Let.n (ns 0)) (.obj (.cells (Array.mk [.int .i64 (2 : Int), .int .i64 dst, .int .i64 base, .int .i64 size, iv, ev, fv, .int .i64 mode, .int .i64 to, .int .i64 line, .int .i64 col]) (67 : Nat))) true :: rdOf B)))))))))) (.need True
 (.hyp True (.br (!powF size) (.leaf (Value.bool false, Blk.mk (Let.n (ns 2)) (.obj (.cells (Array.mk [.int .i64 loc, av]) (37 : Nat))) true :: Blk.mk (Let.n (ns 1)) (.obj (.cells (Array.mk [.int .i64 cells, tv]) (27 : Nat))) true :: Blk.mk (Let.n (ns 0)) (.obj (.cells (Array.mk [.int .i64 (2 : Int), .int .i64 dst, .int .i64 base, .int .i64 size, iv, ev, fv, .int .i64 mode, .int .i64 to, .int .i64 line, .int .i64 col]) (67 : Nat))) true :: rdOf B)) (.br (Ex.ltQ base (0 : Int)) (.leaf (Value.bool false, Blk.mk (Let.n (ns 2)) (.obj (.cells (Array.mk [.int .i64 loc, av]) (37 : Nat))) true :: Blk.mk (Let.n (ns 1)) (.obj (.cells (Array.mk [.int .i64 cells, tv]) (27 : Nat))) true :: Blk.mk (Let.n (ns 0)) (.obj (.cells (Array.mk [.int .i64 (2 : Int), .int .i64 dst, .int .i64 base, .int .i64 size, iv, ev, fv, .int .i64 mode, .int .i64 to, .int .i64 line, .int .i64 col]) (67 : Nat))) true :: rdOf B)) (.br (bif false then true else Ex.ltQ (Ex.wrapQ .i64 (Ex.subQ' cells size)) base) (.leaf
 (Value.bool false, Blk.mk (Let.n (ns 2)) (.obj (.cells (Array.mk [.int .i64 loc, av]) (37 : Nat))) true :: Blk.mk (Let.n (ns 1)) (.obj (.cells (Array.mk [.int .i64 cells, tv]) (27 : Nat))) true :: Blk.mk (Let.n (ns 0)) (.obj (.cells (Array.mk [.int .i64 (2 : Int), .int .i64 dst, .int .i64 base, .int .i64 size, iv, ev, fv, .int .i64 mode, .int .i64 to, .int .i64 line, .int .i64 col]) (67 : Nat))) true :: rdOf B)) (.br (Ex.eqQ size (0 : Int)) (.need (∃ (p : Option Addr), ∃ (n : Nat), ∃ (c : Nat), iv = Value.slice p n c) (.br (bif false then true else bif true then Ex.ltQ (0 : Int) (Int.ofNat (Sy.lenS iv)) else false) (.leaf (Value.bool false, Blk.mk (Let.n (ns 2)) (.obj (.cells (Array.mk [.int .i64 loc, av]) (37 : Nat))) true :: Blk.mk (Let.n (ns 1)) (.obj (.cells (Array.mk [.int .i64 cells, tv]) (27 : Nat))) true :: Blk.mk (Let.n (ns 0)) (.obj (.cells (Array.mk [.int .i64 (2 : Int), .int .i64 dst, .int .i64 base, .int .i64 size, iv, ev, fv, .int .i64 mode, .int .i64 to, .int .i64 line,
 .int .i64 col]) (67 : Nat))) true :: rdOf B)) (.br (Ex.ltQ (0 : Int) size) (.need (NodesR B iv ix ∧ List.length ix < (4398046511104 : Nat)) (.need (Sy.GotL (rdOf B) B) (.hyp True (.br (bif false then true else bif true then !exprR loc ix else false) (.leaf (Value.bool false, Blk.mk (Let.n (ns 2)) (.obj (.cells (Array.mk [.int .i64 loc, av]) (37 : Nat))) true :: Blk.mk (Let.n (ns 1)) (.obj (.cells (Array.mk [.int .i64 cells, tv]) (27 : Nat))) true :: Blk.mk (Let.n (ns 0)) (.obj (.cells (Array.mk [.int .i64 (2 : Int), .int .i64 dst, .int .i64 base, .int .i64 size, iv, ev, fv, .int .i64 mode, .int .i64 to, .int .i64 line, .int .i64 col]) (67 : Nat))) true :: rdOf B)) (.need (∃ (p : Option Addr), ∃ (n : Nat), ∃ (c : Nat), ev = Value.slice p n c) (.br (bif false then true else bif true then Ex.ltQ (0 : Int) (Int.ofNat (Sy.lenS ev)) else false) (.leaf (Value.bool false, Blk.mk (Let.n (ns 2)) (.obj (.cells (Array.mk [.int .i64 loc, av]) (37 : Nat))) true :: Blk.mk (Let.n (ns 1)) (.obj (.cells
 (Array.mk [.int .i64 cells, tv]) (27 : Nat))) true :: Blk.mk (Let.n (ns 0)) (.obj (.cells (Array.mk [.int .i64 (2 : Int), .int .i64 dst, .int .i64 base, .int .i64 size, iv, ev, fv, .int .i64 mode, .int .i64 to, .int .i64 line, .int .i64 col]) (67 : Nat))) true :: rdOf B)) (.need (∃ (p : Option Addr), ∃ (n : Nat), ∃ (c : Nat), fv = Value.slice p n c) (.br (bif false then true else bif true then Ex.ltQ (0 : Int) (Int.ofNat (Sy.lenS fv)) else false) (.leaf (Value.bool false, Blk.mk (Let.n (ns 2)) (.obj (.cells (Array.mk [.int .i64 loc, av]) (37 : Nat))) true :: Blk.mk (Let.n (ns 1)) (.obj (.cells (Array.mk [.int .i64 cells, tv]) (27 : Nat))) true :: Blk.mk (Let.n (ns 0)) (.obj (.cells (Array.mk [.int .i64 (2 : Int), .int .i64 dst, .int .i64 base, .int .i64 size, iv, ev, fv, .int .i64 mode, .int .i64 to, .int .i64 line, .int .i64 col]) (67 : Nat))) true :: rdOf B)) (.leaf (Value.bool (Ex.eqQ to (0 : Int)), Blk.mk (Let.n (ns 2)) (.obj (.cells (Array.mk [.int .i64 loc, av]) (37 : Nat))) true
 :: Blk.mk (Let.n (ns 1)) (.obj (.cells (Array.mk [.int .i64 cells, tv]) (27 : Nat))) true :: Blk.mk (Let.n (ns 0)) (.obj (.cells (Array.mk [.int .i64 (2 : Int), .int .i64 dst, .int .i64 base, .int .i64 size, iv, ev, fv, .int .i64 mode, .int .i64 to, .int .i64 line, .int .i64 col]) (67 : Nat))) true :: rdOf B)))))))))) (.need (∃ (p : Option Addr), ∃ (n : Nat), ∃ (c : Nat), ev = Value.slice p n c) (.br (bif false then true else bif true then Ex.ltQ (0 : Int) (Int.ofNat (Sy.lenS ev)) else false) (.leaf (Value.bool false, Blk.mk (Let.n (ns 2)) (.obj (.cells (Array.mk [.int .i64 loc, av]) (37 : Nat))) true :: Blk.mk (Let.n (ns 1)) (.obj (.cells (Array.mk [.int .i64 cells, tv]) (27 : Nat))) true :: Blk.mk (Let.n (ns 0)) (.obj (.cells (Array.mk [.int .i64 (2 : Int), .int .i64 dst, .int .i64 base, .int .i64 size, iv, ev, fv, .int .i64 mode, .int .i64 to, .int .i64 line, .int .i64 col]) (67 : Nat))) true :: rdOf B)) (.need (∃ (p : Option Addr), ∃ (n : Nat), ∃ (c : Nat), fv = Value.slice p n c)
 (.br (bif false then true else bif true then Ex.ltQ (0 : Int) (Int.ofNat (Sy.lenS fv)) else false) (.leaf (Value.bool false, Blk.mk (Let.n (ns 2)) (.obj (.cells (Array.mk [.int .i64 loc, av]) (37 : Nat))) true :: Blk.mk (Let.n (ns 1)) (.obj (.cells (Array.mk [.int .i64 cells, tv]) (27 : Nat))) true :: Blk.mk (Let.n (ns 0)) (.obj (.cells (Array.mk [.int .i64 (2 : Int), .int .i64 dst, .int .i64 base, .int .i64 size, iv, ev, fv, .int .i64 mode, .int .i64 to, .int .i64 line, .int .i64 col]) (67 : Nat))) true :: rdOf B)) (.leaf (Value.bool (Ex.eqQ to (0 : Int)), Blk.mk (Let.n (ns 2)) (.obj (.cells (Array.mk [.int .i64 loc, av]) (37 : Nat))) true :: Blk.mk (Let.n (ns 1)) (.obj (.cells (Array.mk [.int .i64 cells, tv]) (27 : Nat))) true :: Blk.mk (Let.n (ns 0)) (.obj (.cells (Array.mk [.int .i64 (2 : Int), .int .i64 dst, .int .i64 base, .int .i64 size, iv, ev, fv, .int .i64 mode, .int .i64 to, .int .i64 line, .int .i64 col]) (67 : Nat))) true :: rdOf B))))))))) (.br (Ex.ltQ (0 : Int) size)
 (.need (NodesR B iv ix ∧ List.length ix < (4398046511104 : Nat)) (.need (Sy.GotL (rdOf B) B) (.hyp True (.br (bif false then true else bif true then !exprR loc ix else false) (.leaf (Value.bool false, Blk.mk (Let.n (ns 2)) (.obj (.cells (Array.mk [.int .i64 loc, av]) (37 : Nat))) true :: Blk.mk (Let.n (ns 1)) (.obj (.cells (Array.mk [.int .i64 cells, tv]) (27 : Nat))) true :: Blk.mk (Let.n (ns 0)) (.obj (.cells (Array.mk [.int .i64 (2 : Int), .int .i64 dst, .int .i64 base, .int .i64 size, iv, ev, fv, .int .i64 mode, .int .i64 to, .int .i64 line, .int .i64 col]) (67 : Nat))) true :: rdOf B)) (.need (∃ (p : Option Addr), ∃ (n : Nat), ∃ (c : Nat), ev = Value.slice p n c) (.br (bif false then true else bif true then Ex.ltQ (0 : Int) (Int.ofNat (Sy.lenS ev)) else false) (.leaf (Value.bool false, Blk.mk (Let.n (ns 2)) (.obj (.cells (Array.mk [.int .i64 loc, av]) (37 : Nat))) true :: Blk.mk (Let.n (ns 1)) (.obj (.cells (Array.mk [.int .i64 cells, tv]) (27 : Nat))) true :: Blk.mk (Let.n (ns 0))
 (.obj (.cells (Array.mk [.int .i64 (2 : Int), .int .i64 dst, .int .i64 base, .int .i64 size, iv, ev, fv, .int .i64 mode, .int .i64 to, .int .i64 line, .int .i64 col]) (67 : Nat))) true :: rdOf B)) (.need (∃ (p : Option Addr), ∃ (n : Nat), ∃ (c : Nat), fv = Value.slice p n c) (.br (bif false then true else bif true then Ex.ltQ (0 : Int) (Int.ofNat (Sy.lenS fv)) else false) (.leaf (Value.bool false, Blk.mk (Let.n (ns 2)) (.obj (.cells (Array.mk [.int .i64 loc, av]) (37 : Nat))) true :: Blk.mk (Let.n (ns 1)) (.obj (.cells (Array.mk [.int .i64 cells, tv]) (27 : Nat))) true :: Blk.mk (Let.n (ns 0)) (.obj (.cells (Array.mk [.int .i64 (2 : Int), .int .i64 dst, .int .i64 base, .int .i64 size, iv, ev, fv, .int .i64 mode, .int .i64 to, .int .i64 line, .int .i64 col]) (67 : Nat))) true :: rdOf B)) (.leaf (Value.bool (Ex.eqQ to (0 : Int)), Blk.mk (Let.n (ns 2)) (.obj (.cells (Array.mk [.int .i64 loc, av]) (37 : Nat))) true :: Blk.mk (Let.n (ns 1)) (.obj (.cells (Array.mk [.int .i64 cells, tv]) (27
 : Nat))) true :: Blk.mk (Let.n (ns 0)) (.obj (.cells (Array.mk [.int .i64 (2 : Int), .int .i64 dst, .int .i64 base, .int .i64 size, iv, ev, fv, .int .i64 mode, .int .i64 to, .int .i64 line, .int .i64 col]) (67 : Nat))) true :: rdOf B)))))))))) (.need (∃ (p : Option Addr), ∃ (n : Nat), ∃ (c : Nat), ev = Value.slice p n c) (.br (bif false then true else bif true then Ex.ltQ (0 : Int) (Int.ofNat (Sy.lenS ev)) else false) (.leaf (Value.bool false, Blk.mk (Let.n (ns 2)) (.obj (.cells (Array.mk [.int .i64 loc, av]) (37 : Nat))) true :: Blk.mk (Let.n (ns 1)) (.obj (.cells (Array.mk [.int .i64 cells, tv]) (27 : Nat))) true :: Blk.mk (Let.n (ns 0)) (.obj (.cells (Array.mk [.int .i64 (2 : Int), .int .i64 dst, .int .i64 base, .int .i64 size, iv, ev, fv, .int .i64 mode, .int .i64 to, .int .i64 line, .int .i64 col]) (67 : Nat))) true :: rdOf B)) (.need (∃ (p : Option Addr), ∃ (n : Nat), ∃ (c : Nat), fv = Value.slice p n c) (.br (bif false then true else bif true then Ex.ltQ (0 : Int) (Int.ofNat
 (Sy.lenS fv)) else false) (.leaf (Value.bool false, Blk.mk (Let.n (ns 2)) (.obj (.cells (Array.mk [.int .i64 loc, av]) (37 : Nat))) true :: Blk.mk (Let.n (ns 1)) (.obj (.cells (Array.mk [.int .i64 cells, tv]) (27 : Nat))) true :: Blk.mk (Let.n (ns 0)) (.obj (.cells (Array.mk [.int .i64 (2 : Int), .int .i64 dst, .int .i64 base, .int .i64 size, iv, ev, fv, .int .i64 mode, .int .i64 to, .int .i64 line, .int .i64 col]) (67 : Nat))) true :: rdOf B)) (.leaf (Value.bool (Ex.eqQ to (0 : Int)), Blk.mk (Let.n (ns 2)) (.obj (.cells (Array.mk [.int .i64 loc, av]) (37 : Nat))) true :: Blk.mk (Let.n (ns 1)) (.obj (.cells (Array.mk [.int .i64 cells, tv]) (27 : Nat))) true :: Blk.mk (Let.n (ns 0)) (.obj (.cells (Array.mk [.int .i64 (2 : Int), .int .i64 dst, .int .i64 base, .int .i64 size, iv, ev, fv, .int .i64 mode, .int .i64 to, .int .i64 line, .int .i64 col]) (67 : Nat))) true :: rdOf B))))))))))))))))))))))))

theorem rac2_run (B : List (Nat × Sy.Cont)) (dst base size mode to line col : Int) (iv ev fv tv av : Value) (ix e f : List NodeD) (cells loc : Int) : Sy.Ran (Sy.inB Try.prog (ctxR B (2) size mode iv ev fv ix e f loc) 50 fRAct #[.agg #[.int .i64 (2), .int .i64 dst, .int .i64 base, .int .i64 size, iv, ev, fv, .int .i64 mode, .int .i64 to, .int .i64 line, .int .i64 col], progV cells tv, thrV loc av] (rdOf B)) rac2_o (rac2_R B dst base size mode to line col iv ev fv tv av ix e f cells loc) := ⟨fun ns => by kernel_rfl, fun ns => by kernel_rfl⟩
def rac3_o : Sy.O := (Sy.O.pack 28 0x400000020000010000000020000000040 (Sy.O.fork Sy.O.nil (Sy.O.pack 31 0x10000000200000010000000000040000040 (Sy.O.fork Sy.O.nil (Sy.O.pack 11 0x400040000040 (Sy.O.fork (Sy.O.pack 3 0x40 (Sy.O.fork (Sy.O.pack 17 0x0 Sy.O.nil) (Sy.O.pack 12 0x800000800 (Sy.O.fork (Sy.O.pack 10 0x0 Sy.O.nil) (Sy.O.pack 6 0x800 (Sy.O.fork (Sy.O.pack 8 0x2000800 (Sy.O.fork (Sy.O.pack 5 0x0 Sy.O.nil) (Sy.O.pack 6 0x800 (Sy.O.fork (Sy.O.pack 17 0x403080000000000800 (Sy.O.fork Sy.O.nil (Sy.O.pack 38 0x100c210000000002000000004000000000020000000040 (Sy.O.fork (Sy.O.pack 4 0x0 Sy.O.nil) (Sy.O.pack 33 0x40010000000020000000000000400000000000 (Sy.O.fork Sy.O.nil (Sy.O.pack 16 0x800000020000000040 Sy.O.nil))))))) (Sy.O.pack 45 0x806108000000001000000002000000000010000000020000000000 (Sy.O.fork (Sy.O.pack 4 0x0 Sy.O.nil) (Sy.O.pack 33 0x40010000000020000000000000400000000000 (Sy.O.fork Sy.O.nil (Sy.O.pack 16 0x800000020000000040 Sy.O.nil))))))))) (Sy.O.pack 11 0x1000000000 (Sy.O.fork (Sy.O.pack 17 0x403080000000000800 (Sy.O.fork Sy.O.nil (Sy.O.pack 38 0x100c210000000002000000004000000000020000000040 (Sy.O.fork (Sy.O.pack 4 0x0 Sy.O.nil) (Sy.O.pack 33 0x40010000000020000000000000400000000000 (Sy.O.fork Sy.O.nil (Sy.O.pack 16 0x800000020000000040 Sy.O.nil))))))) (Sy.O.pack 45 0x806108000000001000000002000000000010000000020000000000 (Sy.O.fork (Sy.O.pack 4 0x0 Sy.O.nil) (Sy.O.pack 33 0x40010000000020000000000000400000000000 (Sy.O.fork Sy.O.nil (Sy.O.pack 16 0x800000020000000040 Sy.O.nil))))))))))))) (Sy.O.pack 4 0x8000 (Sy.O.fork Sy.O.nil (Sy.O.pack 3 0x40 (Sy.O.fork (Sy.O.pack 17 0x0 Sy.O.nil) (Sy.O.pack 12 0x800000800 (Sy.O.fork (Sy.O.pack 10 0x0 Sy.O.nil) (Sy.O.pack 6 0x800 (Sy.O.fork (Sy.O.pack 8 0x2000800 (Sy.O.fork (Sy.O.pack 5 0x0 Sy.O.nil) (Sy.O.pack 6 0x800 (Sy.O.fork (Sy.O.pack 17 0x403080000000000800 (Sy.O.fork Sy.O.nil (Sy.O.pack 38 0x100c210000000002000000004000000000020000000040 (Sy.O.fork (Sy.O.pack 4 0x0 Sy.O.nil) (Sy.O.pack 33 0x40010000000020000000000000400000000000 (Sy.O.fork Sy.O.nil (Sy.O.pack 16 0x800000020000000040 Sy.O.nil))))))) (Sy.O.pack 45 0x806108000000001000000002000000000010000000020000000000 (Sy.O.fork (Sy.O.pack 4 0x0 Sy.O.nil) (Sy.O.pack 33 0x40010000000020000000000000400000000000 (Sy.O.fork Sy.O.nil (Sy.O.pack 16 0x800000020000000040 Sy.O.nil))))))))) (Sy.O.pack 11 0x1000000000 (Sy.O.fork (Sy.O.pack 17 0x403080000000000800 (Sy.O.fork Sy.O.nil (Sy.O.pack 38 0x100c210000000002000000004000000000020000000040 (Sy.O.fork (Sy.O.pack 4 0x0 Sy.O.nil) (Sy.O.pack 33 0x40010000000020000000000000400000000000 (Sy.O.fork Sy.O.nil (Sy.O.pack 16 0x800000020000000040 Sy.O.nil))))))) (Sy.O.pack 45 0x806108000000001000000002000000000010000000020000000000 (Sy.O.fork (Sy.O.pack 4 0x0 Sy.O.nil) (Sy.O.pack 33 0x40010000000020000000000000400000000000 (Sy.O.fork Sy.O.nil (Sy.O.pack 16 0x800000020000000040 Sy.O.nil)))))))))))))))))))))
noncomputable def rac3_R (B : List (Nat × Sy.Cont)) (dst : Int) (base : Int) (size : Int) (mode : Int) (to : Int) (line : Int) (col : Int) (iv : Value) (ev : Value) (fv : Value) (tv : Value) (av : Value) (ix : List NodeD) (e : List NodeD) (f : List NodeD) (cells : Int) (loc : Int) (ns : Nat → Sy.Let) : Sy.Res (Value × List Blk) := .need True (.hyp True (.br (bif false then true else !mayF (3 : Int) mode) (.leaf (Value.bool false, Blk.mk (Let.n (ns 2)) (.obj (.cells (Array.mk [.int .i64 loc, av]) (37 : Nat))) true :: Blk.mk (Let.n (ns 1)) (.obj (.cells (Array.mk [.int .i64 cells, tv]) (27 : Nat))) true :: Blk.mk (Let.n (ns 0)) (.obj (.cells (Array.mk [.int .i64 (3 : Int), .int .i64 dst, .int .i64 base, .int .i64 size, iv, ev, fv, .int .i64 mode, .int .i64 to, .int .i64 line, .int .i64 col]) (67 : Nat))) true :: rdOf B)) (.need True (.hyp True (.need True (.hyp True (.br (bif false then true else bif true then !Ex.eqQ dst (0 : Int) else false) (.leaf (Value.bool false, Blk.mk (Let.n (ns 2)) (.obj (.cells (Array.mk [.int .i64 loc, av]) (37 : Nat))) true :: Blk.mk (Let.n (ns 1)) (.obj (.cells (Array.mk [.int .i64 cells, tv]) (27 : Nat))) true :: Blk.mk (Let.n (ns 0)) (.obj (.cells (Array.mk [.int .i64 (3 : Int), .int .i64 dst, .int .i64 base, .int .i64 size, iv, ev, fv, .int .i64 mode, .int .i64 to, .int .i64 line,
 .int .i64 col]) (67 : Nat))) true :: rdOf B)) (.need True (.hyp True (.br (Ex.eqQ size (0 : Int)) (.br (Ex.ltQ base (0 : Int)) (.leaf (Value.bool false, Blk.mk (Let.n (ns 2)) (.obj (.cells (Array.mk [.int .i64 loc, av]) (37 : Nat))) true :: Blk.mk (Let.n (ns 1)) (.obj (.cells (Array.mk [.int .i64 cells, tv]) (27 : Nat))) true :: Blk.mk (Let.n (ns 0)) (.obj (.cells (Array.mk [.int .i64 (3 : Int), .int .i64 dst, .int .i64 base, .int .i64 size, iv, ev, fv, .int .i64 mode, .int .i64 to, .int .i64 line, .int .i64 col]) (67 : Nat))) true :: rdOf B)) (.br (bif false then true else Ex.ltQ (Ex.wrapQ .i64 (Ex.subQ' cells (1 : Int))) base) (.leaf (Value.bool false, Blk.mk (Let.n (ns 2)) (.obj (.cells (Array.mk [.int .i64 loc, av]) (37 : Nat))) true :: Blk.mk (Let.n (ns 1)) (.obj (.cells (Array.mk [.int .i64 cells, tv]) (27 : Nat))) true :: Blk.mk (Let.n (ns 0)) (.obj (.cells (Array.mk [.int .i64 (3 : Int), .int .i64 dst, .int .i64 base, .int .i64 size, iv, ev, fv, .int .i64 mode, .int .i64 to,
 .int .i64 line, .int .i64 col]) (67 : Nat))) true :: rdOf B)) (.br (Ex.eqQ size (0 : Int)) (.need (∃ (p : Option Addr), ∃ (n : Nat), ∃ (c : Nat), iv = Value.slice p n c) (.br (bif false then true else bif true then Ex.ltQ (0 : Int) (Int.ofNat (Sy.lenS iv)) else false) (.leaf (Value.bool false, Blk.mk (Let.n (ns 2)) (.obj (.cells (Array.mk [.int .i64 loc, av]) (37 : Nat))) true :: Blk.mk (Let.n (ns 1)) (.obj (.cells (Array.mk [.int .i64 cells, tv]) (27 : Nat))) true :: Blk.mk (Let.n (ns 0)) (.obj (.cells (Array.mk [.int .i64 (3 : Int), .int .i64 dst, .int .i64 base, .int .i64 size, iv, ev, fv, .int .i64 mode, .int .i64 to, .int .i64 line, .int .i64 col]) (67 : Nat))) true :: rdOf B)) (.br (Ex.ltQ (0 : Int) size) (.need (NodesR B iv ix ∧ List.length ix < (4398046511104 : Nat)) (.need (Sy.GotL (rdOf B) B) (.hyp True (.br (bif false then true else bif true then !exprR loc ix else false) (.leaf (Value.bool false, Blk.mk (Let.n (ns 2)) (.obj (.cells (Array.mk [.int .i64 loc, av]) (37 : Nat)))
 true :: Blk.mk (Let.n (ns 1)) (.obj (.cells (Array.mk [.int .i64 cells, tv]) (27 : Nat))) true :: Blk.mk (Let.n (ns 0)) (.obj (.cells (Array.mk [.int .i64 (3 : Int), .int .i64 dst, .int .i64 base, .int .i64 size, iv, ev, fv, .int .i64 mode, .int .i64 to, .int .i64 line, .int .i64 col]) (67 : Nat))) true :: rdOf B)) (.need (NodesR B ev e ∧ List.length e < (4398046511104 : Nat)) (.need (Sy.GotL (rdOf B) B) (.hyp True (.br (bif true then !exprR loc e else false) (.leaf (Value.bool false, Blk.mk (Let.n (ns 2)) (.obj (.cells (Array.mk [.int .i64 loc, av]) (37 : Nat))) true :: Blk.mk (Let.n (ns 1)) (.obj (.cells (Array.mk [.int .i64 cells, tv]) (27 : Nat))) true :: Blk.mk (Let.n (ns 0)) (.obj (.cells (Array.mk [.int .i64 (3 : Int), .int .i64 dst, .int .i64 base, .int .i64 size, iv, ev, fv, .int .i64 mode, .int .i64 to, .int .i64 line, .int .i64 col]) (67 : Nat))) true :: rdOf B)) (.need (∃ (p : Option Addr), ∃ (n : Nat), ∃ (c : Nat), fv = Value.slice p n c) (.br (bif false then true else bif
 true then Ex.ltQ (0 : Int) (Int.ofNat (Sy.lenS fv)) else false) (.leaf (Value.bool false, Blk.mk (Let.n (ns 2)) (.obj (.cells (Array.mk [.int .i64 loc, av]) (37 : Nat))) true :: Blk.mk (Let.n (ns 1)) (.obj (.cells (Array.mk [.int .i64 cells, tv]) (27 : Nat))) true :: Blk.mk (Let.n (ns 0)) (.obj (.cells (Array.mk [.int .i64 (3 : Int), .int .i64 dst, .int .i64 base, .int .i64 size, iv, ev, fv, .int .i64 mode, .int .i64 to, .int .i64 line, .int .i64 col]) (67 : Nat))) true :: rdOf B)) (.leaf (Value.bool (Ex.eqQ to (0 : Int)), Blk.mk (Let.n (ns 2)) (.obj (.cells (Array.mk [.int .i64 loc, av]) (37 : Nat))) true :: Blk.mk (Let.n (ns 1)) (.obj (.cells (Array.mk [.int .i64 cells, tv]) (27 : Nat))) true :: Blk.mk (Let.n (ns 0)) (.obj (.cells (Array.mk [.int .i64 (3 : Int), .int .i64 dst, .int .i64 base, .int .i64 size, iv, ev, fv, .int .i64 mode, .int .i64 to, .int .i64 line, .int .i64 col]) (67 : Nat))) true :: rdOf B)))))))))))) (.need (NodesR B ev e ∧ List.length e < (4398046511104 : Nat))
 (.need (Sy.GotL (rdOf B) B) (.hyp True (.br (bif true then !exprR loc e else false) (.leaf (Value.bool false, Blk.mk (Let.n (ns 2)) (.obj (.cells (Array.mk [.int .i64 loc, av]) (37 : Nat))) true :: Blk.mk (Let.n (ns 1)) (.obj (.cells (Array.mk [.int .i64 cells, tv]) (27 : Nat))) true :: Blk.mk (Let.n (ns 0)) (.obj (.cells (Array.mk [.int .i64 (3 : Int), .int .i64 dst, .int .i64 base, .int .i64 size, iv, ev, fv, .int .i64 mode, .int .i64 to, .int .i64 line, .int .i64 col]) (67 : Nat))) true :: rdOf B)) (.need (∃ (p : Option Addr), ∃ (n : Nat), ∃ (c : Nat), fv = Value.slice p n c) (.br (bif false then true else bif true then Ex.ltQ (0 : Int) (Int.ofNat (Sy.lenS fv)) else false) (.leaf (Value.bool false, Blk.mk (Let.n (ns 2)) (.obj (.cells (Array.mk [.int .i64 loc, av]) (37 : Nat))) true :: Blk.mk (Let.n (ns 1)) (.obj (.cells (Array.mk [.int .i64 cells, tv]) (27 : Nat))) true :: Blk.mk (Let.n (ns 0)) (.obj (.cells (Array.mk [.int .i64 (3 : Int), .int .i64 dst, .int .i64 base, .int .i64
 size, iv, ev, fv, .int .i64 mode, .int .i64 to, .int .i64 line, .int .i64 col]) (67 : Nat))) true :: rdOf B)) (.leaf (Value.bool (Ex.eqQ to (0 : Int)), Blk.mk (Let.n (ns 2)) (.obj (.cells (Array.mk [.int .i64 loc, av]) (37 : Nat))) true :: Blk.mk (Let.n (ns 1)) (.obj (.cells (Array.mk [.int .i64 cells, tv]) (27 : Nat))) true :: Blk.mk (Let.n (ns 0)) (.obj (.cells (Array.mk [.int .i64 (3 : Int), .int .i64 dst, .int .i64 base, .int .i64 size, iv, ev, fv, .int .i64 mode, .int .i64 to, .int .i64 line, .int .i64 col]) (67 : Nat))) true :: rdOf B))))))))))) (.br (Ex.ltQ (0 : Int) size) (.need (NodesR B iv ix ∧ List.length ix < (4398046511104 : Nat)) (.need (Sy.GotL (rdOf B) B) (.hyp True (.br (bif false then true else bif true then !exprR loc ix else false) (.leaf (Value.bool false, Blk.mk (Let.n (ns 2)) (.obj (.cells (Array.mk [.int .i64 loc, av]) (37 : Nat))) true :: Blk.mk (Let.n (ns 1)) (.obj (.cells (Array.mk [.int .i64 cells, tv]) (27 : Nat))) true :: Blk.mk (Let.n (ns 0)) (.obj (.cells
 (Array.mk [.int .i64 (3 : Int), .int .i64 dst, .int .i64 base, .int .i64 size, iv, ev, fv, .int .i64 mode, .int .i64 to, .int .i64 line, .int .i64 col]) (67 : Nat))) true :: rdOf B)) (.need (NodesR B ev e ∧ List.length e < (4398046511104 : Nat)) (.need (Sy.GotL (rdOf B) B) (.hyp True (.br (bif true then !exprR loc e else false) (.leaf (Value.bool false, Blk.mk (Let.n (ns 2)) (.obj (.cells (Array.mk [.int .i64 loc, av]) (37 : Nat))) true :: Blk.mk (Let.n (ns 1)) (.obj (.cells (Array.mk [.int .i64 cells, tv]) (27 : Nat))) true :: Blk.mk (Let.n (ns 0)) (.obj (.cells (Array.mk [.int .i64 (3 : Int), .int .i64 dst, .int .i64 base, .int .i64 size, iv, ev, fv, .int .i64 mode, .int .i64 to, .int .i64 line, .int .i64 col]) (67 : Nat))) true :: rdOf B)) (.need (∃ (p : Option Addr), ∃ (n : Nat), ∃ (c : Nat), fv = Value.slice p n c) (.br (bif false then true else bif true then Ex.ltQ (0 : Int) (Int.ofNat (Sy.lenS fv)) else false) (.leaf (Value.bool false, Blk.mk (Let.n (ns 2)) (.obj (.cells
 (Array.mk [.int .i64 loc, av]) (37 : Nat))) true :: Blk.mk (Let.n (ns 1)) (.obj (.cells (Array.mk [.int .i64 cells, tv]) (27 : Nat))) true :: Blk.mk (Let.n (ns 0)) (.obj (.cells (Array.mk [.int .i64 (3 : Int), .int .i64 dst, .int .i64 base, .int .i64 size, iv, ev, fv, .int .i64 mode, .int .i64 to, .int .i64 line, .int .i64 col]) (67 : Nat))) true :: rdOf B)) (.leaf (Value.bool (Ex.eqQ to (0 : Int)), Blk.mk (Let.n (ns 2)) (.obj (.cells (Array.mk [.int .i64 loc, av]) (37 : Nat))) true :: Blk.mk (Let.n (ns 1)) (.obj (.cells (Array.mk [.int .i64 cells, tv]) (27 : Nat))) true :: Blk.mk (Let.n (ns 0)) (.obj (.cells (Array.mk [.int .i64 (3 : Int), .int .i64 dst, .int .i64 base, .int .i64 size, iv, ev, fv, .int .i64 mode, .int .i64 to, .int .i64 line, .int .i64 col]) (67 : Nat))) true :: rdOf B)))))))))))) (.need (NodesR B ev e ∧ List.length e < (4398046511104 : Nat)) (.need (Sy.GotL (rdOf B) B) (.hyp True (.br (bif true then !exprR loc e else false) (.leaf (Value.bool false, Blk.mk (Let.n (ns
 2)) (.obj (.cells (Array.mk [.int .i64 loc, av]) (37 : Nat))) true :: Blk.mk (Let.n (ns 1)) (.obj (.cells (Array.mk [.int .i64 cells, tv]) (27 : Nat))) true :: Blk.mk (Let.n (ns 0)) (.obj (.cells (Array.mk [.int .i64 (3 : Int), .int .i64 dst, .int .i64 base, .int .i64 size, iv, ev, fv, .int .i64 mode, .int .i64 to, .int .i64 line, .int .i64 col]) (67 : Nat))) true :: rdOf B)) (.need (∃ (p : Option Addr), ∃ (n : Nat), ∃ (c : Nat), fv = Value.slice p n c) (.br (bif false then true else bif true then Ex.ltQ (0 : Int) (Int.ofNat (Sy.lenS fv)) else false) (.leaf (Value.bool false, Blk.mk (Let.n (ns 2)) (.obj (.cells (Array.mk [.int .i64 loc, av]) (37 : Nat))) true :: Blk.mk (Let.n (ns 1)) (.obj (.cells (Array.mk [.int .i64 cells, tv]) (27 : Nat))) true :: Blk.mk (Let.n (ns 0)) (.obj (.cells (Array.mk [.int .i64 (3 : Int), .int .i64 dst, .int .i64 base, .int .i64 size, iv, ev, fv, .int .i64 mode, .int .i64 to, .int .i64 line, .int .i64 col]) (67 : Nat))) true :: rdOf B)) (.leaf (Value.bool
 (Ex.eqQ to (0 : Int)), Blk.mk (Let.n (ns 2)) (.obj (.cells (Array.mk [.int .i64 loc, av]) (37 : Nat))) true :: Blk.mk (Let.n (ns 1)) (.obj (.cells (Array.mk [.int .i64 cells, tv]) (27 : Nat))) true :: Blk.mk (Let.n (ns 0)) (.obj (.cells (Array.mk [.int .i64 (3 : Int), .int .i64 dst, .int .i64 base, .int .i64 size, iv, ev, fv, .int .i64 mode, .int .i64 to, .int .i64 line, .int .i64 col]) (67 : Nat))) true :: rdOf B)))))))))))) (.need True (.hyp True (.br (!powF size) (.leaf (Value.bool false, Blk.mk (Let.n (ns 2)) (.obj (.cells (Array.mk [.int .i64 loc, av]) (37 : Nat))) true :: Blk.mk (Let.n (ns 1)) (.obj (.cells (Array.mk [.int .i64 cells, tv]) (27 : Nat))) true :: Blk.mk (Let.n (ns 0)) (.obj (.cells (Array.mk [.int .i64 (3 : Int), .int .i64 dst, .int .i64 base, .int .i64 size, iv, ev, fv, .int .i64 mode, .int .i64 to, .int .i64 line, .int .i64 col]) (67 : Nat))) true :: rdOf B)) (.br (Ex.ltQ base (0 : Int)) (.leaf (Value.bool false, Blk.mk (Let.n (ns 2)) (.obj (.cells (Array.mk [.int
 .i64 loc, av]) (37 : Nat))) true :: Blk.mk (Let.n (ns 1)) (.obj (.cells (Array.mk [.int .i64 cells, tv]) (27 : Nat))) true :: Blk.mk (Let.n (ns 0)) (.obj (.cells (Array.mk [.int .i64 (3 : Int), .int .i64 dst, .int .i64 base, .int .i64 size, iv, ev, fv, .int .i64 mode, .int .i64 to, .int .i64 line, .int .i64 col]) (67 : Nat))) true :: rdOf B)) (.br (bif false then true else Ex.ltQ (Ex.wrapQ .i64 (Ex.subQ' cells size)) base) (.leaf (Value.bool false, Blk.mk (Let.n (ns 2)) (.obj (.cells (Array.mk [.int .i64 loc, av]) (37 : Nat))) true :: Blk.mk (Let.n (ns 1)) (.obj (.cells (Array.mk [.int .i64 cells, tv]) (27 : Nat))) true :: Blk.mk (Let.n (ns 0)) (.obj (.cells (Array.mk [.int .i64 (3 : Int), .int .i64 dst, .int .i64 base, .int .i64 size, iv, ev, fv, .int .i64 mode, .int .i64 to, .int .i64 line, .int .i64 col]) (67 : Nat))) true :: rdOf B)) (.br (Ex.eqQ size (0 : Int)) (.need (∃ (p : Option Addr), ∃ (n : Nat), ∃ (c : Nat), iv = Value.slice p n c) (.br (bif false then true else bif true
 then Ex.ltQ (0 : Int) (Int.ofNat (Sy.lenS iv)) else false) (.leaf (Value.bool false, Blk.mk (Let.n (ns 2)) (.obj (.cells (Array.mk [.int .i64 loc, av]) (37 : Nat))) true :: Blk.mk (Let.n (ns 1)) (.obj (.cells (Array.mk [.int .i64 cells, tv]) (27 : Nat))) true :: Blk.mk (Let.n (ns 0)) (.obj (.cells (Array.mk [.int .i64 (3 : Int), .int .i64 dst, .int .i64 base, .int .i64 size, iv, ev, fv, .int .i64 mode, .int .i64 to, .int .i64 line, .int .i64 col]) (67 : Nat))) true :: rdOf B)) (.br (Ex.ltQ (0 : Int) size) (.need (NodesR B iv ix ∧ List.length ix < (4398046511104 : Nat)) (.need (Sy.GotL (rdOf B) B) (.hyp True (.br (bif false then true else bif true then !exprR loc ix else false) (.leaf (Value.bool false, Blk.mk (Let.n (ns 2)) (.obj (.cells (Array.mk [.int .i64 loc, av]) (37 : Nat))) true :: Blk.mk (Let.n (ns 1)) (.obj (.cells (Array.mk [.int .i64 cells, tv]) (27 : Nat))) true :: Blk.mk (Let.n (ns 0)) (.obj (.cells (Array.mk [.int .i64 (3 : Int), .int .i64 dst, .int .i64 base, .int .i64
 size, iv, ev, fv, .int .i64 mode, .int .i64 to, .int .i64 line, .int .i64 col]) (67 : Nat))) true :: rdOf B)) (.need (NodesR B ev e ∧ List.length e < (4398046511104 : Nat)) (.need (Sy.GotL (rdOf B) B) (.hyp True (.br (bif true then !exprR loc e else false) (.leaf (Value.bool false, Blk.mk (Let.n (ns 2)) (.obj (.cells (Array.mk [.int .i64 loc, av]) (37 : Nat))) true :: Blk.mk (Let.n (ns 1)) (.obj (.cells (Array.mk [.int .i64 cells, tv]) (27 : Nat))) true :: Blk.mk (Let.n (ns 0)) (.obj (.cells (Array.mk [.int .i64 (3 : Int), .int .i64 dst, .int .i64 base, .int .i64 size, iv, ev, fv, .int .i64 mode, .int .i64 to, .int .i64 line, .int .i64 col]) (67 : Nat))) true :: rdOf B)) (.need (∃ (p : Option Addr), ∃ (n : Nat), ∃ (c : Nat), fv = Value.slice p n c) (.br (bif false then true else bif true then Ex.ltQ (0 : Int) (Int.ofNat (Sy.lenS fv)) else false) (.leaf (Value.bool false, Blk.mk (Let.n (ns 2)) (.obj (.cells (Array.mk [.int .i64 loc, av]) (37 : Nat))) true :: Blk.mk (Let.n (ns 1)) (.obj
 (.cells (Array.mk [.int .i64 cells, tv]) (27 : Nat))) true :: Blk.mk (Let.n (ns 0)) (.obj (.cells (Array.mk [.int .i64 (3 : Int), .int .i64 dst, .int .i64 base, .int .i64 size, iv, ev, fv, .int .i64 mode, .int .i64 to, .int .i64 line, .int .i64 col]) (67 : Nat))) true :: rdOf B)) (.leaf (Value.bool (Ex.eqQ to (0 : Int)), Blk.mk (Let.n (ns 2)) (.obj (.cells (Array.mk [.int .i64 loc, av]) (37 : Nat))) true :: Blk.mk (Let.n (ns 1)) (.obj (.cells (Array.mk [.int .i64 cells, tv]) (27 : Nat))) true :: Blk.mk (Let.n (ns 0)) (.obj (.cells (Array.mk [.int .i64 (3 : Int), .int .i64 dst, .int .i64 base, .int .i64 size, iv, ev, fv, .int .i64 mode, .int .i64 to, .int .i64 line, .int .i64 col]) (67 : Nat))) true :: rdOf B)))))))))))) (.need (NodesR B ev e ∧ List.length e < (4398046511104 : Nat)) (.need (Sy.GotL (rdOf B) B) (.hyp True (.br (bif true then !exprR loc e else false) (.leaf (Value.bool false, Blk.mk (Let.n (ns 2)) (.obj (.cells (Array.mk [.int .i64 loc, av]) (37 : Nat))) true :: Blk.mk
 (Let.n (ns 1)) (.obj (.cells (Array.mk [.int .i64 cells, tv]) (27 : Nat))) true :: Blk.mk (Let.n (ns 0)) (.obj (.cells (Array.mk [.int .i64 (3 : Int), .int .i64 dst, .int .i64 base, .int .i64 size, iv, ev, fv, .int .i64 mode, .int .i64 to, .int .i64 line, .int .i64 col]) (67 : Nat))) true :: rdOf B)) (.need (∃ (p : Option Addr), ∃ (n : Nat), ∃ (c : Nat), fv = Value.slice p n c) (.br (bif false then true else bif true then Ex.ltQ (0 : Int) (Int.ofNat (Sy.lenS fv)) else false) (.leaf (Value.bool false, Blk.mk (Let.n (ns 2)) (.obj (.cells (Array.mk [.int .i64 loc, av]) (37 : Nat))) true :: Blk.mk (Let.n (ns 1)) (.obj (.cells (Array.mk [.int .i64 cells, tv]) (27 : Nat))) true :: Blk.mk (Let.n (ns 0)) (.obj (.cells (Array.mk [.int .i64 (3 : Int), .int .i64 dst, .int .i64 base, .int .i64 size, iv, ev, fv, .int .i64 mode, .int .i64 to, .int .i64 line, .int .i64 col]) (67 : Nat))) true :: rdOf B)) (.leaf (Value.bool (Ex.eqQ to (0 : Int)), Blk.mk (Let.n (ns 2)) (.obj (.cells (Array.mk [.int .i64
 loc, av]) (37 : Nat))) true :: Blk.mk (Let.n (ns 1)) (.obj (.cells (Array.mk [.int .i64 cells, tv]) (27 : Nat))) true :: Blk.mk (Let.n (ns 0)) (.obj (.cells (Array.mk [.int .i64 (3 : Int), .int .i64 dst, .int .i64 base, .int .i64 size, iv, ev, fv, .int .i64 mode, .int .i64 to, .int .i64 line, .int .i64 col]) (67 : Nat))) true :: rdOf B))))))))))) (.br (Ex.ltQ (0 : Int) size) (.need (NodesR B iv ix ∧ List.length ix < (4398046511104 : Nat)) (.need (Sy.GotL (rdOf B) B) (.hyp True (.br (bif false then true else bif true then !exprR loc ix else false) (.leaf (Value.bool false, Blk.mk (Let.n (ns 2)) (.obj (.cells (Array.mk [.int .i64 loc, av]) (37 : Nat))) true :: Blk.mk (Let.n (ns 1)) (.obj (.cells (Array.mk [.int .i64 cells, tv]) (27 : Nat))) true :: Blk.mk (Let.n (ns 0)) (.obj (.cells (Array.mk [.int .i64 (3 : Int), .int .i64 dst, .int .i64 base, .int .i64 size, iv, ev, fv, .int .i64 mode, .int .i64 to, .int .i64 line, .int .i64 col]) (67 : Nat))) true :: rdOf B)) (.need (NodesR B ev e ∧
 List.length e < (4398046511104 : Nat)) (.need (Sy.GotL (rdOf B) B) (.hyp True (.br (bif true then !exprR loc e else false) (.leaf (Value.bool false, Blk.mk (Let.n (ns 2)) (.obj (.cells (Array.mk [.int .i64 loc, av]) (37 : Nat))) true :: Blk.mk (Let.n (ns 1)) (.obj (.cells (Array.mk [.int .i64 cells, tv]) (27 : Nat))) true :: Blk.mk (Let.n (ns 0)) (.obj (.cells (Array.mk [.int .i64 (3 : Int), .int .i64 dst, .int .i64 base, .int .i64 size, iv, ev, fv, .int .i64 mode, .int .i64 to, .int .i64 line, .int .i64 col]) (67 : Nat))) true :: rdOf B)) (.need (∃ (p : Option Addr), ∃ (n : Nat), ∃ (c : Nat), fv = Value.slice p n c) (.br (bif false then true else bif true then Ex.ltQ (0 : Int) (Int.ofNat (Sy.lenS fv)) else false) (.leaf (Value.bool false, Blk.mk (Let.n (ns 2)) (.obj (.cells (Array.mk [.int .i64 loc, av]) (37 : Nat))) true :: Blk.mk (Let.n (ns 1)) (.obj (.cells (Array.mk [.int .i64 cells, tv]) (27 : Nat))) true :: Blk.mk (Let.n (ns 0)) (.obj (.cells (Array.mk [.int .i64 (3 : Int), .int
 .i64 dst, .int .i64 base, .int .i64 size, iv, ev, fv, .int .i64 mode, .int .i64 to, .int .i64 line, .int .i64 col]) (67 : Nat))) true :: rdOf B)) (.leaf (Value.bool (Ex.eqQ to (0 : Int)), Blk.mk (Let.n (ns 2)) (.obj (.cells (Array.mk [.int .i64 loc, av]) (37 : Nat))) true :: Blk.mk (Let.n (ns 1)) (.obj (.cells (Array.mk [.int .i64 cells, tv]) (27 : Nat))) true :: Blk.mk (Let.n (ns 0)) (.obj (.cells (Array.mk [.int .i64 (3 : Int), .int .i64 dst, .int .i64 base, .int .i64 size, iv, ev, fv, .int .i64 mode, .int .i64 to, .int .i64 line, .int .i64 col]) (67 : Nat))) true :: rdOf B)))))))))))) (.need (NodesR B ev e ∧ List.length e < (4398046511104 : Nat)) (.need (Sy.GotL (rdOf B) B) (.hyp True (.br (bif true then !exprR loc e else false) (.leaf (Value.bool false, Blk.mk (Let.n (ns 2)) (.obj (.cells (Array.mk [.int .i64 loc, av]) (37 : Nat))) true :: Blk.mk (Let.n (ns 1)) (.obj (.cells (Array.mk [.int .i64 cells, tv]) (27 : Nat))) true :: Blk.mk (Let.n (ns 0)) (.obj (.cells (Array.mk [.int
 .i64 (3 : Int), .int .i64 dst, .int .i64 base, .int .i64 size, iv, ev, fv, .int .i64 mode, .int .i64 to, .int .i64 line, .int .i64 col]) (67 : Nat))) true :: rdOf B)) (.need (∃ (p : Option Addr), ∃ (n : Nat), ∃ (c : Nat), fv = Value.slice p n c) (.br (bif false then true else bif true then Ex.ltQ (0 : Int) (Int.ofNat (Sy.lenS fv)) else false) (.leaf (Value.bool false, Blk.mk (Let.n (ns 2)) (.obj (.cells (Array.mk [.int .i64 loc, av]) (37 : Nat))) true :: Blk.mk (Let.n (ns 1)) (.obj (.cells (Array.mk [.int .i64 cells, tv]) (27 : Nat))) true :: Blk.mk (Let.n (ns 0)) (.obj (.cells (Array.mk [.int .i64 (3 : Int), .int .i64 dst, .int .i64 base, .int .i64 size, iv, ev, fv, .int .i64 mode, .int .i64 to, .int .i64 line, .int .i64 col]) (67 : Nat))) true :: rdOf B)) (.leaf (Value.bool (Ex.eqQ to (0 : Int)), Blk.mk (Let.n (ns 2)) (.obj (.cells (Array.mk [.int .i64 loc, av]) (37 : Nat))) true :: Blk.mk (Let.n (ns 1)) (.obj (.cells (Array.mk [.int .i64 cells, tv]) (27 : Nat))) true :: Blk.mk (Let.n
 (ns 0)) (.obj (.cells (Array.mk [.int .i64 (3 : Int), .int .i64 dst, .int .i64 base, .int .i64 size, iv, ev, fv, .int .i64 mode, .int .i64 to, .int .i64 line, .int .i64 col]) (67 : Nat))) true :: rdOf B)))))))))))))))))))))))))

theorem rac3_run (B : List (Nat × Sy.Cont)) (dst base size mode to line col : Int) (iv ev fv tv av : Value) (ix e f : List NodeD) (cells loc : Int) : Sy.Ran (Sy.inB Try.prog (ctxR B (3) size mode iv ev fv ix e f loc) 50 fRAct #[.agg #[.int .i64 (3), .int .i64 dst, .int .i64 base, .int .i64 size, iv, ev, fv, .int .i64 mode, .int .i64 to, .int .i64 line, .int .i64 col], progV cells tv, thrV loc av] (rdOf B)) rac3_o (rac3_R B dst base size mode to line col iv ev fv tv av ix e f cells loc) := ⟨fun ns => by kernel_rfl, fun ns => by kernel_rfl⟩
def rac4_o : Sy.O := (Sy.O.pack 28 0x400000020000010000000020000000040 (Sy.O.fork Sy.O.nil (Sy.O.pack 14 0x8000040000040 (Sy.O.fork (Sy.O.pack 12 0x0 Sy.O.nil) (Sy.O.pack 11 0x800 (Sy.O.fork (Sy.O.pack 6 0x0 Sy.O.nil) (Sy.O.pack 27 0x40004000004000000000010000000800 (Sy.O.fork (Sy.O.pack 3 0x40 (Sy.O.fork (Sy.O.pack 17 0x0 Sy.O.nil) (Sy.O.pack 12 0x800000800 (Sy.O.fork (Sy.O.pack 10 0x0 Sy.O.nil) (Sy.O.pack 6 0x800 (Sy.O.fork (Sy.O.pack 8 0x2000800 (Sy.O.fork (Sy.O.pack 5 0x0 Sy.O.nil) (Sy.O.pack 6 0x800 (Sy.O.fork (Sy.O.pack 17 0x403080000000000800 (Sy.O.fork Sy.O.nil (Sy.O.pack 38 0x100c210000000002000000004000000000020000000040 (Sy.O.fork (Sy.O.pack 4 0x0 Sy.O.nil) (Sy.O.pack 33 0x40010000000020000000000000400000000000 (Sy.O.fork Sy.O.nil (Sy.O.pack 16 0x800000020000000040 Sy.O.nil))))))) (Sy.O.pack 45 0x806108000000001000000002000000000010000000020000000000 (Sy.O.fork (Sy.O.pack 4 0x0 Sy.O.nil) (Sy.O.pack 33 0x40010000000020000000000000400000000000 (Sy.O.fork Sy.O.nil (Sy.O.pack 16 0x800000020000000040 Sy.O.nil))))))))) (Sy.O.pack 11 0x1000000000 (Sy.O.fork (Sy.O.pack 17 0x403080000000000800 (Sy.O.fork Sy.O.nil (Sy.O.pack 38 0x100c210000000002000000004000000000020000000040 (Sy.O.fork (Sy.O.pack 4 0x0 Sy.O.nil) (Sy.O.pack 33 0x40010000000020000000000000400000000000 (Sy.O.fork Sy.O.nil (Sy.O.pack 16 0x800000020000000040 Sy.O.nil))))))) (Sy.O.pack 45 0x806108000000001000000002000000000010000000020000000000 (Sy.O.fork (Sy.O.pack 4 0x0 Sy.O.nil) (Sy.O.pack 33 0x40010000000020000000000000400000000000 (Sy.O.fork Sy.O.nil (Sy.O.pack 16 0x800000020000000040 Sy.O.nil))))))))))))) (Sy.O.pack 4 0x8000 (Sy.O.fork Sy.O.nil (Sy.O.pack 3 0x40 (Sy.O.fork (Sy.O.pack 17 0x0 Sy.O.nil) (Sy.O.pack 12 0x800000800 (Sy.O.fork (Sy.O.pack 10 0x0 Sy.O.nil) (Sy.O.pack 6 0x800 (Sy.O.fork (Sy.O.pack 8 0x2000800 (Sy.O.fork (Sy.O.pack 5 0x0 Sy.O.nil) (Sy.O.pack 6 0x800 (Sy.O.fork (Sy.O.pack 17 0x403080000000000800 (Sy.O.fork Sy.O.nil (Sy.O.pack 38 0x100c210000000002000000004000000000020000000040 (Sy.O.fork (Sy.O.pack 4 0x0 Sy.O.nil) (Sy.O.pack 33 0x40010000000020000000000000400000000000 (Sy.O.fork Sy.O.nil (Sy.O.pack 16 0x800000020000000040 Sy.O.nil))))))) (Sy.O.pack 45 0x806108000000001000000002000000000010000000020000000000 (Sy.O.fork (Sy.O.pack 4 0x0 Sy.O.nil) (Sy.O.pack 33 0x40010000000020000000000000400000000000 (Sy.O.fork Sy.O.nil (Sy.O.pack 16 0x800000020000000040 Sy.O.nil))))))))) (Sy.O.pack 11 0x1000000000 (Sy.O.fork (Sy.O.pack 17 0x403080000000000800 (Sy.O.fork Sy.O.nil (Sy.O.pack 38 0x100c210000000002000000004000000000020000000040 (Sy.O.fork (Sy.O.pack 4 0x0 Sy.O.nil) (Sy.O.pack 33 0x40010000000020000000000000400000000000 (Sy.O.fork Sy.O.nil (Sy.O.pack 16 0x800000020000000040 Sy.O.nil))))))) (Sy.O.pack 45 0x806108000000001000000002000000000010000000020000000000 (Sy.O.fork (Sy.O.pack 4 0x0 Sy.O.nil) (Sy.O.pack 33 0x40010000000020000000000000400000000000 (Sy.O.fork Sy.O.nil (Sy.O.pack 16 0x800000020000000040 Sy.O.nil)))))))))))))))))))))))
noncomputable def rac4_R (B : List (Nat × Sy.Cont)) (dst : Int) (base : Int) (size : Int) (mode : Int) (to : Int) (line : Int) (col : Int) (iv : Value) (ev : Value) (fv : Value) (tv : Value) (av : Value) (ix : List NodeD) (e : List NodeD) (f : List NodeD) (cells : Int) (loc : Int) (ns : Nat → Sy.Let) : Sy.Res (Value × List Blk) := .need True (.hyp True (.br (bif false then true else !mayF (4 : Int) mode) (.leaf (Value.bool false, Blk.mk (Let.n (ns 2)) (.obj (.cells (Array.mk [.int .i64 loc, av]) (37 : Nat))) true :: Blk.mk (Let.n (ns 1)) (.obj (.cells (Array.mk [.int .i64 cells, tv]) (27 : Nat))) true :: Blk.mk (Let.n (ns 0)) (.obj (.cells (Array.mk [.int .i64 (4 : Int), .int .i64 dst, .int .i64 base, .int .i64 size, iv, ev, fv, .int .i64 mode, .int .i64 to, .int .i64 line, .int .i64 col]) (67 : Nat))) true :: rdOf B)) (.need True (.hyp True (.br (Ex.ltQ dst (0 : Int)) (.leaf (Value.bool false, Blk.mk (Let.n (ns 2)) (.obj (.cells (Array.mk [.int .i64 loc, av]) (37 : Nat))) true :: Blk.mk (Let.n (ns 1)) (.obj (.cells (Array.mk [.int .i64 cells, tv]) (27 : Nat))) true :: Blk.mk (Let.n (ns 0)) (.obj (.cells (Array.mk [.int .i64 (4 : Int), .int .i64 dst, .int .i64 base, .int .i64 size, iv, ev, fv, .int .i64 mode, .int .i64 to, .int .i64 line, .int .i64 col]) (67 : Nat))) true :: rdOf B)) (.br (bif true then bif
 false then true else Ex.leQ loc dst else false) (.leaf (Value.bool false, Blk.mk (Let.n (ns 2)) (.obj (.cells (Array.mk [.int .i64 loc, av]) (37 : Nat))) true :: Blk.mk (Let.n (ns 1)) (.obj (.cells (Array.mk [.int .i64 cells, tv]) (27 : Nat))) true :: Blk.mk (Let.n (ns 0)) (.obj (.cells (Array.mk [.int .i64 (4 : Int), .int .i64 dst, .int .i64 base, .int .i64 size, iv, ev, fv, .int .i64 mode, .int .i64 to, .int .i64 line, .int .i64 col]) (67 : Nat))) true :: rdOf B)) (.need True (.hyp True (.need True (.hyp True (.br (Ex.eqQ size (0 : Int)) (.br (Ex.ltQ base (0 : Int)) (.leaf (Value.bool false, Blk.mk (Let.n (ns 2)) (.obj (.cells (Array.mk [.int .i64 loc, av]) (37 : Nat))) true :: Blk.mk (Let.n (ns 1)) (.obj (.cells (Array.mk [.int .i64 cells, tv]) (27 : Nat))) true :: Blk.mk (Let.n (ns 0)) (.obj (.cells (Array.mk [.int .i64 (4 : Int), .int .i64 dst, .int .i64 base, .int .i64 size, iv, ev, fv, .int .i64 mode, .int .i64 to, .int .i64 line, .int .i64 col]) (67 : Nat))) true :: rdOf B))
 (.br (bif false then true else Ex.ltQ (Ex.wrapQ .i64 (Ex.subQ' cells (1 : Int))) base) (.leaf (Value.bool false, Blk.mk (Let.n (ns 2)) (.obj (.cells (Array.mk [.int .i64 loc, av]) (37 : Nat))) true :: Blk.mk (Let.n (ns 1)) (.obj (.cells (Array.mk [.int .i64 cells, tv]) (27 : Nat))) true :: Blk.mk (Let.n (ns 0)) (.obj (.cells (Array.mk [.int .i64 (4 : Int), .int .i64 dst, .int .i64 base, .int .i64 size, iv, ev, fv, .int .i64 mode, .int .i64 to, .int .i64 line, .int .i64 col]) (67 : Nat))) true :: rdOf B)) (.br (Ex.eqQ size (0 : Int)) (.need (∃ (p : Option Addr), ∃ (n : Nat), ∃ (c : Nat), iv = Value.slice p n c) (.br (bif false then true else bif true then Ex.ltQ (0 : Int) (Int.ofNat (Sy.lenS iv)) else false) (.leaf (Value.bool false, Blk.mk (Let.n (ns 2)) (.obj (.cells (Array.mk [.int .i64 loc, av]) (37 : Nat))) true :: Blk.mk (Let.n (ns 1)) (.obj (.cells (Array.mk [.int .i64 cells, tv]) (27 : Nat))) true :: Blk.mk (Let.n (ns 0)) (.obj (.cells (Array.mk [.int .i64 (4 : Int), .int .i64
 dst, .int .i64 base, .int .i64 size, iv, ev, fv, .int .i64 mode, .int .i64 to, .int .i64 line, .int .i64 col]) (67 : Nat))) true :: rdOf B)) (.br (Ex.ltQ (0 : Int) size) (.need (NodesR B iv ix ∧ List.length ix < (4398046511104 : Nat)) (.need (Sy.GotL (rdOf B) B) (.hyp True (.br (bif false then true else bif true then !exprR loc ix else false) (.leaf (Value.bool false, Blk.mk (Let.n (ns 2)) (.obj (.cells (Array.mk [.int .i64 loc, av]) (37 : Nat))) true :: Blk.mk (Let.n (ns 1)) (.obj (.cells (Array.mk [.int .i64 cells, tv]) (27 : Nat))) true :: Blk.mk (Let.n (ns 0)) (.obj (.cells (Array.mk [.int .i64 (4 : Int), .int .i64 dst, .int .i64 base, .int .i64 size, iv, ev, fv, .int .i64 mode, .int .i64 to, .int .i64 line, .int .i64 col]) (67 : Nat))) true :: rdOf B)) (.need (NodesR B ev e ∧ List.length e < (4398046511104 : Nat)) (.need (Sy.GotL (rdOf B) B) (.hyp True (.br (bif true then !exprR loc e else false) (.leaf (Value.bool false, Blk.mk (Let.n (ns 2)) (.obj (.cells (Array.mk [.int .i64
 loc, av]) (37 : Nat))) true :: Blk.mk (Let.n (ns 1)) (.obj (.cells (Array.mk [.int .i64 cells, tv]) (27 : Nat))) true :: Blk.mk (Let.n (ns 0)) (.obj (.cells (Array.mk [.int .i64 (4 : Int), .int .i64 dst, .int .i64 base, .int .i64 size, iv, ev, fv, .int .i64 mode, .int .i64 to, .int .i64 line, .int .i64 col]) (67 : Nat))) true :: rdOf B)) (.need (∃ (p : Option Addr), ∃ (n : Nat), ∃ (c : Nat), fv = Value.slice p n c) (.br (bif false then true else bif true then Ex.ltQ (0 : Int) (Int.ofNat (Sy.lenS fv)) else false) (.leaf (Value.bool false, Blk.mk (Let.n (ns 2)) (.obj (.cells (Array.mk [.int .i64 loc, av]) (37 : Nat))) true :: Blk.mk (Let.n (ns 1)) (.obj (.cells (Array.mk [.int .i64 cells, tv]) (27 : Nat))) true :: Blk.mk (Let.n (ns 0)) (.obj (.cells (Array.mk [.int .i64 (4 : Int), .int .i64 dst, .int .i64 base, .int .i64 size, iv, ev, fv, .int .i64 mode, .int .i64 to, .int .i64 line, .int .i64 col]) (67 : Nat))) true :: rdOf B)) (.leaf (Value.bool (Ex.eqQ to (0 : Int)), Blk.mk (Let.n (ns
 2)) (.obj (.cells (Array.mk [.int .i64 loc, av]) (37 : Nat))) true :: Blk.mk (Let.n (ns 1)) (.obj (.cells (Array.mk [.int .i64 cells, tv]) (27 : Nat))) true :: Blk.mk (Let.n (ns 0)) (.obj (.cells (Array.mk [.int .i64 (4 : Int), .int .i64 dst, .int .i64 base, .int .i64 size, iv, ev, fv, .int .i64 mode, .int .i64 to, .int .i64 line, .int .i64 col]) (67 : Nat))) true :: rdOf B)))))))))))) (.need (NodesR B ev e ∧ List.length e < (4398046511104 : Nat)) (.need (Sy.GotL (rdOf B) B) (.hyp True (.br (bif true then !exprR loc e else false) (.leaf (Value.bool false, Blk.mk (Let.n (ns 2)) (.obj (.cells (Array.mk [.int .i64 loc, av]) (37 : Nat))) true :: Blk.mk (Let.n (ns 1)) (.obj (.cells (Array.mk [.int .i64 cells, tv]) (27 : Nat))) true :: Blk.mk (Let.n (ns 0)) (.obj (.cells (Array.mk [.int .i64 (4 : Int), .int .i64 dst, .int .i64 base, .int .i64 size, iv, ev, fv, .int .i64 mode, .int .i64 to, .int .i64 line, .int .i64 col]) (67 : Nat))) true :: rdOf B)) (.need (∃ (p : Option Addr), ∃ (n : Nat),
 ∃ (c : Nat), fv = Value.slice p n c) (.br (bif false then true else bif true then Ex.ltQ (0 : Int) (Int.ofNat (Sy.lenS fv)) else false) (.leaf (Value.bool false, Blk.mk (Let.n (ns 2)) (.obj (.cells (Array.mk [.int .i64 loc, av]) (37 : Nat))) true :: Blk.mk (Let.n (ns 1)) (.obj (.cells (Array.mk [.int .i64 cells, tv]) (27 : Nat))) true :: Blk.mk (Let.n (ns 0)) (.obj (.cells (Array.mk [.int .i64 (4 : Int), .int .i64 dst, .int .i64 base, .int .i64 size, iv, ev, fv, .int .i64 mode, .int .i64 to, .int .i64 line, .int .i64 col]) (67 : Nat))) true :: rdOf B)) (.leaf (Value.bool (Ex.eqQ to (0 : Int)), Blk.mk (Let.n (ns 2)) (.obj (.cells (Array.mk [.int .i64 loc, av]) (37 : Nat))) true :: Blk.mk (Let.n (ns 1)) (.obj (.cells (Array.mk [.int .i64 cells, tv]) (27 : Nat))) true :: Blk.mk (Let.n (ns 0)) (.obj (.cells (Array.mk [.int .i64 (4 : Int), .int .i64 dst, .int .i64 base, .int .i64 size, iv, ev, fv, .int .i64 mode, .int .i64 to, .int .i64 line, .int .i64 col]) (67 : Nat))) true :: rdOf
 B))))))))))) (.br (Ex.ltQ (0 : Int) size) (.need (NodesR B iv ix ∧ List.length ix < (4398046511104 : Nat)) (.need (Sy.GotL (rdOf B) B) (.hyp True (.br (bif false then true else bif true then !exprR loc ix else false) (.leaf (Value.bool false, Blk.mk (Let.n (ns 2)) (.obj (.cells (Array.mk [.int .i64 loc, av]) (37 : Nat))) true :: Blk.mk (Let.n (ns 1)) (.obj (.cells (Array.mk [.int .i64 cells, tv]) (27 : Nat))) true :: Blk.mk (Let.n (ns 0)) (.obj (.cells (Array.mk [.int .i64 (4 : Int), .int .i64 dst, .int .i64 base, .int .i64 size, iv, ev, fv, .int .i64 mode, .int .i64 to, .int .i64 line, .int .i64 col]) (67 : Nat))) true :: rdOf B)) (.need (NodesR B ev e ∧ List.length e < (4398046511104 : Nat)) (.need (Sy.GotL (rdOf B) B) (.hyp True (.br (bif true then !exprR loc e else false) (.leaf (Value.bool false, Blk.mk (Let.n (ns 2)) (.obj (.cells (Array.mk [.int .i64 loc, av]) (37 : Nat))) true :: Blk.mk (Let.n (ns 1)) (.obj (.cells (Array.mk [.int .i64 cells, tv]) (27 : Nat))) true :: Blk.mk
 (Let.n (ns 0)) (.obj (.cells (Array.mk [.int .i64 (4 : Int), .int .i64 dst, .int .i64 base, .int .i64 size, iv, ev, fv, .int .i64 mode, .int .i64 to, .int .i64 line, .int .i64 col]) (67 : Nat))) true :: rdOf B)) (.need (∃ (p : Option Addr), ∃ (n : Nat), ∃ (c : Nat), fv = Value.slice p n c) (.br (bif false then true else bif true then Ex.ltQ (0 : Int) (Int.ofNat (Sy.lenS fv)) else false) (.leaf (Value.bool false, Blk.mk (Let.n (ns 2)) (.obj (.cells (Array.mk [.int .i64 loc, av]) (37 : Nat))) true :: Blk.mk (Let.n (ns 1)) (.obj (.cells (Array.mk [.int .i64 cells, tv]) (27 : Nat))) true :: Blk.mk (Let.n (ns 0)) (.obj (.cells (Array.mk [.int .i64 (4 : Int), .int .i64 dst, .int .i64 base, .int .i64 size, iv, ev, fv, .int .i64 mode, .int .i64 to, .int .i64 line, .int .i64 col]) (67 : Nat))) true :: rdOf B)) (.leaf (Value.bool (Ex.eqQ to (0 : Int)), Blk.mk (Let.n (ns 2)) (.obj (.cells (Array.mk [.int .i64 loc, av]) (37 : Nat))) true :: Blk.mk (Let.n (ns 1)) (.obj (.cells (Array.mk [.int .i64
 cells, tv]) (27 : Nat))) true :: Blk.mk (Let.n (ns 0)) (.obj (.cells (Array.mk [.int .i64 (4 : Int), .int .i64 dst, .int .i64 base, .int .i64 size, iv, ev, fv, .int .i64 mode, .int .i64 to, .int .i64 line, .int .i64 col]) (67 : Nat))) true :: rdOf B)))))))))))) (.need (NodesR B ev e ∧ List.length e < (4398046511104 : Nat)) (.need (Sy.GotL (rdOf B) B) (.hyp True (.br (bif true then !exprR loc e else false) (.leaf (Value.bool false, Blk.mk (Let.n (ns 2)) (.obj (.cells (Array.mk [.int .i64 loc, av]) (37 : Nat))) true :: Blk.mk (Let.n (ns 1)) (.obj (.cells (Array.mk [.int .i64 cells, tv]) (27 : Nat))) true :: Blk.mk (Let.n (ns 0)) (.obj (.cells (Array.mk [.int .i64 (4 : Int), .int .i64 dst, .int .i64 base, .int .i64 size, iv, ev, fv, .int .i64 mode, .int .i64 to, .int .i64 line, .int .i64 col]) (67 : Nat))) true :: rdOf B)) (.need (∃ (p : Option Addr), ∃ (n : Nat), ∃ (c : Nat), fv = Value.slice p n c) (.br (bif false then true else bif true then Ex.ltQ (0 : Int) (Int.ofNat (Sy.lenS fv))
 else false) (.leaf (Value.bool false, Blk.mk (Let.n (ns 2)) (.obj (.cells (Array.mk [.int .i64 loc, av]) (37 : Nat))) true :: Blk.mk (Let.n (ns 1)) (.obj (.cells (Array.mk [.int .i64 cells, tv]) (27 : Nat))) true :: Blk.mk (Let.n (ns 0)) (.obj (.cells (Array.mk [.int .i64 (4 : Int), .int .i64 dst, .int .i64 base, .int .i64 size, iv, ev, fv, .int .i64 mode, .int .i64 to, .int .i64 line, .int .i64 col]) (67 : Nat))) true :: rdOf B)) (.leaf (Value.bool (Ex.eqQ to (0 : Int)), Blk.mk (Let.n (ns 2)) (.obj (.cells (Array.mk [.int .i64 loc, av]) (37 : Nat))) true :: Blk.mk (Let.n (ns 1)) (.obj (.cells (Array.mk [.int .i64 cells, tv]) (27 : Nat))) true :: Blk.mk (Let.n (ns 0)) (.obj (.cells (Array.mk [.int .i64 (4 : Int), .int .i64 dst, .int .i64 base, .int .i64 size, iv, ev, fv, .int .i64 mode, .int .i64 to, .int .i64 line, .int .i64 col]) (67 : Nat))) true :: rdOf B)))))))))))) (.need True (.hyp True (.br (!powF size) (.leaf (Value.bool false, Blk.mk (Let.n (ns 2)) (.obj (.cells (Array.mk
 [.int .i64 loc, av]) (37 : Nat))) true :: Blk.mk (Let.n (ns 1)) (.obj (.cells (Array.mk [.int .i64 cells, tv]) (27 : Nat))) true :: Blk.mk (Let.n (ns 0)) (.obj (.cells (Array.mk [.int .i64 (4 : Int), .int .i64 dst, .int .i64 base, .int .i64 size, iv, ev, fv, .int .i64 mode, .int .i64 to, .int .i64 line, .int .i64 col]) (67 : Nat))) true :: rdOf B)) (.br (Ex.ltQ base (0 : Int)) (.leaf (Value.bool false, Blk.mk (Let.n (ns 2)) (.obj (.cells (Array.mk [.int .i64 loc, av]) (37 : Nat))) true :: Blk.mk (Let.n (ns 1)) (.obj (.cells (Array.mk [.int .i64 cells, tv]) (27 : Nat))) true :: Blk.mk (Let.n (ns 0)) (.obj (.cells (Array.mk [.int .i64 (4 : Int), .int .i64 dst, .int .i64 base, .int .i64 size, iv, ev, fv, .int .i64 mode, .int .i64 to, .int .i64 line, .int .i64 col]) (67 : Nat))) true :: rdOf B)) (.br (bif false then true else Ex.ltQ (Ex.wrapQ .i64 (Ex.subQ' cells size)) base) (.leaf (Value.bool false, Blk.mk (Let.n (ns 2)) (.obj (.cells (Array.mk [.int .i64 loc, av]) (37 : Nat))) true ::
 Blk.mk (Let.n (ns 1)) (.obj (.cells (Array.mk [.int .i64 cells, tv]) (27 : Nat))) true :: Blk.mk (Let.n (ns 0)) (.obj (.cells (Array.mk [.int .i64 (4 : Int), .int .i64 dst, .int .i64 base, .int .i64 size, iv, ev, fv, .int .i64 mode, .int .i64 to, .int .i64 line, .int .i64 col]) (67 : Nat))) true :: rdOf B)) (.br (Ex.eqQ size (0 : Int)) (.need (∃ (p : Option Addr), ∃ (n : Nat), ∃ (c : Nat), iv = Value.slice p n c) (.br (bif false then true else bif true then Ex.ltQ (0 : Int) (Int.ofNat (Sy.lenS iv)) else false) (.leaf (Value.bool false, Blk.mk (Let.n (ns 2)) (.obj (.cells (Array.mk [.int .i64 loc, av]) (37 : Nat))) true :: Blk.mk (Let.n (ns 1)) (.obj (.cells (Array.mk [.int .i64 cells, tv]) (27 : Nat))) true :: Blk.mk (Let.n (ns 0)) (.obj (.cells (Array.mk [.int .i64 (4 : Int), .int .i64 dst, .int .i64 base, .int .i64 size, iv, ev, fv, .int .i64 mode, .int .i64 to, .int .i64 line, .int .i64 col]) (67 : Nat))) true :: rdOf B)) (.br (Ex.ltQ (0 : Int) size) (.need (NodesR B iv ix ∧
 List.length ix < (4398046511104 : Nat)) (.need (Sy.GotL (rdOf B) B) (.hyp True (.br (bif false then true else bif true then !exprR loc ix else false) (.leaf (Value.bool false, Blk.mk (Let.n (ns 2)) (.obj (.cells (Array.mk [.int .i64 loc, av]) (37 : Nat))) true :: Blk.mk (Let.n (ns 1)) (.obj (.cells (Array.mk [.int .i64 cells, tv]) (27 : Nat))) true :: Blk.mk (Let.n (ns 0)) (.obj (.cells (Array.mk [.int .i64 (4 : Int), .int .i64 dst, .int .i64 base, .int .i64 size, iv, ev, fv, .int .i64 mode, .int .i64 to, .int .i64 line, .int .i64 col]) (67 : Nat))) true :: rdOf B)) (.need (NodesR B ev e ∧ List.length e < (4398046511104 : Nat)) (.need (Sy.GotL (rdOf B) B) (.hyp True (.br (bif true then !exprR loc e else false) (.leaf (Value.bool false, Blk.mk (Let.n (ns 2)) (.obj (.cells (Array.mk [.int .i64 loc, av]) (37 : Nat))) true :: Blk.mk (Let.n (ns 1)) (.obj (.cells (Array.mk [.int .i64 cells, tv]) (27 : Nat))) true :: Blk.mk (Let.n (ns 0)) (.obj (.cells (Array.mk [.int .i64 (4 : Int), .int .i64
 dst, .int .i64 base, .int .i64 size, iv, ev, fv, .int .i64 mode, .int .i64 to, .int .i64 line, .int .i64 col]) (67 : Nat))) true :: rdOf B)) (.need (∃ (p : Option Addr), ∃ (n : Nat), ∃ (c : Nat), fv = Value.slice p n c) (.br (bif false then true else bif true then Ex.ltQ (0 : Int) (Int.ofNat (Sy.lenS fv)) else false) (.leaf (Value.bool false, Blk.mk (Let.n (ns 2)) (.obj (.cells (Array.mk [.int .i64 loc, av]) (37 : Nat))) true :: Blk.mk (Let.n (ns 1)) (.obj (.cells (Array.mk [.int .i64 cells, tv]) (27 : Nat))) true :: Blk.mk (Let.n (ns 0)) (.obj (.cells (Array.mk [.int .i64 (4 : Int), .int .i64 dst, .int .i64 base, .int .i64 size, iv, ev, fv, .int .i64 mode, .int .i64 to, .int .i64 line, .int .i64 col]) (67 : Nat))) true :: rdOf B)) (.leaf (Value.bool (Ex.eqQ to (0 : Int)), Blk.mk (Let.n (ns 2)) (.obj (.cells (Array.mk [.int .i64 loc, av]) (37 : Nat))) true :: Blk.mk (Let.n (ns 1)) (.obj (.cells (Array.mk [.int .i64 cells, tv]) (27 : Nat))) true :: Blk.mk (Let.n (ns 0)) (.obj (.cells
 (Array.mk [.int .i64 (4 : Int), .int .i64 dst, .int .i64 base, .int .i64 size, iv, ev, fv, .int .i64 mode, .int .i64 to, .int .i64 line, .int .i64 col]) (67 : Nat))) true :: rdOf B)))))))))))) (.need (NodesR B ev e ∧ List.length e < (4398046511104 : Nat)) (.need (Sy.GotL (rdOf B) B) (.hyp True (.br (bif true then !exprR loc e else false) (.leaf (Value.bool false, Blk.mk (Let.n (ns 2)) (.obj (.cells (Array.mk [.int .i64 loc, av]) (37 : Nat))) true :: Blk.mk (Let.n (ns 1)) (.obj (.cells (Array.mk [.int .i64 cells, tv]) (27 : Nat))) true :: Blk.mk (Let.n (ns 0)) (.obj (.cells (Array.mk [.int .i64 (4 : Int), .int .i64 dst, .int .i64 base, .int .i64 size, iv, ev, fv, .int .i64 mode, .int .i64 to, .int .i64 line, .int .i64 col]) (67 : Nat))) true :: rdOf B)) (.need (∃ (p : Option Addr), ∃ (n : Nat), ∃ (c : Nat), fv = Value.slice p n c) (.br (bif false then true else bif true then Ex.ltQ (0 : Int) (Int.ofNat (Sy.lenS fv)) else false) (.leaf (Value.bool false, Blk.mk (Let.n (ns 2)) (.obj
 (.cells (Array.mk [.int .i64 loc, av]) (37 : Nat))) true :: Blk.mk (Let.n (ns 1)) (.obj (.cells (Array.mk [.int .i64 cells, tv]) (27 : Nat))) true :: Blk.mk (Let.n (ns 0)) (.obj (.cells (Array.mk [.int .i64 (4 : Int), .int .i64 dst, .int .i64 base, .int .i64 size, iv, ev, fv, .int .i64 mode, .int .i64 to, .int .i64 line, .int .i64 col]) (67 : Nat))) true :: rdOf B)) (.leaf (Value.bool (Ex.eqQ to (0 : Int)), Blk.mk (Let.n (ns 2)) (.obj (.cells (Array.mk [.int .i64 loc, av]) (37 : Nat))) true :: Blk.mk (Let.n (ns 1)) (.obj (.cells (Array.mk [.int .i64 cells, tv]) (27 : Nat))) true :: Blk.mk (Let.n (ns 0)) (.obj (.cells (Array.mk [.int .i64 (4 : Int), .int .i64 dst, .int .i64 base, .int .i64 size, iv, ev, fv, .int .i64 mode, .int .i64 to, .int .i64 line, .int .i64 col]) (67 : Nat))) true :: rdOf B))))))))))) (.br (Ex.ltQ (0 : Int) size) (.need (NodesR B iv ix ∧ List.length ix < (4398046511104 : Nat)) (.need (Sy.GotL (rdOf B) B) (.hyp True (.br (bif false then true else bif true then !exprR
 loc ix else false) (.leaf (Value.bool false, Blk.mk (Let.n (ns 2)) (.obj (.cells (Array.mk [.int .i64 loc, av]) (37 : Nat))) true :: Blk.mk (Let.n (ns 1)) (.obj (.cells (Array.mk [.int .i64 cells, tv]) (27 : Nat))) true :: Blk.mk (Let.n (ns 0)) (.obj (.cells (Array.mk [.int .i64 (4 : Int), .int .i64 dst, .int .i64 base, .int .i64 size, iv, ev, fv, .int .i64 mode, .int .i64 to, .int .i64 line, .int .i64 col]) (67 : Nat))) true :: rdOf B)) (.need (NodesR B ev e ∧ List.length e < (4398046511104 : Nat)) (.need (Sy.GotL (rdOf B) B) (.hyp True (.br (bif true then !exprR loc e else false) (.leaf (Value.bool false, Blk.mk (Let.n (ns 2)) (.obj (.cells (Array.mk [.int .i64 loc, av]) (37 : Nat))) true :: Blk.mk (Let.n (ns 1)) (.obj (.cells (Array.mk [.int .i64 cells, tv]) (27 : Nat))) true :: Blk.mk (Let.n (ns 0)) (.obj (.cells (Array.mk [.int .i64 (4 : Int), .int .i64 dst, .int .i64 base, .int .i64 size, iv, ev, fv, .int .i64 mode, .int .i64 to, .int .i64 line, .int .i64 col]) (67 : Nat))) true
 :: rdOf B)) (.need (∃ (p : Option Addr), ∃ (n : Nat), ∃ (c : Nat), fv = Value.slice p n c) (.br (bif false then true else bif true then Ex.ltQ (0 : Int) (Int.ofNat (Sy.lenS fv)) else false) (.leaf (Value.bool false, Blk.mk (Let.n (ns 2)) (.obj (.cells (Array.mk [.int .i64 loc, av]) (37 : Nat))) true :: Blk.mk (Let.n (ns 1)) (.obj (.cells (Array.mk [.int .i64 cells, tv]) (27 : Nat))) true :: Blk.mk (Let.n (ns 0)) (.obj (.cells (Array.mk [.int .i64 (4 : Int), .int .i64 dst, .int .i64 base, .int .i64 size, iv, ev, fv, .int .i64 mode, .int .i64 to, .int .i64 line, .int .i64 col]) (67 : Nat))) true :: rdOf B)) (.leaf (Value.bool (Ex.eqQ to (0 : Int)), Blk.mk (Let.n (ns 2)) (.obj (.cells (Array.mk [.int .i64 loc, av]) (37 : Nat))) true :: Blk.mk (Let.n (ns 1)) (.obj (.cells (Array.mk [.int .i64 cells, tv]) (27 : Nat))) true :: Blk.mk (Let.n (ns 0)) (.obj (.cells (Array.mk [.int .i64 (4 : Int), .int .i64 dst, .int .i64 base, .int .i64 size, iv, ev, fv, .int .i64 mode, .int .i64 to, .int .i64
 line, .int .i64 col]) (67 : Nat))) true :: rdOf B)))))))))))) (.need (NodesR B ev e ∧ List.length e < (4398046511104 : Nat)) (.need (Sy.GotL (rdOf B) B) (.hyp True (.br (bif true then !exprR loc e else false) (.leaf (Value.bool false, Blk.mk (Let.n (ns 2)) (.obj (.cells (Array.mk [.int .i64 loc, av]) (37 : Nat))) true :: Blk.mk (Let.n (ns 1)) (.obj (.cells (Array.mk [.int .i64 cells, tv]) (27 : Nat))) true :: Blk.mk (Let.n (ns 0)) (.obj (.cells (Array.mk [.int .i64 (4 : Int), .int .i64 dst, .int .i64 base, .int .i64 size, iv, ev, fv, .int .i64 mode, .int .i64 to, .int .i64 line, .int .i64 col]) (67 : Nat))) true :: rdOf B)) (.need (∃ (p : Option Addr), ∃ (n : Nat), ∃ (c : Nat), fv = Value.slice p n c) (.br (bif false then true else bif true then Ex.ltQ (0 : Int) (Int.ofNat (Sy.lenS fv)) else false) (.leaf (Value.bool false, Blk.mk (Let.n (ns 2)) (.obj (.cells (Array.mk [.int .i64 loc, av]) (37 : Nat))) true :: Blk.mk (Let.n (ns 1)) (.obj (.cells (Array.mk [.int .i64 cells, tv]) (27 :
 Nat))) true :: Blk.mk (Let.n (ns 0)) (.obj (.cells (Array.mk [.int .i64 (4 : Int), .int .i64 dst, .int .i64 base, .int .i64 size, iv, ev, fv, .int .i64 mode, .int .i64 to, .int .i64 line, .int .i64 col]) (67 : Nat))) true :: rdOf B)) (.leaf (Value.bool (Ex.eqQ to (0 : Int)), Blk.mk (Let.n (ns 2)) (.obj (.cells (Array.mk [.int .i64 loc, av]) (37 : Nat))) true :: Blk.mk (Let.n (ns 1)) (.obj (.cells (Array.mk [.int .i64 cells, tv]) (27 : Nat))) true :: Blk.mk (Let.n (ns 0)) (.obj (.cells (Array.mk [.int .i64 (4 : Int), .int .i64 dst, .int .i64 base, .int .i64 size, iv, ev, fv, .int .i64 mode, .int .i64 to, .int .i64 line, .int .i64 col]) (67 : Nat))) true :: rdOf B))))))))))))))))))))))))))

theorem rac4_run (B : List (Nat × Sy.Cont)) (dst base size mode to line col : Int) (iv ev fv tv av : Value) (ix e f : List NodeD) (cells loc : Int) : Sy.Ran (Sy.inB Try.prog (ctxR B (4) size mode iv ev fv ix e f loc) 50 fRAct #[.agg #[.int .i64 (4), .int .i64 dst, .int .i64 base, .int .i64 size, iv, ev, fv, .int .i64 mode, .int .i64 to, .int .i64 line, .int .i64 col], progV cells tv, thrV loc av] (rdOf B)) rac4_o (rac4_R B dst base size mode to line col iv ev fv tv av ix e f cells loc) := ⟨fun ns => by kernel_rfl, fun ns => by kernel_rfl⟩
def rac5_o : Sy.O := (Sy.O.pack 28 0x400000020000010000000020000000040 (Sy.O.fork Sy.O.nil (Sy.O.pack 14 0x8000040000040 (Sy.O.fork (Sy.O.pack 12 0x0 Sy.O.nil) (Sy.O.pack 11 0x800 (Sy.O.fork (Sy.O.pack 6 0x0 Sy.O.nil) (Sy.O.pack 27 0x40004000004000000000010000000800 (Sy.O.fork (Sy.O.pack 3 0x40 (Sy.O.fork (Sy.O.pack 17 0x0 Sy.O.nil) (Sy.O.pack 12 0x800000800 (Sy.O.fork (Sy.O.pack 10 0x0 Sy.O.nil) (Sy.O.pack 6 0x800 (Sy.O.fork (Sy.O.pack 8 0x2000800 (Sy.O.fork (Sy.O.pack 5 0x0 Sy.O.nil) (Sy.O.pack 6 0x800 (Sy.O.fork (Sy.O.pack 17 0x403080000000000800 (Sy.O.fork Sy.O.nil (Sy.O.pack 38 0x100c210000000002000000004000000000020000000040 (Sy.O.fork (Sy.O.pack 4 0x0 Sy.O.nil) (Sy.O.pack 33 0x40010000000020000000000000400000000000 (Sy.O.fork Sy.O.nil (Sy.O.pack 16 0x800000020000000040 Sy.O.nil))))))) (Sy.O.pack 45 0x806108000000001000000002000000000010000000020000000000 (Sy.O.fork (Sy.O.pack 4 0x0 Sy.O.nil) (Sy.O.pack 33 0x40010000000020000000000000400000000000 (Sy.O.fork Sy.O.nil (Sy.O.pack 16 0x800000020000000040 Sy.O.nil))))))))) (Sy.O.pack 11 0x1000000000 (Sy.O.fork (Sy.O.pack 17 0x403080000000000800 (Sy.O.fork Sy.O.nil (Sy.O.pack 38 0x100c210000000002000000004000000000020000000040 (Sy.O.fork (Sy.O.pack 4 0x0 Sy.O.nil) (Sy.O.pack 33 0x40010000000020000000000000400000000000 (Sy.O.fork Sy.O.nil (Sy.O.pack 16 0x800000020000000040 Sy.O.nil))))))) (Sy.O.pack 45 0x806108000000001000000002000000000010000000020000000000 (Sy.O.fork (Sy.O.pack 4 0x0 Sy.O.nil) (Sy.O.pack 33 0x40010000000020000000000000400000000000 (Sy.O.fork Sy.O.nil (Sy.O.pack 16 0x800000020000000040 Sy.O.nil))))))))))))) (Sy.O.pack 4 0x8000 (Sy.O.fork Sy.O.nil (Sy.O.pack 3 0x40 (Sy.O.fork (Sy.O.pack 17 0x0 Sy.O.nil) (Sy.O.pack 12 0x800000800 (Sy.O.fork (Sy.O.pack 10 0x0 Sy.O.nil) (Sy.O.pack 6 0x800 (Sy.O.fork (Sy.O.pack 8 0x2000800 (Sy.O.fork (Sy.O.pack 5 0x0 Sy.O.nil) (Sy.O.pack 6 0x800 (Sy.O.fork (Sy.O.pack 17 0x403080000000000800 (Sy.O.fork Sy.O.nil (Sy.O.pack 38 0x100c210000000002000000004000000000020000000040 (Sy.O.fork (Sy.O.pack 4 0x0 Sy.O.nil) (Sy.O.pack 33 0x40010000000020000000000000400000000000 (Sy.O.fork Sy.O.nil (Sy.O.pack 16 0x800000020000000040 Sy.O.nil))))))) (Sy.O.pack 45 0x806108000000001000000002000000000010000000020000000000 (Sy.O.fork (Sy.O.pack 4 0x0 Sy.O.nil) (Sy.O.pack 33 0x40010000000020000000000000400000000000 (Sy.O.fork Sy.O.nil (Sy.O.pack 16 0x800000020000000040 Sy.O.nil))))))))) (Sy.O.pack 11 0x1000000000 (Sy.O.fork (Sy.O.pack 17 0x403080000000000800 (Sy.O.fork Sy.O.nil (Sy.O.pack 38 0x100c210000000002000000004000000000020000000040 (Sy.O.fork (Sy.O.pack 4 0x0 Sy.O.nil) (Sy.O.pack 33 0x40010000000020000000000000400000000000 (Sy.O.fork Sy.O.nil (Sy.O.pack 16 0x800000020000000040 Sy.O.nil))))))) (Sy.O.pack 45 0x806108000000001000000002000000000010000000020000000000 (Sy.O.fork (Sy.O.pack 4 0x0 Sy.O.nil) (Sy.O.pack 33 0x40010000000020000000000000400000000000 (Sy.O.fork Sy.O.nil (Sy.O.pack 16 0x800000020000000040 Sy.O.nil)))))))))))))))))))))))
noncomputable def rac5_R (B : List (Nat × Sy.Cont)) (dst : Int) (base : Int) (size : Int) (mode : Int) (to : Int) (line : Int) (col : Int) (iv : Value) (ev : Value) (fv : Value) (tv : Value) (av : Value) (ix : List NodeD) (e : List NodeD) (f : List NodeD) (cells : Int) (loc : Int) (ns : Nat → Sy.Let) : Sy.Res (Value × List Blk) := .need True (.hyp True (.br (bif false then true else !mayF (5 : Int) mode) (.leaf (Value.bool false, Blk.mk (Let.n (ns 2)) (.obj (.cells (Array.mk [.int .i64 loc, av]) (37 : Nat))) true :: Blk.mk (Let.n (ns 1)) (.obj (.cells (Array.mk [.int .i64 cells, tv]) (27 : Nat))) true :: Blk.mk (Let.n (ns 0)) (.obj (.cells (Array.mk [.int .i64 (5 : Int), .int .i64 dst, .int .i64 base, .int .i64 size, iv, ev, fv, .int .i64 mode, .int .i64 to, .int .i64 line, .int .i64 col]) (67 : Nat))) true :: rdOf B)) (.need True (.hyp True (.br (Ex.ltQ dst (0 : Int)) (.leaf (Value.bool false, Blk.mk (Let.n (ns 2)) (.obj (.cells (Array.mk [.int .i64 loc, av]) (37 : Nat))) true :: Blk.mk (Let.n (ns 1)) (.obj (.cells (Array.mk [.int .i64 cells, tv]) (27 : Nat))) true :: Blk.mk (Let.n (ns 0)) (.obj (.cells (Array.mk [.int .i64 (5 : Int), .int .i64 dst, .int .i64 base, .int .i64 size, iv, ev, fv, .int .i64 mode, .int .i64 to, .int .i64 line, .int .i64 col]) (67 : Nat))) true :: rdOf B)) (.br (bif true then bif
 false then true else Ex.leQ loc dst else false) (.leaf (Value.bool false, Blk.mk (Let.n (ns 2)) (.obj (.cells (Array.mk [.int .i64 loc, av]) (37 : Nat))) true :: Blk.mk (Let.n (ns 1)) (.obj (.cells (Array.mk [.int .i64 cells, tv]) (27 : Nat))) true :: Blk.mk (Let.n (ns 0)) (.obj (.cells (Array.mk [.int .i64 (5 : Int), .int .i64 dst, .int .i64 base, .int .i64 size, iv, ev, fv, .int .i64 mode, .int .i64 to, .int .i64 line, .int .i64 col]) (67 : Nat))) true :: rdOf B)) (.need True (.hyp True (.need True (.hyp True (.br (Ex.eqQ size (0 : Int)) (.br (Ex.ltQ base (0 : Int)) (.leaf (Value.bool false, Blk.mk (Let.n (ns 2)) (.obj (.cells (Array.mk [.int .i64 loc, av]) (37 : Nat))) true :: Blk.mk (Let.n (ns 1)) (.obj (.cells (Array.mk [.int .i64 cells, tv]) (27 : Nat))) true :: Blk.mk (Let.n (ns 0)) (.obj (.cells (Array.mk [.int .i64 (5 : Int), .int .i64 dst, .int .i64 base, .int .i64 size, iv, ev, fv, .int .i64 mode, .int .i64 to, .int .i64 line, .int .i64 col]) (67 : Nat))) true :: rdOf B))
 (.br (bif false then true else Ex.ltQ (Ex.wrapQ .i64 (Ex.subQ' cells (1 : Int))) base) (.leaf (Value.bool false, Blk.mk (Let.n (ns 2)) (.obj (.cells (Array.mk [.int .i64 loc, av]) (37 : Nat))) true :: Blk.mk (Let.n (ns 1)) (.obj (.cells (Array.mk [.int .i64 cells, tv]) (27 : Nat))) true :: Blk.mk (Let.n (ns 0)) (.obj (.cells (Array.mk [.int .i64 (5 : Int), .int .i64 dst, .int .i64 base, .int .i64 size, iv, ev, fv, .int .i64 mode, .int .i64 to, .int .i64 line, .int .i64 col]) (67 : Nat))) true :: rdOf B)) (.br (Ex.eqQ size (0 : Int)) (.need (∃ (p : Option Addr), ∃ (n : Nat), ∃ (c : Nat), iv = Value.slice p n c) (.br (bif false then true else bif true then Ex.ltQ (0 : Int) (Int.ofNat (Sy.lenS iv)) else false) (.leaf (Value.bool false, Blk.mk (Let.n (ns 2)) (.obj (.cells (Array.mk [.int .i64 loc, av]) (37 : Nat))) true :: Blk.mk (Let.n (ns 1)) (.obj (.cells (Array.mk [.int .i64 cells, tv]) (27 : Nat))) true :: Blk.mk (Let.n (ns 0)) (.obj (.cells (Array.mk [.int .i64 (5 : Int), .int .i64
 dst, .int .i64 base, .int .i64 size, iv, ev, fv, .int .i64 mode, .int .i64 to, .int .i64 line, .int .i64 col]) (67 : Nat))) true :: rdOf B)) (.br (Ex.ltQ (0 : Int) size) (.need (NodesR B iv ix ∧ List.length ix < (4398046511104 : Nat)) (.need (Sy.GotL (rdOf B) B) (.hyp True (.br (bif false then true else bif true then !exprR loc ix else false) (.leaf (Value.bool false, Blk.mk (Let.n (ns 2)) (.obj (.cells (Array.mk [.int .i64 loc, av]) (37 : Nat))) true :: Blk.mk (Let.n (ns 1)) (.obj (.cells (Array.mk [.int .i64 cells, tv]) (27 : Nat))) true :: Blk.mk (Let.n (ns 0)) (.obj (.cells (Array.mk [.int .i64 (5 : Int), .int .i64 dst, .int .i64 base, .int .i64 size, iv, ev, fv, .int .i64 mode, .int .i64 to, .int .i64 line, .int .i64 col]) (67 : Nat))) true :: rdOf B)) (.need (NodesR B ev e ∧ List.length e < (4398046511104 : Nat)) (.need (Sy.GotL (rdOf B) B) (.hyp True (.br (bif true then !exprR loc e else false) (.leaf (Value.bool false, Blk.mk (Let.n (ns 2)) (.obj (.cells (Array.mk [.int .i64
 loc, av]) (37 : Nat))) true :: Blk.mk (Let.n (ns 1)) (.obj (.cells (Array.mk [.int .i64 cells, tv]) (27 : Nat))) true :: Blk.mk (Let.n (ns 0)) (.obj (.cells (Array.mk [.int .i64 (5 : Int), .int .i64 dst, .int .i64 base, .int .i64 size, iv, ev, fv, .int .i64 mode, .int .i64 to, .int .i64 line, .int .i64 col]) (67 : Nat))) true :: rdOf B)) (.need (∃ (p : Option Addr), ∃ (n : Nat), ∃ (c : Nat), fv = Value.slice p n c) (.br (bif false then true else bif true then Ex.ltQ (0 : Int) (Int.ofNat (Sy.lenS fv)) else false) (.leaf (Value.bool false, Blk.mk (Let.n (ns 2)) (.obj (.cells (Array.mk [.int .i64 loc, av]) (37 : Nat))) true :: Blk.mk (Let.n (ns 1)) (.obj (.cells (Array.mk [.int .i64 cells, tv]) (27 : Nat))) true :: Blk.mk (Let.n (ns 0)) (.obj (.cells (Array.mk [.int .i64 (5 : Int), .int .i64 dst, .int .i64 base, .int .i64 size, iv, ev, fv, .int .i64 mode, .int .i64 to, .int .i64 line, .int .i64 col]) (67 : Nat))) true :: rdOf B)) (.leaf (Value.bool (Ex.eqQ to (0 : Int)), Blk.mk (Let.n (ns
 2)) (.obj (.cells (Array.mk [.int .i64 loc, av]) (37 : Nat))) true :: Blk.mk (Let.n (ns 1)) (.obj (.cells (Array.mk [.int .i64 cells, tv]) (27 : Nat))) true :: Blk.mk (Let.n (ns 0)) (.obj (.cells (Array.mk [.int .i64 (5 : Int), .int .i64 dst, .int .i64 base, .int .i64 size, iv, ev, fv, .int .i64 mode, .int .i64 to, .int .i64 line, .int .i64 col]) (67 : Nat))) true :: rdOf B)))))))))))) (.need (NodesR B ev e ∧ List.length e < (4398046511104 : Nat)) (.need (Sy.GotL (rdOf B) B) (.hyp True (.br (bif true then !exprR loc e else false) (.leaf (Value.bool false, Blk.mk (Let.n (ns 2)) (.obj (.cells (Array.mk [.int .i64 loc, av]) (37 : Nat))) true :: Blk.mk (Let.n (ns 1)) (.obj (.cells (Array.mk [.int .i64 cells, tv]) (27 : Nat))) true :: Blk.mk (Let.n (ns 0)) (.obj (.cells (Array.mk [.int .i64 (5 : Int), .int .i64 dst, .int .i64 base, .int .i64 size, iv, ev, fv, .int .i64 mode, .int .i64 to, .int .i64 line, .int .i64 col]) (67 : Nat))) true :: rdOf B)) (.need (∃ (p : Option Addr), ∃ (n : Nat),
 ∃ (c : Nat), fv = Value.slice p n c) (.br (bif false then true else bif true then Ex.ltQ (0 : Int) (Int.ofNat (Sy.lenS fv)) else false) (.leaf (Value.bool false, Blk.mk (Let.n (ns 2)) (.obj (.cells (Array.mk [.int .i64 loc, av]) (37 : Nat))) true :: Blk.mk (Let.n (ns 1)) (.obj (.cells (Array.mk [.int .i64 cells, tv]) (27 : Nat))) true :: Blk.mk (Let.n (ns 0)) (.obj (.cells (Array.mk [.int .i64 (5 : Int), .int .i64 dst, .int .i64 base, .int .i64 size, iv, ev, fv, .int .i64 mode, .int .i64 to, .int .i64 line, .int .i64 col]) (67 : Nat))) true :: rdOf B)) (.leaf (Value.bool (Ex.eqQ to (0 : Int)), Blk.mk (Let.n (ns 2)) (.obj (.cells (Array.mk [.int .i64 loc, av]) (37 : Nat))) true :: Blk.mk (Let.n (ns 1)) (.obj (.cells (Array.mk [.int .i64 cells, tv]) (27 : Nat))) true :: Blk.mk (Let.n (ns 0)) (.obj (.cells (Array.mk [.int .i64 (5 : Int), .int .i64 dst, .int .i64 base, .int .i64 size, iv, ev, fv, .int .i64 mode, .int .i64 to, .int .i64 line, .int .i64 col]) (67 : Nat))) true :: rdOf
 B))))))))))) (.br (Ex.ltQ (0 : Int) size) (.need (NodesR B iv ix ∧ List.length ix < (4398046511104 : Nat)) (.need (Sy.GotL (rdOf B) B) (.hyp True (.br (bif false then true else bif true then !exprR loc ix else false) (.leaf (Value.bool false, Blk.mk (Let.n (ns 2)) (.obj (.cells (Array.mk [.int .i64 loc, av]) (37 : Nat))) true :: Blk.mk (Let.n (ns 1)) (.obj (.cells (Array.mk [.int .i64 cells, tv]) (27 : Nat))) true :: Blk.mk (Let.n (ns 0)) (.obj (.cells (Array.mk [.int .i64 (5 : Int), .int .i64 dst, .int .i64 base, .int .i64 size, iv, ev, fv, .int .i64 mode, .int .i64 to, .int .i64 line, .int .i64 col]) (67 : Nat))) true :: rdOf B)) (.need (NodesR B ev e ∧ List.length e < (4398046511104 : Nat)) (.need (Sy.GotL (rdOf B) B) (.hyp True (.br (bif true then !exprR loc e else false) (.leaf (Value.bool false, Blk.mk (Let.n (ns 2)) (.obj (.cells (Array.mk [.int .i64 loc, av]) (37 : Nat))) true :: Blk.mk (Let.n (ns 1)) (.obj (.cells (Array.mk [.int .i64 cells, tv]) (27 : Nat))) true :: Blk.mk
 (Let.n (ns 0)) (.obj (.cells (Array.mk [.int .i64 (5 : Int), .int .i64 dst, .int .i64 base, .int .i64 size, iv, ev, fv, .int .i64 mode, .int .i64 to, .int .i64 line, .int .i64 col]) (67 : Nat))) true :: rdOf B)) (.need (∃ (p : Option Addr), ∃ (n : Nat), ∃ (c : Nat), fv = Value.slice p n c) (.br (bif false then true else bif true then Ex.ltQ (0 : Int) (Int.ofNat (Sy.lenS fv)) else false) (.leaf (Value.bool false, Blk.mk (Let.n (ns 2)) (.obj (.cells (Array.mk [.int .i64 loc, av]) (37 : Nat))) true :: Blk.mk (Let.n (ns 1)) (.obj (.cells (Array.mk [.int .i64 cells, tv]) (27 : Nat))) true :: Blk.mk (Let.n (ns 0)) (.obj (.cells (Array.mk [.int .i64 (5 : Int), .int .i64 dst, .int .i64 base, .int .i64 size, iv, ev, fv, .int .i64 mode, .int .i64 to, .int .i64 line, .int .i64 col]) (67 : Nat))) true :: rdOf B)) (.leaf (Value.bool (Ex.eqQ to (0 : Int)), Blk.mk (Let.n (ns 2)) (.obj (.cells (Array.mk [.int .i64 loc, av]) (37 : Nat))) true :: Blk.mk (Let.n (ns 1)) (.obj (.cells (Array.mk [.int .i64
 cells, tv]) (27 : Nat))) true :: Blk.mk (Let.n (ns 0)) (.obj (.cells (Array.mk [.int .i64 (5 : Int), .int .i64 dst, .int .i64 base, .int .i64 size, iv, ev, fv, .int .i64 mode, .int .i64 to, .int .i64 line, .int .i64 col]) (67 : Nat))) true :: rdOf B)))))))))))) (.need (NodesR B ev e ∧ List.length e < (4398046511104 : Nat)) (.need (Sy.GotL (rdOf B) B) (.hyp True (.br (bif true then !exprR loc e else false) (.leaf (Value.bool false, Blk.mk (Let.n (ns 2)) (.obj (.cells (Array.mk [.int .i64 loc, av]) (37 : Nat))) true :: Blk.mk (Let.n (ns 1)) (.obj (.cells (Array.mk [.int .i64 cells, tv]) (27 : Nat))) true :: Blk.mk (Let.n (ns 0)) (.obj (.cells (Array.mk [.int .i64 (5 : Int), .int .i64 dst, .int .i64 base, .int .i64 size, iv, ev, fv, .int .i64 mode, .int .i64 to, .int .i64 line, .int .i64 col]) (67 : Nat))) true :: rdOf B)) (.need (∃ (p : Option Addr), ∃ (n : Nat), ∃ (c : Nat), fv = Value.slice p n c) (.br (bif false then true else bif true then Ex.ltQ (0 : Int) (Int.ofNat (Sy.lenS fv))
 else false) (.leaf (Value.bool false, Blk.mk (Let.n (ns 2)) (.obj (.cells (Array.mk [.int .i64 loc, av]) (37 : Nat))) true :: Blk.mk (Let.n (ns 1)) (.obj (.cells (Array.mk [.int .i64 cells, tv]) (27 : Nat))) true :: Blk.mk (Let.n (ns 0)) (.obj (.cells (Array.mk [.int .i64 (5 : Int), .int .i64 dst, .int .i64 base, .int .i64 size, iv, ev, fv, .int .i64 mode, .int .i64 to, .int .i64 line, .int .i64 col]) (67 : Nat))) true :: rdOf B)) (.leaf (Value.bool (Ex.eqQ to (0 : Int)), Blk.mk (Let.n (ns 2)) (.obj (.cells (Array.mk [.int .i64 loc, av]) (37 : Nat))) true :: Blk.mk (Let.n (ns 1)) (.obj (.cells (Array.mk [.int .i64 cells, tv]) (27 : Nat))) true :: Blk.mk (Let.n (ns 0)) (.obj (.cells (Array.mk [.int .i64 (5 : Int), .int .i64 dst, .int .i64 base, .int .i64 size, iv, ev, fv, .int .i64 mode, .int .i64 to, .int .i64 line, .int .i64 col]) (67 : Nat))) true :: rdOf B)))))))))))) (.need True (.hyp True (.br (!powF size) (.leaf (Value.bool false, Blk.mk (Let.n (ns 2)) (.obj (.cells (Array.mk
 [.int .i64 loc, av]) (37 : Nat))) true :: Blk.mk (Let.n (ns 1)) (.obj (.cells (Array.mk [.int .i64 cells, tv]) (27 : Nat))) true :: Blk.mk (Let.n (ns 0)) (.obj (.cells (Array.mk [.int .i64 (5 : Int), .int .i64 dst, .int .i64 base, .int .i64 size, iv, ev, fv, .int .i64 mode, .int .i64 to, .int .i64 line, .int .i64 col]) (67 : Nat))) true :: rdOf B)) (.br (Ex.ltQ base (0 : Int)) (.leaf (Value.bool false, Blk.mk (Let.n (ns 2)) (.obj (.cells (Array.mk [.int .i64 loc, av]) (37 : Nat))) true :: Blk.mk (Let.n (ns 1)) (.obj (.cells (Array.mk [.int .i64 cells, tv]) (27 : Nat))) true :: Blk.mk (Let.n (ns 0)) (.obj (.cells (Array.mk [.int .i64 (5 : Int), .int .i64 dst, .int .i64 base, .int .i64 size, iv, ev, fv, .int .i64 mode, .int .i64 to, .int .i64 line, .int .i64 col]) (67 : Nat))) true :: rdOf B)) (.br (bif false then true else Ex.ltQ (Ex.wrapQ .i64 (Ex.subQ' cells size)) base) (.leaf (Value.bool false, Blk.mk (Let.n (ns 2)) (.obj (.cells (Array.mk [.int .i64 loc, av]) (37 : Nat))) true ::
 Blk.mk (Let.n (ns 1)) (.obj (.cells (Array.mk [.int .i64 cells, tv]) (27 : Nat))) true :: Blk.mk (Let.n (ns 0)) (.obj (.cells (Array.mk [.int .i64 (5 : Int), .int .i64 dst, .int .i64 base, .int .i64 size, iv, ev, fv, .int .i64 mode, .int .i64 to, .int .i64 line, .int .i64 col]) (67 : Nat))) true :: rdOf B)) (.br (Ex.eqQ size (0 : Int)) (.need (∃ (p : Option Addr), ∃ (n : Nat), ∃ (c : Nat), iv = Value.slice p n c) (.br (bif false then true else bif true then Ex.ltQ (0 : Int) (Int.ofNat (Sy.lenS iv)) else false) (.leaf (Value.bool false, Blk.mk (Let.n (ns 2)) (.obj (.cells (Array.mk [.int .i64 loc, av]) (37 : Nat))) true :: Blk.mk (Let.n (ns 1)) (.obj (.cells (Array.mk [.int .i64 cells, tv]) (27 : Nat))) true :: Blk.mk (Let.n (ns 0)) (.obj (.cells (Array.mk [.int .i64 (5 : Int), .int .i64 dst, .int .i64 base, .int .i64 size, iv, ev, fv, .int .i64 mode, .int .i64 to, .int .i64 line, .int .i64 col]) (67 : Nat))) true :: rdOf B)) (.br (Ex.ltQ (0 : Int) size) (.need (NodesR B iv ix ∧
 List.length ix < (4398046511104 : Nat)) (.need (Sy.GotL (rdOf B) B) (.hyp True (.br (bif false then true else bif true then !exprR loc ix else false) (.leaf (Value.bool false, Blk.mk (Let.n (ns 2)) (.obj (.cells (Array.mk [.int .i64 loc, av]) (37 : Nat))) true :: Blk.mk (Let.n (ns 1)) (.obj (.cells (Array.mk [.int .i64 cells, tv]) (27 : Nat))) true :: Blk.mk (Let.n (ns 0)) (.obj (.cells (Array.mk [.int .i64 (5 : Int), .int .i64 dst, .int .i64 base, .int .i64 size, iv, ev, fv, .int .i64 mode, .int .i64 to, .int .i64 line, .int .i64 col]) (67 : Nat))) true :: rdOf B)) (.need (NodesR B ev e ∧ List.length e < (4398046511104 : Nat)) (.need (Sy.GotL (rdOf B) B) (.hyp True (.br (bif true then !exprR loc e else false) (.leaf (Value.bool false, Blk.mk (Let.n (ns 2)) (.obj (.cells (Array.mk [.int .i64 loc, av]) (37 : Nat))) true :: Blk.mk (Let.n (ns 1)) (.obj (.cells (Array.mk [.int .i64 cells, tv]) (27 : Nat))) true :: Blk.mk (Let.n (ns 0)) (.obj (.cells (Array.mk [.int .i64 (5 : Int), .int .i64
 dst, .int .i64 base, .int .i64 size, iv, ev, fv, .int .i64 mode, .int .i64 to, .int .i64 line, .int .i64 col]) (67 : Nat))) true :: rdOf B)) (.need (∃ (p : Option Addr), ∃ (n : Nat), ∃ (c : Nat), fv = Value.slice p n c) (.br (bif false then true else bif true then Ex.ltQ (0 : Int) (Int.ofNat (Sy.lenS fv)) else false) (.leaf (Value.bool false, Blk.mk (Let.n (ns 2)) (.obj (.cells (Array.mk [.int .i64 loc, av]) (37 : Nat))) true :: Blk.mk (Let.n (ns 1)) (.obj (.cells (Array.mk [.int .i64 cells, tv]) (27 : Nat))) true :: Blk.mk (Let.n (ns 0)) (.obj (.cells (Array.mk [.int .i64 (5 : Int), .int .i64 dst, .int .i64 base, .int .i64 size, iv, ev, fv, .int .i64 mode, .int .i64 to, .int .i64 line, .int .i64 col]) (67 : Nat))) true :: rdOf B)) (.leaf (Value.bool (Ex.eqQ to (0 : Int)), Blk.mk (Let.n (ns 2)) (.obj (.cells (Array.mk [.int .i64 loc, av]) (37 : Nat))) true :: Blk.mk (Let.n (ns 1)) (.obj (.cells (Array.mk [.int .i64 cells, tv]) (27 : Nat))) true :: Blk.mk (Let.n (ns 0)) (.obj (.cells
 (Array.mk [.int .i64 (5 : Int), .int .i64 dst, .int .i64 base, .int .i64 size, iv, ev, fv, .int .i64 mode, .int .i64 to, .int .i64 line, .int .i64 col]) (67 : Nat))) true :: rdOf B)))))))))))) (.need (NodesR B ev e ∧ List.length e < (4398046511104 : Nat)) (.need (Sy.GotL (rdOf B) B) (.hyp True (.br (bif true then !exprR loc e else false) (.leaf (Value.bool false, Blk.mk (Let.n (ns 2)) (.obj (.cells (Array.mk [.int .i64 loc, av]) (37 : Nat))) true :: Blk.mk (Let.n (ns 1)) (.obj (.cells (Array.mk [.int .i64 cells, tv]) (27 : Nat))) true :: Blk.mk (Let.n (ns 0)) (.obj (.cells (Array.mk [.int .i64 (5 : Int), .int .i64 dst, .int .i64 base, .int .i64 size, iv, ev, fv, .int .i64 mode, .int .i64 to, .int .i64 line, .int .i64 col]) (67 : Nat))) true :: rdOf B)) (.need (∃ (p : Option Addr), ∃ (n : Nat), ∃ (c : Nat), fv = Value.slice p n c) (.br (bif false then true else bif true then Ex.ltQ (0 : Int) (Int.ofNat (Sy.lenS fv)) else false) (.leaf (Value.bool false, Blk.mk (Let.n (ns 2)) (.obj
 (.cells (Array.mk [.int .i64 loc, av]) (37 : Nat))) true :: Blk.mk (Let.n (ns 1)) (.obj (.cells (Array.mk [.int .i64 cells, tv]) (27 : Nat))) true :: Blk.mk (Let.n (ns 0)) (.obj (.cells (Array.mk [.int .i64 (5 : Int), .int .i64 dst, .int .i64 base, .int .i64 size, iv, ev, fv, .int .i64 mode, .int .i64 to, .int .i64 line, .int .i64 col]) (67 : Nat))) true :: rdOf B)) (.leaf (Value.bool (Ex.eqQ to (0 : Int)), Blk.mk (Let.n (ns 2)) (.obj (.cells (Array.mk [.int .i64 loc, av]) (37 : Nat))) true :: Blk.mk (Let.n (ns 1)) (.obj (.cells (Array.mk [.int .i64 cells, tv]) (27 : Nat))) true :: Blk.mk (Let.n (ns 0)) (.obj (.cells (Array.mk [.int .i64 (5 : Int), .int .i64 dst, .int .i64 base, .int .i64 size, iv, ev, fv, .int .i64 mode, .int .i64 to, .int .i64 line, .int .i64 col]) (67 : Nat))) true :: rdOf B))))))))))) (.br (Ex.ltQ (0 : Int) size) (.need (NodesR B iv ix ∧ List.length ix < (4398046511104 : Nat)) (.need (Sy.GotL (rdOf B) B) (.hyp True (.br (bif false then true else bif true then !exprR
 loc ix else false) (.leaf (Value.bool false, Blk.mk (Let.n (ns 2)) (.obj (.cells (Array.mk [.int .i64 loc, av]) (37 : Nat))) true :: Blk.mk (Let.n (ns 1)) (.obj (.cells (Array.mk [.int .i64 cells, tv]) (27 : Nat))) true :: Blk.mk (Let.n (ns 0)) (.obj (.cells (Array.mk [.int .i64 (5 : Int), .int .i64 dst, .int .i64 base, .int .i64 size, iv, ev, fv, .int .i64 mode, .int .i64 to, .int .i64 line, .int .i64 col]) (67 : Nat))) true :: rdOf B)) (.need (NodesR B ev e ∧ List.length e < (4398046511104 : Nat)) (.need (Sy.GotL (rdOf B) B) (.hyp True (.br (bif true then !exprR loc e else false) (.leaf (Value.bool false, Blk.mk (Let.n (ns 2)) (.obj (.cells (Array.mk [.int .i64 loc, av]) (37 : Nat))) true :: Blk.mk (Let.n (ns 1)) (.obj (.cells (Array.mk [.int .i64 cells, tv]) (27 : Nat))) true :: Blk.mk (Let.n (ns 0)) (.obj (.cells (Array.mk [.int .i64 (5 : Int), .int .i64 dst, .int .i64 base, .int .i64 size, iv, ev, fv, .int .i64 mode, .int .i64 to, .int .i64 line, .int .i64 col]) (67 : Nat))) true
 :: rdOf B)) (.need (∃ (p : Option Addr), ∃ (n : Nat), ∃ (c : Nat), fv = Value.slice p n c) (.br (bif false then true else bif true then Ex.ltQ (0 : Int) (Int.ofNat (Sy.lenS fv)) else false) (.leaf (Value.bool false, Blk.mk (Let.n (ns 2)) (.obj (.cells (Array.mk [.int .i64 loc, av]) (37 : Nat))) true :: Blk.mk (Let.n (ns 1)) (.obj (.cells (Array.mk [.int .i64 cells, tv]) (27 : Nat))) true :: Blk.mk (Let.n (ns 0)) (.obj (.cells (Array.mk [.int .i64 (5 : Int), .int .i64 dst, .int .i64 base, .int .i64 size, iv, ev, fv, .int .i64 mode, .int .i64 to, .int .i64 line, .int .i64 col]) (67 : Nat))) true :: rdOf B)) (.leaf (Value.bool (Ex.eqQ to (0 : Int)), Blk.mk (Let.n (ns 2)) (.obj (.cells (Array.mk [.int .i64 loc, av]) (37 : Nat))) true :: Blk.mk (Let.n (ns 1)) (.obj (.cells (Array.mk [.int .i64 cells, tv]) (27 : Nat))) true :: Blk.mk (Let.n (ns 0)) (.obj (.cells (Array.mk [.int .i64 (5 : Int), .int .i64 dst, .int .i64 base, .int .i64 size, iv, ev, fv, .int .i64 mode, .int .i64 to, .int .i64
 line, .int .i64 col]) (67 : Nat))) true :: rdOf B)))))))))))) (.need (NodesR B ev e ∧ List.length e < (4398046511104 : Nat)) (.need (Sy.GotL (rdOf B) B) (.hyp True (.br (bif true then !exprR loc e else false) (.leaf (Value.bool false, Blk.mk (Let.n (ns 2)) (.obj (.cells (Array.mk [.int .i64 loc, av]) (37 : Nat))) true :: Blk.mk (Let.n (ns 1)) (.obj (.cells (Array.mk [.int .i64 cells, tv]) (27 : Nat))) true :: Blk.mk (Let.n (ns 0)) (.obj (.cells (Array.mk [.int .i64 (5 : Int), .int .i64 dst, .int .i64 base, .int .i64 size, iv, ev, fv, .int .i64 mode, .int .i64 to, .int .i64 line, .int .i64 col]) (67 : Nat))) true :: rdOf B)) (.need (∃ (p : Option Addr), ∃ (n : Nat), ∃ (c : Nat), fv = Value.slice p n c) (.br (bif false then true else bif true then Ex.ltQ (0 : Int) (Int.ofNat (Sy.lenS fv)) else false) (.leaf (Value.bool false, Blk.mk (Let.n (ns 2)) (.obj (.cells (Array.mk [.int .i64 loc, av]) (37 : Nat))) true :: Blk.mk (Let.n (ns 1)) (.obj (.cells (Array.mk [.int .i64 cells, tv]) (27 :
 Nat))) true :: Blk.mk (Let.n (ns 0)) (.obj (.cells (Array.mk [.int .i64 (5 : Int), .int .i64 dst, .int .i64 base, .int .i64 size, iv, ev, fv, .int .i64 mode, .int .i64 to, .int .i64 line, .int .i64 col]) (67 : Nat))) true :: rdOf B)) (.leaf (Value.bool (Ex.eqQ to (0 : Int)), Blk.mk (Let.n (ns 2)) (.obj (.cells (Array.mk [.int .i64 loc, av]) (37 : Nat))) true :: Blk.mk (Let.n (ns 1)) (.obj (.cells (Array.mk [.int .i64 cells, tv]) (27 : Nat))) true :: Blk.mk (Let.n (ns 0)) (.obj (.cells (Array.mk [.int .i64 (5 : Int), .int .i64 dst, .int .i64 base, .int .i64 size, iv, ev, fv, .int .i64 mode, .int .i64 to, .int .i64 line, .int .i64 col]) (67 : Nat))) true :: rdOf B))))))))))))))))))))))))))

theorem rac5_run (B : List (Nat × Sy.Cont)) (dst base size mode to line col : Int) (iv ev fv tv av : Value) (ix e f : List NodeD) (cells loc : Int) : Sy.Ran (Sy.inB Try.prog (ctxR B (5) size mode iv ev fv ix e f loc) 50 fRAct #[.agg #[.int .i64 (5), .int .i64 dst, .int .i64 base, .int .i64 size, iv, ev, fv, .int .i64 mode, .int .i64 to, .int .i64 line, .int .i64 col], progV cells tv, thrV loc av] (rdOf B)) rac5_o (rac5_R B dst base size mode to line col iv ev fv tv av ix e f cells loc) := ⟨fun ns => by kernel_rfl, fun ns => by kernel_rfl⟩
def rac6_o : Sy.O := (Sy.O.pack 28 0x400000020000010000000020000000040 (Sy.O.fork Sy.O.nil (Sy.O.pack 14 0x8000040000040 (Sy.O.fork (Sy.O.pack 12 0x0 Sy.O.nil) (Sy.O.pack 11 0x800 (Sy.O.fork (Sy.O.pack 6 0x0 Sy.O.nil) (Sy.O.pack 27 0x40004000004000000000010000000800 (Sy.O.fork (Sy.O.pack 3 0x40 (Sy.O.fork (Sy.O.pack 17 0x0 Sy.O.nil) (Sy.O.pack 12 0x800000800 (Sy.O.fork (Sy.O.pack 10 0x0 Sy.O.nil) (Sy.O.pack 6 0x800 (Sy.O.fork (Sy.O.pack 8 0x2000800 (Sy.O.fork (Sy.O.pack 5 0x0 Sy.O.nil) (Sy.O.pack 6 0x800 (Sy.O.fork (Sy.O.pack 17 0x403080000000000800 (Sy.O.fork Sy.O.nil (Sy.O.pack 38 0x100c210000000002000000004000000000020000000040 (Sy.O.fork (Sy.O.pack 4 0x0 Sy.O.nil) (Sy.O.pack 28 0x403088000000000800000400000000000 (Sy.O.fork (Sy.O.pack 5 0x0 Sy.O.nil) (Sy.O.pack 28 0x800000020000000040000000000000800 Sy.O.nil))))))) (Sy.O.pack 45 0x806108000000001000000002000000000010000000020000000000 (Sy.O.fork (Sy.O.pack 4 0x0 Sy.O.nil) (Sy.O.pack 28 0x403088000000000800000400000000000 (Sy.O.fork (Sy.O.pack 5 0x0 Sy.O.nil) (Sy.O.pack 28 0x800000020000000040000000000000800 Sy.O.nil))))))))) (Sy.O.pack 11 0x1000000000 (Sy.O.fork (Sy.O.pack 17 0x403080000000000800 (Sy.O.fork Sy.O.nil (Sy.O.pack 38 0x100c210000000002000000004000000000020000000040 (Sy.O.fork (Sy.O.pack 4 0x0 Sy.O.nil) (Sy.O.pack 28 0x403088000000000800000400000000000 (Sy.O.fork (Sy.O.pack 5 0x0 Sy.O.nil) (Sy.O.pack 28 0x800000020000000040000000000000800 Sy.O.nil))))))) (Sy.O.pack 45 0x806108000000001000000002000000000010000000020000000000 (Sy.O.fork (Sy.O.pack 4 0x0 Sy.O.nil) (Sy.O.pack 28 0x403088000000000800000400000000000 (Sy.O.fork (Sy.O.pack 5 0x0 Sy.O.nil) (Sy.O.pack 28 0x800000020000000040000000000000800 Sy.O.nil))))))))))))) (Sy.O.pack 4 0x8000 (Sy.O.fork Sy.O.nil (Sy.O.pack 3 0x40 (Sy.O.fork (Sy.O.pack 17 0x0 Sy.O.nil) (Sy.O.pack 12 0x800000800 (Sy.O.fork (Sy.O.pack 10 0x0 Sy.O.nil) (Sy.O.pack 6 0x800 (Sy.O.fork (Sy.O.pack 8 0x2000800 (Sy.O.fork (Sy.O.pack 5 0x0 Sy.O.nil) (Sy.O.pack 6 0x800 (Sy.O.fork (Sy.O.pack 17 0x403080000000000800 (Sy.O.fork Sy.O.nil (Sy.O.pack 38 0x100c210000000002000000004000000000020000000040 (Sy.O.fork (Sy.O.pack 4 0x0 Sy.O.nil) (Sy.O.pack 28 0x403088000000000800000400000000000 (Sy.O.fork (Sy.O.pack 5 0x0 Sy.O.nil) (Sy.O.pack 28 0x800000020000000040000000000000800 Sy.O.nil))))))) (Sy.O.pack 45 0x806108000000001000000002000000000010000000020000000000 (Sy.O.fork (Sy.O.pack 4 0x0 Sy.O.nil) (Sy.O.pack 28 0x403088000000000800000400000000000 (Sy.O.fork (Sy.O.pack 5 0x0 Sy.O.nil) (Sy.O.pack 28 0x800000020000000040000000000000800 Sy.O.nil))))))))) (Sy.O.pack 11 0x1000000000 (Sy.O.fork (Sy.O.pack 17 0x403080000000000800 (Sy.O.fork Sy.O.nil (Sy.O.pack 38 0x100c210000000002000000004000000000020000000040 (Sy.O.fork (Sy.O.pack 4 0x0 Sy.O.nil) (Sy.O.pack 28 0x403088000000000800000400000000000 (Sy.O.fork (Sy.O.pack 5 0x0 Sy.O.nil) (Sy.O.pack 28 0x800000020000000040000000000000800 Sy.O.nil))))))) (Sy.O.pack 45 0x806108000000001000000002000000000010000000020000000000 (Sy.O.fork (Sy.O.pack 4 0x0 Sy.O.nil) (Sy.O.pack 28 0x403088000000000800000400000000000 (Sy.O.fork (Sy.O.pack 5 0x0 Sy.O.nil) (Sy.O.pack 28 0x800000020000000040000000000000800 Sy.O.nil)))))))))))))))))))))))
noncomputable def rac6_R (B : List (Nat × Sy.Cont)) (dst : Int) (base : Int) (size : Int) (mode : Int) (to : Int) (line : Int) (col : Int) (iv : Value) (ev : Value) (fv : Value) (tv : Value) (av : Value) (ix : List NodeD) (e : List NodeD) (f : List NodeD) (cells : Int) (loc : Int) (ns : Nat → Sy.Let) : Sy.Res (Value × List Blk) := .need True (.hyp True (.br (bif false then true else !mayF (6 : Int) mode) (.leaf (Value.bool false, Blk.mk (Let.n (ns 2)) (.obj (.cells (Array.mk [.int .i64 loc, av]) (37 : Nat))) true :: Blk.mk (Let.n (ns 1)) (.obj (.cells (Array.mk [.int .i64 cells, tv]) (27 : Nat))) true :: Blk.mk (Let.n (ns 0)) (.obj (.cells (Array.mk [.int .i64 (6 : Int), .int .i64 dst, .int .i64 base, .int .i64 size, iv, ev, fv, .int .i64 mode, .int .i64 to, .int .i64 line, .int .i64 col]) (67 : Nat))) true :: rdOf B)) (.need True (.hyp True (.br (Ex.ltQ dst (0 : Int)) (.leaf (Value.bool false, Blk.mk (Let.n (ns 2)) (.obj (.cells (Array.mk [.int .i64 loc, av]) (37 : Nat))) true :: Blk.mk (Let.n (ns 1)) (.obj (.cells (Array.mk [.int .i64 cells, tv]) (27 : Nat))) true :: Blk.mk (Let.n (ns 0)) (.obj (.cells (Array.mk [.int .i64 (6 : Int), .int .i64 dst, .int .i64 base, .int .i64 size, iv, ev, fv, .int .i64 mode, .int .i64 to, .int .i64 line, .int .i64 col]) (67 : Nat))) true :: rdOf B)) (.br (bif true then bif
 false then true else Ex.leQ loc dst else false) (.leaf (Value.bool false, Blk.mk (Let.n (ns 2)) (.obj (.cells (Array.mk [.int .i64 loc, av]) (37 : Nat))) true :: Blk.mk (Let.n (ns 1)) (.obj (.cells (Array.mk [.int .i64 cells, tv]) (27 : Nat))) true :: Blk.mk (Let.n (ns 0)) (.obj (.cells (Array.mk [.int .i64 (6 : Int), .int .i64 dst, .int .i64 base, .int .i64 size, iv, ev, fv, .int .i64 mode, .int .i64 to, .int .i64 line, .int .i64 col]) (67 : Nat))) true :: rdOf B)) (.need True (.hyp True (.need True (.hyp True (.br (Ex.eqQ size (0 : Int)) (.br (Ex.ltQ base (0 : Int)) (.leaf (Value.bool false, Blk.mk (Let.n (ns 2)) (.obj (.cells (Array.mk [.int .i64 loc, av]) (37 : Nat))) true :: Blk.mk (Let.n (ns 1)) (.obj (.cells (Array.mk [.int .i64 cells, tv]) (27 : Nat))) true :: Blk.mk (Let.n (ns 0)) (.obj (.cells (Array.mk [.int .i64 (6 : Int), .int .i64 dst, .int .i64 base, .int .i64 size, iv, ev, fv, .int .i64 mode, .int .i64 to, .int .i64 line, .int .i64 col]) (67 : Nat))) true :: rdOf B))
 (.br (bif false then true else Ex.ltQ (Ex.wrapQ .i64 (Ex.subQ' cells (1 : Int))) base) (.leaf (Value.bool false, Blk.mk (Let.n (ns 2)) (.obj (.cells (Array.mk [.int .i64 loc, av]) (37 : Nat))) true :: Blk.mk (Let.n (ns 1)) (.obj (.cells (Array.mk [.int .i64 cells, tv]) (27 : Nat))) true :: Blk.mk (Let.n (ns 0)) (.obj (.cells (Array.mk [.int .i64 (6 : Int), .int .i64 dst, .int .i64 base, .int .i64 size, iv, ev, fv, .int .i64 mode, .int .i64 to, .int .i64 line, .int .i64 col]) (67 : Nat))) true :: rdOf B)) (.br (Ex.eqQ size (0 : Int)) (.need (∃ (p : Option Addr), ∃ (n : Nat), ∃ (c : Nat), iv = Value.slice p n c) (.br (bif false then true else bif true then Ex.ltQ (0 : Int) (Int.ofNat (Sy.lenS iv)) else false) (.leaf (Value.bool false, Blk.mk (Let.n (ns 2)) (.obj (.cells (Array.mk [.int .i64 loc, av]) (37 : Nat))) true :: Blk.mk (Let.n (ns 1)) (.obj (.cells (Array.mk [.int .i64 cells, tv]) (27 : Nat))) true :: Blk.mk (Let.n (ns 0)) (.obj (.cells (Array.mk [.int .i64 (6 : Int), .int .i64
 dst, .int .i64 base, .int .i64 size, iv, ev, fv, .int .i64 mode, .int .i64 to, .int .i64 line, .int .i64 col]) (67 : Nat))) true :: rdOf B)) (.br (Ex.ltQ (0 : Int) size) (.need (NodesR B iv ix ∧ List.length ix < (4398046511104 : Nat)) (.need (Sy.GotL (rdOf B) B) (.hyp True (.br (bif false then true else bif true then !exprR loc ix else false) (.leaf (Value.bool false, Blk.mk (Let.n (ns 2)) (.obj (.cells (Array.mk [.int .i64 loc, av]) (37 : Nat))) true :: Blk.mk (Let.n (ns 1)) (.obj (.cells (Array.mk [.int .i64 cells, tv]) (27 : Nat))) true :: Blk.mk (Let.n (ns 0)) (.obj (.cells (Array.mk [.int .i64 (6 : Int), .int .i64 dst, .int .i64 base, .int .i64 size, iv, ev, fv, .int .i64 mode, .int .i64 to, .int .i64 line, .int .i64 col]) (67 : Nat))) true :: rdOf B)) (.need (NodesR B ev e ∧ List.length e < (4398046511104 : Nat)) (.need (Sy.GotL (rdOf B) B) (.hyp True (.br (bif true then !exprR loc e else false) (.leaf (Value.bool false, Blk.mk (Let.n (ns 2)) (.obj (.cells (Array.mk [.int .i64
 loc, av]) (37 : Nat))) true :: Blk.mk (Let.n (ns 1)) (.obj (.cells (Array.mk [.int .i64 cells, tv]) (27 : Nat))) true :: Blk.mk (Let.n (ns 0)) (.obj (.cells (Array.mk [.int .i64 (6 : Int), .int .i64 dst, .int .i64 base, .int .i64 size, iv, ev, fv, .int .i64 mode, .int .i64 to, .int .i64 line, .int .i64 col]) (67 : Nat))) true :: rdOf B)) (.need (NodesR B fv f ∧ List.length f < (4398046511104 : Nat)) (.need (Sy.GotL (rdOf B) B) (.hyp True (.br (bif true then !exprR loc f else false) (.leaf (Value.bool false, Blk.mk (Let.n (ns 2)) (.obj (.cells (Array.mk [.int .i64 loc, av]) (37 : Nat))) true :: Blk.mk (Let.n (ns 1)) (.obj (.cells (Array.mk [.int .i64 cells, tv]) (27 : Nat))) true :: Blk.mk (Let.n (ns 0)) (.obj (.cells (Array.mk [.int .i64 (6 : Int), .int .i64 dst, .int .i64 base, .int .i64 size, iv, ev, fv, .int .i64 mode, .int .i64 to, .int .i64 line, .int .i64 col]) (67 : Nat))) true :: rdOf B)) (.leaf (Value.bool (Ex.eqQ to (0 : Int)), Blk.mk (Let.n (ns 2)) (.obj (.cells (Array.mk
 [.int .i64 loc, av]) (37 : Nat))) true :: Blk.mk (Let.n (ns 1)) (.obj (.cells (Array.mk [.int .i64 cells, tv]) (27 : Nat))) true :: Blk.mk (Let.n (ns 0)) (.obj (.cells (Array.mk [.int .i64 (6 : Int), .int .i64 dst, .int .i64 base, .int .i64 size, iv, ev, fv, .int .i64 mode, .int .i64 to, .int .i64 line, .int .i64 col]) (67 : Nat))) true :: rdOf B)))))))))))))) (.need (NodesR B ev e ∧ List.length e < (4398046511104 : Nat)) (.need (Sy.GotL (rdOf B) B) (.hyp True (.br (bif true then !exprR loc e else false) (.leaf (Value.bool false, Blk.mk (Let.n (ns 2)) (.obj (.cells (Array.mk [.int .i64 loc, av]) (37 : Nat))) true :: Blk.mk (Let.n (ns 1)) (.obj (.cells (Array.mk [.int .i64 cells, tv]) (27 : Nat))) true :: Blk.mk (Let.n (ns 0)) (.obj (.cells (Array.mk [.int .i64 (6 : Int), .int .i64 dst, .int .i64 base, .int .i64 size, iv, ev, fv, .int .i64 mode, .int .i64 to, .int .i64 line, .int .i64 col]) (67 : Nat))) true :: rdOf B)) (.need (NodesR B fv f ∧ List.length f < (4398046511104 : Nat))
 (.need (Sy.GotL (rdOf B) B) (.hyp True (.br (bif true then !exprR loc f else false) (.leaf (Value.bool false, Blk.mk (Let.n (ns 2)) (.obj (.cells (Array.mk [.int .i64 loc, av]) (37 : Nat))) true :: Blk.mk (Let.n (ns 1)) (.obj (.cells (Array.mk [.int .i64 cells, tv]) (27 : Nat))) true :: Blk.mk (Let.n (ns 0)) (.obj (.cells (Array.mk [.int .i64 (6 : Int), .int .i64 dst, .int .i64 base, .int .i64 size, iv, ev, fv, .int .i64 mode, .int .i64 to, .int .i64 line, .int .i64 col]) (67 : Nat))) true :: rdOf B)) (.leaf (Value.bool (Ex.eqQ to (0 : Int)), Blk.mk (Let.n (ns 2)) (.obj (.cells (Array.mk [.int .i64 loc, av]) (37 : Nat))) true :: Blk.mk (Let.n (ns 1)) (.obj (.cells (Array.mk [.int .i64 cells, tv]) (27 : Nat))) true :: Blk.mk (Let.n (ns 0)) (.obj (.cells (Array.mk [.int .i64 (6 : Int), .int .i64 dst, .int .i64 base, .int .i64 size, iv, ev, fv, .int .i64 mode, .int .i64 to, .int .i64 line, .int .i64 col]) (67 : Nat))) true :: rdOf B))))))))))))) (.br (Ex.ltQ (0 : Int) size) (.need (NodesR
 B iv ix ∧ List.length ix < (4398046511104 : Nat)) (.need (Sy.GotL (rdOf B) B) (.hyp True (.br (bif false then true else bif true then !exprR loc ix else false) (.leaf (Value.bool false, Blk.mk (Let.n (ns 2)) (.obj (.cells (Array.mk [.int .i64 loc, av]) (37 : Nat))) true :: Blk.mk (Let.n (ns 1)) (.obj (.cells (Array.mk [.int .i64 cells, tv]) (27 : Nat))) true :: Blk.mk (Let.n (ns 0)) (.obj (.cells (Array.mk [.int .i64 (6 : Int), .int .i64 dst, .int .i64 base, .int .i64 size, iv, ev, fv, .int .i64 mode, .int .i64 to, .int .i64 line, .int .i64 col]) (67 : Nat))) true :: rdOf B)) (.need (NodesR B ev e ∧ List.length e < (4398046511104 : Nat)) (.need (Sy.GotL (rdOf B) B) (.hyp True (.br (bif true then !exprR loc e else false) (.leaf (Value.bool false, Blk.mk (Let.n (ns 2)) (.obj (.cells (Array.mk [.int .i64 loc, av]) (37 : Nat))) true :: Blk.mk (Let.n (ns 1)) (.obj (.cells (Array.mk [.int .i64 cells, tv]) (27 : Nat))) true :: Blk.mk (Let.n (ns 0)) (.obj (.cells (Array.mk [.int .i64 (6 : Int),
 .int .i64 dst, .int .i64 base, .int .i64 size, iv, ev, fv, .int .i64 mode, .int .i64 to, .int .i64 line, .int .i64 col]) (67 : Nat))) true :: rdOf B)) (.need (NodesR B fv f ∧ List.length f < (4398046511104 : Nat)) (.need (Sy.GotL (rdOf B) B) (.hyp True (.br (bif true then !exprR loc f else false) (.leaf (Value.bool false, Blk.mk (Let.n (ns 2)) (.obj (.cells (Array.mk [.int .i64 loc, av]) (37 : Nat))) true :: Blk.mk (Let.n (ns 1)) (.obj (.cells (Array.mk [.int .i64 cells, tv]) (27 : Nat))) true :: Blk.mk (Let.n (ns 0)) (.obj (.cells (Array.mk [.int .i64 (6 : Int), .int .i64 dst, .int .i64 base, .int .i64 size, iv, ev, fv, .int .i64 mode, .int .i64 to, .int .i64 line, .int .i64 col]) (67 : Nat))) true :: rdOf B)) (.leaf (Value.bool (Ex.eqQ to (0 : Int)), Blk.mk (Let.n (ns 2)) (.obj (.cells (Array.mk [.int .i64 loc, av]) (37 : Nat))) true :: Blk.mk (Let.n (ns 1)) (.obj (.cells (Array.mk [.int .i64 cells, tv]) (27 : Nat))) true :: Blk.mk (Let.n (ns 0)) (.obj (.cells (Array.mk [.int .i64 (6
 : Int), .int .i64 dst, .int .i64 base, .int .i64 size, iv, ev, fv, .int .i64 mode, .int .i64 to, .int .i64 line, .int .i64 col]) (67 : Nat))) true :: rdOf B)))))))))))))) (.need (NodesR B ev e ∧ List.length e < (4398046511104 : Nat)) (.need (Sy.GotL (rdOf B) B) (.hyp True (.br (bif true then !exprR loc e else false) (.leaf (Value.bool false, Blk.mk (Let.n (ns 2)) (.obj (.cells (Array.mk [.int .i64 loc, av]) (37 : Nat))) true :: Blk.mk (Let.n (ns 1)) (.obj (.cells (Array.mk [.int .i64 cells, tv]) (27 : Nat))) true :: Blk.mk (Let.n (ns 0)) (.obj (.cells (Array.mk [.int .i64 (6 : Int), .int .i64 dst, .int .i64 base, .int .i64 size, iv, ev, fv, .int .i64 mode, .int .i64 to, .int .i64 line, .int .i64 col]) (67 : Nat))) true :: rdOf B)) (.need (NodesR B fv f ∧ List.length f < (4398046511104 : Nat)) (.need (Sy.GotL (rdOf B) B) (.hyp True (.br (bif true then !exprR loc f else false) (.leaf (Value.bool false, Blk.mk (Let.n (ns 2)) (.obj (.cells (Array.mk [.int .i64 loc, av]) (37 : Nat))) true ::
 Blk.mk (Let.n (ns 1)) (.obj (.cells (Array.mk [.int .i64 cells, tv]) (27 : Nat))) true :: Blk.mk (Let.n (ns 0)) (.obj (.cells (Array.mk [.int .i64 (6 : Int), .int .i64 dst, .int .i64 base, .int .i64 size, iv, ev, fv, .int .i64 mode, .int .i64 to, .int .i64 line, .int .i64 col]) (67 : Nat))) true :: rdOf B)) (.leaf (Value.bool (Ex.eqQ to (0 : Int)), Blk.mk (Let.n (ns 2)) (.obj (.cells (Array.mk [.int .i64 loc, av]) (37 : Nat))) true :: Blk.mk (Let.n (ns 1)) (.obj (.cells (Array.mk [.int .i64 cells, tv]) (27 : Nat))) true :: Blk.mk (Let.n (ns 0)) (.obj (.cells (Array.mk [.int .i64 (6 : Int), .int .i64 dst, .int .i64 base, .int .i64 size, iv, ev, fv, .int .i64 mode, .int .i64 to, .int .i64 line, .int .i64 col]) (67 : Nat))) true :: rdOf B)))))))))))))) (.need True (.hyp True (.br (!powF size) (.leaf (Value.bool false, Blk.mk (Let.n (ns 2)) (.obj (.cells (Array.mk [.int .i64 loc, av]) (37 : Nat))) true :: Blk.mk (Let.n (ns 1)) (.obj (.cells (Array.mk [.int .i64 cells, tv]) (27 : Nat))) true
 :: Blk.mk (Let.n (ns 0)) (.obj (.cells (Array.mk [.int .i64 (6 : Int), .int .i64 dst, .int .i64 base, .int .i64 size, iv, ev, fv, .int .i64 mode, .int .i64 to, .int .i64 line, .int .i64 col]) (67 : Nat))) true :: rdOf B)) (.br (Ex.ltQ base (0 : Int)) (.leaf (Value.bool false, Blk.mk (Let.n (ns 2)) (.obj (.cells (Array.mk [.int .i64 loc, av]) (37 : Nat))) true :: Blk.mk (Let.n (ns 1)) (.obj (.cells (Array.mk [.int .i64 cells, tv]) (27 : Nat))) true :: Blk.mk (Let.n (ns 0)) (.obj (.cells (Array.mk [.int .i64 (6 : Int), .int .i64 dst, .int .i64 base, .int .i64 size, iv, ev, fv, .int .i64 mode, .int .i64 to, .int .i64 line, .int .i64 col]) (67 : Nat))) true :: rdOf B)) (.br (bif false then true else Ex.ltQ (Ex.wrapQ .i64 (Ex.subQ' cells size)) base) (.leaf (Value.bool false, Blk.mk (Let.n (ns 2)) (.obj (.cells (Array.mk [.int .i64 loc, av]) (37 : Nat))) true :: Blk.mk (Let.n (ns 1)) (.obj (.cells (Array.mk [.int .i64 cells, tv]) (27 : Nat))) true :: Blk.mk (Let.n (ns 0)) (.obj (.cells
 (Array.mk [.int .i64 (6 : Int), .int .i64 dst, .int .i64 base, .int .i64 size, iv, ev, fv, .int .i64 mode, .int .i64 to, .int .i64 line, .int .i64 col]) (67 : Nat))) true :: rdOf B)) (.br (Ex.eqQ size (0 : Int)) (.need (∃ (p : Option Addr), ∃ (n : Nat), ∃ (c : Nat), iv = Value.slice p n c) (.br (bif false then true else bif true then Ex.ltQ (0 : Int) (Int.ofNat (Sy.lenS iv)) else false) (.leaf (Value.bool false, Blk.mk (Let.n (ns 2)) (.obj (.cells (Array.mk [.int .i64 loc, av]) (37 : Nat))) true :: Blk.mk (Let.n (ns 1)) (.obj (.cells (Array.mk [.int .i64 cells, tv]) (27 : Nat))) true :: Blk.mk (Let.n (ns 0)) (.obj (.cells (Array.mk [.int .i64 (6 : Int), .int .i64 dst, .int .i64 base, .int .i64 size, iv, ev, fv, .int .i64 mode, .int .i64 to, .int .i64 line, .int .i64 col]) (67 : Nat))) true :: rdOf B)) (.br (Ex.ltQ (0 : Int) size) (.need (NodesR B iv ix ∧ List.length ix < (4398046511104 : Nat)) (.need (Sy.GotL (rdOf B) B) (.hyp True (.br (bif false then true else bif true then !exprR loc
 ix else false) (.leaf (Value.bool false, Blk.mk (Let.n (ns 2)) (.obj (.cells (Array.mk [.int .i64 loc, av]) (37 : Nat))) true :: Blk.mk (Let.n (ns 1)) (.obj (.cells (Array.mk [.int .i64 cells, tv]) (27 : Nat))) true :: Blk.mk (Let.n (ns 0)) (.obj (.cells (Array.mk [.int .i64 (6 : Int), .int .i64 dst, .int .i64 base, .int .i64 size, iv, ev, fv, .int .i64 mode, .int .i64 to, .int .i64 line, .int .i64 col]) (67 : Nat))) true :: rdOf B)) (.need (NodesR B ev e ∧ List.length e < (4398046511104 : Nat)) (.need (Sy.GotL (rdOf B) B) (.hyp True (.br (bif true then !exprR loc e else false) (.leaf (Value.bool false, Blk.mk (Let.n (ns 2)) (.obj (.cells (Array.mk [.int .i64 loc, av]) (37 : Nat))) true :: Blk.mk (Let.n (ns 1)) (.obj (.cells (Array.mk [.int .i64 cells, tv]) (27 : Nat))) true :: Blk.mk (Let.n (ns 0)) (.obj (.cells (Array.mk [.int .i64 (6 : Int), .int .i64 dst, .int .i64 base, .int .i64 size, iv, ev, fv, .int .i64 mode, .int .i64 to, .int .i64 line, .int .i64 col]) (67 : Nat))) true ::
 rdOf B)) (.need (NodesR B fv f ∧ List.length f < (4398046511104 : Nat)) (.need (Sy.GotL (rdOf B) B) (.hyp True (.br (bif true then !exprR loc f else false) (.leaf (Value.bool false, Blk.mk (Let.n (ns 2)) (.obj (.cells (Array.mk [.int .i64 loc, av]) (37 : Nat))) true :: Blk.mk (Let.n (ns 1)) (.obj (.cells (Array.mk [.int .i64 cells, tv]) (27 : Nat))) true :: Blk.mk (Let.n (ns 0)) (.obj (.cells (Array.mk [.int .i64 (6 : Int), .int .i64 dst, .int .i64 base, .int .i64 size, iv, ev, fv, .int .i64 mode, .int .i64 to, .int .i64 line, .int .i64 col]) (67 : Nat))) true :: rdOf B)) (.leaf (Value.bool (Ex.eqQ to (0 : Int)), Blk.mk (Let.n (ns 2)) (.obj (.cells (Array.mk [.int .i64 loc, av]) (37 : Nat))) true :: Blk.mk (Let.n (ns 1)) (.obj (.cells (Array.mk [.int .i64 cells, tv]) (27 : Nat))) true :: Blk.mk (Let.n (ns 0)) (.obj (.cells (Array.mk [.int .i64 (6 : Int), .int .i64 dst, .int .i64 base, .int .i64 size, iv, ev, fv, .int .i64 mode, .int .i64 to, .int .i64 line, .int .i64 col]) (67 : Nat)))
 true :: rdOf B)))))))))))))) (.need (NodesR B ev e ∧ List.length e < (4398046511104 : Nat)) (.need (Sy.GotL (rdOf B) B) (.hyp True (.br (bif true then !exprR loc e else false) (.leaf (Value.bool false, Blk.mk (Let.n (ns 2)) (.obj (.cells (Array.mk [.int .i64 loc, av]) (37 : Nat))) true :: Blk.mk (Let.n (ns 1)) (.obj (.cells (Array.mk [.int .i64 cells, tv]) (27 : Nat))) true :: Blk.mk (Let.n (ns 0)) (.obj (.cells (Array.mk [.int .i64 (6 : Int), .int .i64 dst, .int .i64 base, .int .i64 size, iv, ev, fv, .int .i64 mode, .int .i64 to, .int .i64 line, .int .i64 col]) (67 : Nat))) true :: rdOf B)) (.need (NodesR B fv f ∧ List.length f < (4398046511104 : Nat)) (.need (Sy.GotL (rdOf B) B) (.hyp True (.br (bif true then !exprR loc f else false) (.leaf (Value.bool false, Blk.mk (Let.n (ns 2)) (.obj (.cells (Array.mk [.int .i64 loc, av]) (37 : Nat))) true :: Blk.mk (Let.n (ns 1)) (.obj (.cells (Array.mk [.int .i64 cells, tv]) (27 : Nat))) true :: Blk.mk (Let.n (ns 0)) (.obj (.cells (Array.mk [.int
 .i64 (6 : Int), .int .i64 dst, .int .i64 base, .int .i64 size, iv, ev, fv, .int .i64 mode, .int .i64 to, .int .i64 line, .int .i64 col]) (67 : Nat))) true :: rdOf B)) (.leaf (Value.bool (Ex.eqQ to (0 : Int)), Blk.mk (Let.n (ns 2)) (.obj (.cells (Array.mk [.int .i64 loc, av]) (37 : Nat))) true :: Blk.mk (Let.n (ns 1)) (.obj (.cells (Array.mk [.int .i64 cells, tv]) (27 : Nat))) true :: Blk.mk (Let.n (ns 0)) (.obj (.cells (Array.mk [.int .i64 (6 : Int), .int .i64 dst, .int .i64 base, .int .i64 size, iv, ev, fv, .int .i64 mode, .int .i64 to, .int .i64 line, .int .i64 col]) (67 : Nat))) true :: rdOf B))))))))))))) (.br (Ex.ltQ (0 : Int) size) (.need (NodesR B iv ix ∧ List.length ix < (4398046511104 : Nat)) (.need (Sy.GotL (rdOf B) B) (.hyp True (.br (bif false then true else bif true then !exprR loc ix else false) (.leaf (Value.bool false, Blk.mk (Let.n (ns 2)) (.obj (.cells (Array.mk [.int .i64 loc, av]) (37 : Nat))) true :: Blk.mk (Let.n (ns 1)) (.obj (.cells (Array.mk [.int .i64 cells,
 tv]) (27 : Nat))) true :: Blk.mk (Let.n (ns 0)) (.obj (.cells (Array.mk [.int .i64 (6 : Int), .int .i64 dst, .int .i64 base, .int .i64 size, iv, ev, fv, .int .i64 mode, .int .i64 to, .int .i64 line, .int .i64 col]) (67 : Nat))) true :: rdOf B)) (.need (NodesR B ev e ∧ List.length e < (4398046511104 : Nat)) (.need (Sy.GotL (rdOf B) B) (.hyp True (.br (bif true then !exprR loc e else false) (.leaf (Value.bool false, Blk.mk (Let.n (ns 2)) (.obj (.cells (Array.mk [.int .i64 loc, av]) (37 : Nat))) true :: Blk.mk (Let.n (ns 1)) (.obj (.cells (Array.mk [.int .i64 cells, tv]) (27 : Nat))) true :: Blk.mk (Let.n (ns 0)) (.obj (.cells (Array.mk [.int .i64 (6 : Int), .int .i64 dst, .int .i64 base, .int .i64 size, iv, ev, fv, .int .i64 mode, .int .i64 to, .int .i64 line, .int .i64 col]) (67 : Nat))) true :: rdOf B)) (.need (NodesR B fv f ∧ List.length f < (4398046511104 : Nat)) (.need (Sy.GotL (rdOf B) B) (.hyp True (.br (bif true then !exprR loc f else false) (.leaf (Value.bool false, Blk.mk (Let.n
 (ns 2)) (.obj (.cells (Array.mk [.int .i64 loc, av]) (37 : Nat))) true :: Blk.mk (Let.n (ns 1)) (.obj (.cells (Array.mk [.int .i64 cells, tv]) (27 : Nat))) true :: Blk.mk (Let.n (ns 0)) (.obj (.cells (Array.mk [.int .i64 (6 : Int), .int .i64 dst, .int .i64 base, .int .i64 size, iv, ev, fv, .int .i64 mode, .int .i64 to, .int .i64 line, .int .i64 col]) (67 : Nat))) true :: rdOf B)) (.leaf (Value.bool (Ex.eqQ to (0 : Int)), Blk.mk (Let.n (ns 2)) (.obj (.cells (Array.mk [.int .i64 loc, av]) (37 : Nat))) true :: Blk.mk (Let.n (ns 1)) (.obj (.cells (Array.mk [.int .i64 cells, tv]) (27 : Nat))) true :: Blk.mk (Let.n (ns 0)) (.obj (.cells (Array.mk [.int .i64 (6 : Int), .int .i64 dst, .int .i64 base, .int .i64 size, iv, ev, fv, .int .i64 mode, .int .i64 to, .int .i64 line, .int .i64 col]) (67 : Nat))) true :: rdOf B)))))))))))))) (.need (NodesR B ev e ∧ List.length e < (4398046511104 : Nat)) (.need (Sy.GotL (rdOf B) B) (.hyp True (.br (bif true then !exprR loc e else false) (.leaf (Value.bool
 false, Blk.mk (Let.n (ns 2)) (.obj (.cells (Array.mk [.int .i64 loc, av]) (37 : Nat))) true :: Blk.mk (Let.n (ns 1)) (.obj (.cells (Array.mk [.int .i64 cells, tv]) (27 : Nat))) true :: Blk.mk (Let.n (ns 0)) (.obj (.cells (Array.mk [.int .i64 (6 : Int), .int .i64 dst, .int .i64 base, .int .i64 size, iv, ev, fv, .int .i64 mode, .int .i64 to, .int .i64 line, .int .i64 col]) (67 : Nat))) true :: rdOf B)) (.need (NodesR B fv f ∧ List.length f < (4398046511104 : Nat)) (.need (Sy.GotL (rdOf B) B) (.hyp True (.br (bif true then !exprR loc f else false) (.leaf (Value.bool false, Blk.mk (Let.n (ns 2)) (.obj (.cells (Array.mk [.int .i64 loc, av]) (37 : Nat))) true :: Blk.mk (Let.n (ns 1)) (.obj (.cells (Array.mk [.int .i64 cells, tv]) (27 : Nat))) true :: Blk.mk (Let.n (ns 0)) (.obj (.cells (Array.mk [.int .i64 (6 : Int), .int .i64 dst, .int .i64 base, .int .i64 size, iv, ev, fv, .int .i64 mode, .int .i64 to, .int .i64 line, .int .i64 col]) (67 : Nat))) true :: rdOf B)) (.leaf (Value.bool (Ex.eqQ
 to (0 : Int)), Blk.mk (Let.n (ns 2)) (.obj (.cells (Array.mk [.int .i64 loc, av]) (37 : Nat))) true :: Blk.mk (Let.n (ns 1)) (.obj (.cells (Array.mk [.int .i64 cells, tv]) (27 : Nat))) true :: Blk.mk (Let.n (ns 0)) (.obj (.cells (Array.mk [.int .i64 (6 : Int), .int .i64 dst, .int .i64 base, .int .i64 size, iv, ev, fv, .int .i64 mode, .int .i64 to, .int .i64 line, .int .i64 col]) (67 : Nat))) true :: rdOf B))))))))))))))))))))))))))))

theorem rac6_run (B : List (Nat × Sy.Cont)) (dst base size mode to line col : Int) (iv ev fv tv av : Value) (ix e f : List NodeD) (cells loc : Int) : Sy.Ran (Sy.inB Try.prog (ctxR B (6) size mode iv ev fv ix e f loc) 50 fRAct #[.agg #[.int .i64 (6), .int .i64 dst, .int .i64 base, .int .i64 size, iv, ev, fv, .int .i64 mode, .int .i64 to, .int .i64 line, .int .i64 col], progV cells tv, thrV loc av] (rdOf B)) rac6_o (rac6_R B dst base size mode to line col iv ev fv tv av ix e f cells loc) := ⟨fun ns => by kernel_rfl, fun ns => by kernel_rfl⟩
def rac7_o : Sy.O := (Sy.O.pack 28 0x400000020000010000000020000000040 (Sy.O.fork Sy.O.nil (Sy.O.pack 31 0x10000000200000010000000000040000040 (Sy.O.fork Sy.O.nil (Sy.O.pack 20 0x804008040080400040000040 (Sy.O.fork Sy.O.nil (Sy.O.pack 36 0x200080000000000000000000000000020000000040 (Sy.O.fork Sy.O.nil (Sy.O.pack 25 0x4001000000002000000000000040 (Sy.O.fork Sy.O.nil (Sy.O.pack 16 0x800000020000000040 Sy.O.nil)))))))))))
noncomputable def rac7_R (B : List (Nat × Sy.Cont)) (dst : Int) (base : Int) (size : Int) (mode : Int) (to : Int) (line : Int) (col : Int) (iv : Value) (ev : Value) (fv : Value) (tv : Value) (av : Value) (ix : List NodeD) (e : List NodeD) (f : List NodeD) (cells : Int) (loc : Int) (ns : Nat → Sy.Let) : Sy.Res (Value × List Blk) := .need True (.hyp True (.br (bif false then true else !mayF (7 : Int) mode) (.leaf (Value.bool false, Blk.mk (Let.n (ns 2)) (.obj (.cells (Array.mk [.int .i64 loc, av]) (37 : Nat))) true :: Blk.mk (Let.n (ns 1)) (.obj (.cells (Array.mk [.int .i64 cells, tv]) (27 : Nat))) true :: Blk.mk (Let.n (ns 0)) (.obj (.cells (Array.mk [.int .i64 (7 : Int), .int .i64 dst, .int .i64 base, .int .i64 size, iv, ev, fv, .int .i64 mode, .int .i64 to, .int .i64 line, .int .i64 col]) (67 : Nat))) true :: rdOf B)) (.need True (.hyp True (.need True (.hyp True (.br (bif false then true else bif true then !Ex.eqQ dst (0 : Int) else false) (.leaf (Value.bool false, Blk.mk (Let.n (ns 2)) (.obj (.cells (Array.mk [.int .i64 loc, av]) (37 : Nat))) true :: Blk.mk (Let.n (ns 1)) (.obj (.cells (Array.mk [.int .i64 cells, tv]) (27 : Nat))) true :: Blk.mk (Let.n (ns 0)) (.obj (.cells (Array.mk [.int .i64 (7 : Int), .int .i64 dst, .int .i64 base, .int .i64 size, iv, ev, fv, .int .i64 mode, .int .i64 to, .int .i64 line,
 .int .i64 col]) (67 : Nat))) true :: rdOf B)) (.need True (.hyp True (.need (∃ (p : Option Addr), ∃ (n : Nat), ∃ (c : Nat), iv = Value.slice p n c) (.br (bif bif !Ex.eqQ base (0 : Int) then true else !Ex.eqQ size (0 : Int) then true else Ex.ltQ (0 : Int) (Int.ofNat (Sy.lenS iv))) (.leaf (Value.bool false, Blk.mk (Let.n (ns 2)) (.obj (.cells (Array.mk [.int .i64 loc, av]) (37 : Nat))) true :: Blk.mk (Let.n (ns 1)) (.obj (.cells (Array.mk [.int .i64 cells, tv]) (27 : Nat))) true :: Blk.mk (Let.n (ns 0)) (.obj (.cells (Array.mk [.int .i64 (7 : Int), .int .i64 dst, .int .i64 base, .int .i64 size, iv, ev, fv, .int .i64 mode, .int .i64 to, .int .i64 line, .int .i64 col]) (67 : Nat))) true :: rdOf B)) (.need (∃ (p : Option Addr), ∃ (n : Nat), ∃ (c : Nat), ev = Value.slice p n c) (.br (bif false then true else bif true then Ex.ltQ (0 : Int) (Int.ofNat (Sy.lenS ev)) else false) (.leaf (Value.bool false, Blk.mk (Let.n (ns 2)) (.obj (.cells (Array.mk [.int .i64 loc, av]) (37 : Nat))) true ::
 Blk.mk (Let.n (ns 1)) (.obj (.cells (Array.mk [.int .i64 cells, tv]) (27 : Nat))) true :: Blk.mk (Let.n (ns 0)) (.obj (.cells (Array.mk [.int .i64 (7 : Int), .int .i64 dst, .int .i64 base, .int .i64 size, iv, ev, fv, .int .i64 mode, .int .i64 to, .int .i64 line, .int .i64 col]) (67 : Nat))) true :: rdOf B)) (.need (∃ (p : Option Addr), ∃ (n : Nat), ∃ (c : Nat), fv = Value.slice p n c) (.br (bif false then true else bif true then Ex.ltQ (0 : Int) (Int.ofNat (Sy.lenS fv)) else false) (.leaf (Value.bool false, Blk.mk (Let.n (ns 2)) (.obj (.cells (Array.mk [.int .i64 loc, av]) (37 : Nat))) true :: Blk.mk (Let.n (ns 1)) (.obj (.cells (Array.mk [.int .i64 cells, tv]) (27 : Nat))) true :: Blk.mk (Let.n (ns 0)) (.obj (.cells (Array.mk [.int .i64 (7 : Int), .int .i64 dst, .int .i64 base, .int .i64 size, iv, ev, fv, .int .i64 mode, .int .i64 to, .int .i64 line, .int .i64 col]) (67 : Nat))) true :: rdOf B)) (.leaf (Value.bool (Ex.eqQ to (0 : Int)), Blk.mk (Let.n (ns 2)) (.obj (.cells (Array.mk
 [.int .i64 loc, av]) (37 : Nat))) true :: Blk.mk (Let.n (ns 1)) (.obj (.cells (Array.mk [.int .i64 cells, tv]) (27 : Nat))) true :: Blk.mk (Let.n (ns 0)) (.obj (.cells (Array.mk [.int .i64 (7 : Int), .int .i64 dst, .int .i64 base, .int .i64 size, iv, ev, fv, .int .i64 mode, .int .i64 to, .int .i64 line, .int .i64 col]) (67 : Nat))) true :: rdOf B)))))))))))))))))

theorem rac7_run (B : List (Nat × Sy.Cont)) (dst base size mode to line col : Int) (iv ev fv tv av : Value) (ix e f : List NodeD) (cells loc : Int) : Sy.Ran (Sy.inB Try.prog (ctxR B (7) size mode iv ev fv ix e f loc) 50 fRAct #[.agg #[.int .i64 (7), .int .i64 dst, .int .i64 base, .int .i64 size, iv, ev, fv, .int .i64 mode, .int .i64 to, .int .i64 line, .int .i64 col], progV cells tv, thrV loc av] (rdOf B)) rac7_o (rac7_R B dst base size mode to line col iv ev fv tv av ix e f cells loc) := ⟨fun ns => by kernel_rfl, fun ns => by kernel_rfl⟩
def rac8_o : Sy.O := (Sy.O.pack 28 0x400000020000010000000020000000040 (Sy.O.fork Sy.O.nil (Sy.O.pack 31 0x10000000200000010000000000040000040 (Sy.O.fork Sy.O.nil (Sy.O.pack 20 0x804008040080400040000040 (Sy.O.fork Sy.O.nil (Sy.O.pack 38 0x100c210000000002000000004000000000020000000040 (Sy.O.fork (Sy.O.pack 4 0x0 Sy.O.nil) (Sy.O.pack 33 0x40010000000020000000000000400000000000 (Sy.O.fork Sy.O.nil (Sy.O.pack 16 0x800000020000000040 Sy.O.nil)))))))))))
noncomputable def rac8_R (B : List (Nat × Sy.Cont)) (dst : Int) (base : Int) (size : Int) (mode : Int) (to : Int) (line : Int) (col : Int) (iv : Value) (ev : Value) (fv : Value) (tv : Value) (av : Value) (ix : List NodeD) (e : List NodeD) (f : List NodeD) (cells : Int) (loc : Int) (ns : Nat → Sy.Let) : Sy.Res (Value × List Blk) := .need True (.hyp True (.br (bif false then true else !mayF (8 : Int) mode) (.leaf (Value.bool false, Blk.mk (Let.n (ns 2)) (.obj (.cells (Array.mk [.int .i64 loc, av]) (37 : Nat))) true :: Blk.mk (Let.n (ns 1)) (.obj (.cells (Array.mk [.int .i64 cells, tv]) (27 : Nat))) true :: Blk.mk (Let.n (ns 0)) (.obj (.cells (Array.mk [.int .i64 (8 : Int), .int .i64 dst, .int .i64 base, .int .i64 size, iv, ev, fv, .int .i64 mode, .int .i64 to, .int .i64 line, .int .i64 col]) (67 : Nat))) true :: rdOf B)) (.need True (.hyp True (.need True (.hyp True (.br (bif false then true else bif true then !Ex.eqQ dst (0 : Int) else false) (.leaf (Value.bool false, Blk.mk (Let.n (ns 2)) (.obj (.cells (Array.mk [.int .i64 loc, av]) (37 : Nat))) true :: Blk.mk (Let.n (ns 1)) (.obj (.cells (Array.mk [.int .i64 cells, tv]) (27 : Nat))) true :: Blk.mk (Let.n (ns 0)) (.obj (.cells (Array.mk [.int .i64 (8 : Int), .int .i64 dst, .int .i64 base, .int .i64 size, iv, ev, fv, .int .i64 mode, .int .i64 to, .int .i64 line,
 .int .i64 col]) (67 : Nat))) true :: rdOf B)) (.need True (.hyp True (.need (∃ (p : Option Addr), ∃ (n : Nat), ∃ (c : Nat), iv = Value.slice p n c) (.br (bif bif !Ex.eqQ base (0 : Int) then true else !Ex.eqQ size (0 : Int) then true else Ex.ltQ (0 : Int) (Int.ofNat (Sy.lenS iv))) (.leaf (Value.bool false, Blk.mk (Let.n (ns 2)) (.obj (.cells (Array.mk [.int .i64 loc, av]) (37 : Nat))) true :: Blk.mk (Let.n (ns 1)) (.obj (.cells (Array.mk [.int .i64 cells, tv]) (27 : Nat))) true :: Blk.mk (Let.n (ns 0)) (.obj (.cells (Array.mk [.int .i64 (8 : Int), .int .i64 dst, .int .i64 base, .int .i64 size, iv, ev, fv, .int .i64 mode, .int .i64 to, .int .i64 line, .int .i64 col]) (67 : Nat))) true :: rdOf B)) (.need (NodesR B ev e ∧ List.length e < (4398046511104 : Nat)) (.need (Sy.GotL (rdOf B) B) (.hyp True (.br (bif true then !exprR loc e else false) (.leaf (Value.bool false, Blk.mk (Let.n (ns 2)) (.obj (.cells (Array.mk [.int .i64 loc, av]) (37 : Nat))) true :: Blk.mk (Let.n (ns 1)) (.obj (.cells
 (Array.mk [.int .i64 cells, tv]) (27 : Nat))) true :: Blk.mk (Let.n (ns 0)) (.obj (.cells (Array.mk [.int .i64 (8 : Int), .int .i64 dst, .int .i64 base, .int .i64 size, iv, ev, fv, .int .i64 mode, .int .i64 to, .int .i64 line, .int .i64 col]) (67 : Nat))) true :: rdOf B)) (.need (∃ (p : Option Addr), ∃ (n : Nat), ∃ (c : Nat), fv = Value.slice p n c) (.br (bif false then true else bif true then Ex.ltQ (0 : Int) (Int.ofNat (Sy.lenS fv)) else false) (.leaf (Value.bool false, Blk.mk (Let.n (ns 2)) (.obj (.cells (Array.mk [.int .i64 loc, av]) (37 : Nat))) true :: Blk.mk (Let.n (ns 1)) (.obj (.cells (Array.mk [.int .i64 cells, tv]) (27 : Nat))) true :: Blk.mk (Let.n (ns 0)) (.obj (.cells (Array.mk [.int .i64 (8 : Int), .int .i64 dst, .int .i64 base, .int .i64 size, iv, ev, fv, .int .i64 mode, .int .i64 to, .int .i64 line, .int .i64 col]) (67 : Nat))) true :: rdOf B)) (.leaf (Value.bool (Ex.eqQ to (0 : Int)), Blk.mk (Let.n (ns 2)) (.obj (.cells (Array.mk [.int .i64 loc, av]) (37 : Nat))) true
 :: Blk.mk (Let.n (ns 1)) (.obj (.cells (Array.mk [.int .i64 cells, tv]) (27 : Nat))) true :: Blk.mk (Let.n (ns 0)) (.obj (.cells (Array.mk [.int .i64 (8 : Int), .int .i64 dst, .int .i64 base, .int .i64 size, iv, ev, fv, .int .i64 mode, .int .i64 to, .int .i64 line, .int .i64 col]) (67 : Nat))) true :: rdOf B)))))))))))))))))))

theorem rac8_run (B : List (Nat × Sy.Cont)) (dst base size mode to line col : Int) (iv ev fv tv av : Value) (ix e f : List NodeD) (cells loc : Int) : Sy.Ran (Sy.inB Try.prog (ctxR B (8) size mode iv ev fv ix e f loc) 50 fRAct #[.agg #[.int .i64 (8), .int .i64 dst, .int .i64 base, .int .i64 size, iv, ev, fv, .int .i64 mode, .int .i64 to, .int .i64 line, .int .i64 col], progV cells tv, thrV loc av] (rdOf B)) rac8_o (rac8_R B dst base size mode to line col iv ev fv tv av ix e f cells loc) := ⟨fun ns => by kernel_rfl, fun ns => by kernel_rfl⟩
def rac9_o : Sy.O := (Sy.O.pack 28 0x400000020000010000000020000000040 (Sy.O.fork Sy.O.nil (Sy.O.pack 31 0x10000000200000010000000000040000040 (Sy.O.fork Sy.O.nil (Sy.O.pack 20 0x804008040080400040000040 (Sy.O.fork Sy.O.nil (Sy.O.pack 39 0x1000400000000000000000004000000000020000000040 (Sy.O.fork Sy.O.nil (Sy.O.pack 25 0x4001000000002000000000000040 (Sy.O.fork Sy.O.nil (Sy.O.pack 21 0x10000010020100000000000040 Sy.O.nil)))))))))))
noncomputable def rac9_R (B : List (Nat × Sy.Cont)) (dst : Int) (base : Int) (size : Int) (mode : Int) (to : Int) (line : Int) (col : Int) (iv : Value) (ev : Value) (fv : Value) (tv : Value) (av : Value) (ix : List NodeD) (e : List NodeD) (f : List NodeD) (cells : Int) (loc : Int) (ns : Nat → Sy.Let) : Sy.Res (Value × List Blk) := .need True (.hyp True (.br (bif false then true else !mayF (9 : Int) mode) (.leaf (Value.bool false, Blk.mk (Let.n (ns 2)) (.obj (.cells (Array.mk [.int .i64 loc, av]) (37 : Nat))) true :: Blk.mk (Let.n (ns 1)) (.obj (.cells (Array.mk [.int .i64 cells, tv]) (27 : Nat))) true :: Blk.mk (Let.n (ns 0)) (.obj (.cells (Array.mk [.int .i64 (9 : Int), .int .i64 dst, .int .i64 base, .int .i64 size, iv, ev, fv, .int .i64 mode, .int .i64 to, .int .i64 line, .int .i64 col]) (67 : Nat))) true :: rdOf B)) (.need True (.hyp True (.need True (.hyp True (.br (bif false then true else bif true then !Ex.eqQ dst (0 : Int) else false) (.leaf (Value.bool false, Blk.mk (Let.n (ns 2)) (.obj (.cells (Array.mk [.int .i64 loc, av]) (37 : Nat))) true :: Blk.mk (Let.n (ns 1)) (.obj (.cells (Array.mk [.int .i64 cells, tv]) (27 : Nat))) true :: Blk.mk (Let.n (ns 0)) (.obj (.cells (Array.mk [.int .i64 (9 : Int), .int .i64 dst, .int .i64 base, .int .i64 size, iv, ev, fv, .int .i64 mode, .int .i64 to, .int .i64 line,
 .int .i64 col]) (67 : Nat))) true :: rdOf B)) (.need True (.hyp True (.need (∃ (p : Option Addr), ∃ (n : Nat), ∃ (c : Nat), iv = Value.slice p n c) (.br (bif bif !Ex.eqQ base (0 : Int) then true else !Ex.eqQ size (0 : Int) then true else Ex.ltQ (0 : Int) (Int.ofNat (Sy.lenS iv))) (.leaf (Value.bool false, Blk.mk (Let.n (ns 2)) (.obj (.cells (Array.mk [.int .i64 loc, av]) (37 : Nat))) true :: Blk.mk (Let.n (ns 1)) (.obj (.cells (Array.mk [.int .i64 cells, tv]) (27 : Nat))) true :: Blk.mk (Let.n (ns 0)) (.obj (.cells (Array.mk [.int .i64 (9 : Int), .int .i64 dst, .int .i64 base, .int .i64 size, iv, ev, fv, .int .i64 mode, .int .i64 to, .int .i64 line, .int .i64 col]) (67 : Nat))) true :: rdOf B)) (.need (∃ (p : Option Addr), ∃ (n : Nat), ∃ (c : Nat), ev = Value.slice p n c) (.br (bif false then true else bif true then Ex.ltQ (0 : Int) (Int.ofNat (Sy.lenS ev)) else false) (.leaf (Value.bool false, Blk.mk (Let.n (ns 2)) (.obj (.cells (Array.mk [.int .i64 loc, av]) (37 : Nat))) true ::
 Blk.mk (Let.n (ns 1)) (.obj (.cells (Array.mk [.int .i64 cells, tv]) (27 : Nat))) true :: Blk.mk (Let.n (ns 0)) (.obj (.cells (Array.mk [.int .i64 (9 : Int), .int .i64 dst, .int .i64 base, .int .i64 size, iv, ev, fv, .int .i64 mode, .int .i64 to, .int .i64 line, .int .i64 col]) (67 : Nat))) true :: rdOf B)) (.need (∃ (p : Option Addr), ∃ (n : Nat), ∃ (c : Nat), fv = Value.slice p n c) (.br (bif false then true else bif true then Ex.ltQ (0 : Int) (Int.ofNat (Sy.lenS fv)) else false) (.leaf (Value.bool false, Blk.mk (Let.n (ns 2)) (.obj (.cells (Array.mk [.int .i64 loc, av]) (37 : Nat))) true :: Blk.mk (Let.n (ns 1)) (.obj (.cells (Array.mk [.int .i64 cells, tv]) (27 : Nat))) true :: Blk.mk (Let.n (ns 0)) (.obj (.cells (Array.mk [.int .i64 (9 : Int), .int .i64 dst, .int .i64 base, .int .i64 size, iv, ev, fv, .int .i64 mode, .int .i64 to, .int .i64 line, .int .i64 col]) (67 : Nat))) true :: rdOf B)) (.need (∃ (p : Option Addr), ∃ (n : Nat), ∃ (c : Nat), av = Value.slice p n c) (.leaf
 (Value.bool (bif Ex.leQ (0 : Int) to then Ex.leQ to (Int.ofNat (Sy.lenS av)) else false), Blk.mk (Let.n (ns 2)) (.obj (.cells (Array.mk [.int .i64 loc, av]) (37 : Nat))) true :: Blk.mk (Let.n (ns 1)) (.obj (.cells (Array.mk [.int .i64 cells, tv]) (27 : Nat))) true :: Blk.mk (Let.n (ns 0)) (.obj (.cells (Array.mk [.int .i64 (9 : Int), .int .i64 dst, .int .i64 base, .int .i64 size, iv, ev, fv, .int .i64 mode, .int .i64 to, .int .i64 line, .int .i64 col]) (67 : Nat))) true :: rdOf B))))))))))))))))))

theorem rac9_run (B : List (Nat × Sy.Cont)) (dst base size mode to line col : Int) (iv ev fv tv av : Value) (ix e f : List NodeD) (cells loc : Int) : Sy.Ran (Sy.inB Try.prog (ctxR B (9) size mode iv ev fv ix e f loc) 50 fRAct #[.agg #[.int .i64 (9), .int .i64 dst, .int .i64 base, .int .i64 size, iv, ev, fv, .int .i64 mode, .int .i64 to, .int .i64 line, .int .i64 col], progV cells tv, thrV loc av] (rdOf B)) rac9_o (rac9_R B dst base size mode to line col iv ev fv tv av ix e f cells loc) := ⟨fun ns => by kernel_rfl, fun ns => by kernel_rfl⟩
def rac10_o : Sy.O := (Sy.O.pack 28 0x400000020000010000000020000000040 (Sy.O.fork Sy.O.nil (Sy.O.pack 31 0x10000000200000010000000000040000040 (Sy.O.fork Sy.O.nil (Sy.O.pack 20 0x804008040080400040000040 (Sy.O.fork Sy.O.nil (Sy.O.pack 38 0x100c210000000002000000004000000000020000000040 (Sy.O.fork (Sy.O.pack 4 0x0 Sy.O.nil) (Sy.O.pack 33 0x40010000000020000000000000400000000000 (Sy.O.fork Sy.O.nil (Sy.O.pack 24 0x80000080100800000020000000040 Sy.O.nil)))))))))))
noncomputable def rac10_R (B : List (Nat × Sy.Cont)) (dst : Int) (base : Int) (size : Int) (mode : Int) (to : Int) (line : Int) (col : Int) (iv : Value) (ev : Value) (fv : Value) (tv : Value) (av : Value) (ix : List NodeD) (e : List NodeD) (f : List NodeD) (cells : Int) (loc : Int) (ns : Nat → Sy.Let) : Sy.Res (Value × List Blk) := .need True (.hyp True (.br (bif false then true else !mayF (10 : Int) mode) (.leaf (Value.bool false, Blk.mk (Let.n (ns 2)) (.obj (.cells (Array.mk [.int .i64 loc, av]) (37 : Nat))) true :: Blk.mk (Let.n (ns 1)) (.obj (.cells (Array.mk [.int .i64 cells, tv]) (27 : Nat))) true :: Blk.mk (Let.n (ns 0)) (.obj (.cells (Array.mk [.int .i64 (10 : Int), .int .i64 dst, .int .i64 base, .int .i64 size, iv, ev, fv, .int .i64 mode, .int .i64 to, .int .i64 line, .int .i64 col]) (67 : Nat))) true :: rdOf B)) (.need True (.hyp True (.need True (.hyp True (.br (bif false then true else bif true then !Ex.eqQ dst (0 : Int) else false) (.leaf (Value.bool false, Blk.mk (Let.n (ns 2)) (.obj (.cells (Array.mk [.int .i64 loc, av]) (37 : Nat))) true :: Blk.mk (Let.n (ns 1)) (.obj (.cells (Array.mk [.int .i64 cells, tv]) (27 : Nat))) true :: Blk.mk (Let.n (ns 0)) (.obj (.cells (Array.mk [.int .i64 (10 : Int), .int .i64 dst, .int .i64 base, .int .i64 size, iv, ev, fv, .int .i64 mode, .int .i64 to, .int .i64
 line, .int .i64 col]) (67 : Nat))) true :: rdOf B)) (.need True (.hyp True (.need (∃ (p : Option Addr), ∃ (n : Nat), ∃ (c : Nat), iv = Value.slice p n c) (.br (bif bif !Ex.eqQ base (0 : Int) then true else !Ex.eqQ size (0 : Int) then true else Ex.ltQ (0 : Int) (Int.ofNat (Sy.lenS iv))) (.leaf (Value.bool false, Blk.mk (Let.n (ns 2)) (.obj (.cells (Array.mk [.int .i64 loc, av]) (37 : Nat))) true :: Blk.mk (Let.n (ns 1)) (.obj (.cells (Array.mk [.int .i64 cells, tv]) (27 : Nat))) true :: Blk.mk (Let.n (ns 0)) (.obj (.cells (Array.mk [.int .i64 (10 : Int), .int .i64 dst, .int .i64 base, .int .i64 size, iv, ev, fv, .int .i64 mode, .int .i64 to, .int .i64 line, .int .i64 col]) (67 : Nat))) true :: rdOf B)) (.need (NodesR B ev e ∧ List.length e < (4398046511104 : Nat)) (.need (Sy.GotL (rdOf B) B) (.hyp True (.br (bif true then !exprR loc e else false) (.leaf (Value.bool false, Blk.mk (Let.n (ns 2)) (.obj (.cells (Array.mk [.int .i64 loc, av]) (37 : Nat))) true :: Blk.mk (Let.n (ns 1)) (.obj
 (.cells (Array.mk [.int .i64 cells, tv]) (27 : Nat))) true :: Blk.mk (Let.n (ns 0)) (.obj (.cells (Array.mk [.int .i64 (10 : Int), .int .i64 dst, .int .i64 base, .int .i64 size, iv, ev, fv, .int .i64 mode, .int .i64 to, .int .i64 line, .int .i64 col]) (67 : Nat))) true :: rdOf B)) (.need (∃ (p : Option Addr), ∃ (n : Nat), ∃ (c : Nat), fv = Value.slice p n c) (.br (bif false then true else bif true then Ex.ltQ (0 : Int) (Int.ofNat (Sy.lenS fv)) else false) (.leaf (Value.bool false, Blk.mk (Let.n (ns 2)) (.obj (.cells (Array.mk [.int .i64 loc, av]) (37 : Nat))) true :: Blk.mk (Let.n (ns 1)) (.obj (.cells (Array.mk [.int .i64 cells, tv]) (27 : Nat))) true :: Blk.mk (Let.n (ns 0)) (.obj (.cells (Array.mk [.int .i64 (10 : Int), .int .i64 dst, .int .i64 base, .int .i64 size, iv, ev, fv, .int .i64 mode, .int .i64 to, .int .i64 line, .int .i64 col]) (67 : Nat))) true :: rdOf B)) (.need (∃ (p : Option Addr), ∃ (n : Nat), ∃ (c : Nat), av = Value.slice p n c) (.leaf (Value.bool (bif Ex.leQ (0 :
 Int) to then Ex.leQ to (Int.ofNat (Sy.lenS av)) else false), Blk.mk (Let.n (ns 2)) (.obj (.cells (Array.mk [.int .i64 loc, av]) (37 : Nat))) true :: Blk.mk (Let.n (ns 1)) (.obj (.cells (Array.mk [.int .i64 cells, tv]) (27 : Nat))) true :: Blk.mk (Let.n (ns 0)) (.obj (.cells (Array.mk [.int .i64 (10 : Int), .int .i64 dst, .int .i64 base, .int .i64 size, iv, ev, fv, .int .i64 mode, .int .i64 to, .int .i64 line, .int .i64 col]) (67 : Nat))) true :: rdOf B))))))))))))))))))))

theorem rac10_run (B : List (Nat × Sy.Cont)) (dst base size mode to line col : Int) (iv ev fv tv av : Value) (ix e f : List NodeD) (cells loc : Int) : Sy.Ran (Sy.inB Try.prog (ctxR B (10) size mode iv ev fv ix e f loc) 50 fRAct #[.agg #[.int .i64 (10), .int .i64 dst, .int .i64 base, .int .i64 size, iv, ev, fv, .int .i64 mode, .int .i64 to, .int .i64 line, .int .i64 col], progV cells tv, thrV loc av] (rdOf B)) rac10_o (rac10_R B dst base size mode to line col iv ev fv tv av ix e f cells loc) := ⟨fun ns => by kernel_rfl, fun ns => by kernel_rfl⟩
def rac0_o : Sy.O := (Sy.O.pack 7 0x4008040 (Sy.O.fork (Sy.O.pack 6 0x0 Sy.O.nil) (Sy.O.pack 15 0x20000001000000800 (Sy.O.fork Sy.O.nil (Sy.O.pack 31 0x10000000200000010000000000040000040 (Sy.O.fork Sy.O.nil (Sy.O.pack 20 0x804008040080400040000040 (Sy.O.fork Sy.O.nil (Sy.O.pack 11 0x400804008040 (Sy.O.fork (Sy.O.pack 20 0x20000000000000800 Sy.O.nil) (Sy.O.pack 8 0x0 (Sy.O.fork (Sy.O.pack 8 0x2000800 (Sy.O.fork Sy.O.nil (Sy.O.pack 3 0x40 (Sy.O.fork (Sy.O.pack 21 0x20000000000000800 Sy.O.nil) (Sy.O.pack 12 0x20000000000 (Sy.O.fork (Sy.O.pack 8 0x2000800 (Sy.O.fork Sy.O.nil (Sy.O.pack 7 0x4008040 (Sy.O.fork (Sy.O.pack 11 0x4000004008040 Sy.O.nil) (Sy.O.pack 3 0x40 Sy.O.nil))))) (Sy.O.pack 12 0x8010080000000 (Sy.O.fork (Sy.O.pack 11 0x4000004008040 Sy.O.nil) (Sy.O.pack 3 0x40 Sy.O.nil))))))))) (Sy.O.pack 8 0x80000000 (Sy.O.fork (Sy.O.pack 21 0x20000000000000800 Sy.O.nil) (Sy.O.pack 12 0x20000000000 (Sy.O.fork (Sy.O.pack 8 0x2000800 (Sy.O.fork Sy.O.nil (Sy.O.pack 7 0x4008040 (Sy.O.fork (Sy.O.pack 11 0x4000004008040 Sy.O.nil) (Sy.O.pack 3 0x40 Sy.O.nil))))) (Sy.O.pack 12 0x8010080000000 (Sy.O.fork (Sy.O.pack 11 0x4000004008040 Sy.O.nil) (Sy.O.pack 3 0x40 Sy.O.nil)))))))))))))))))))
noncomputable def rac0_R (B : List (Nat × Sy.Cont)) (op : Int) (dst : Int) (base : Int) (size : Int) (mode : Int) (to : Int) (line : Int) (col : Int) (iv : Value) (ev : Value) (fv : Value) (tv : Value) (av : Value) (cells : Int) (loc : Int) (ns : Nat → Sy.Let) : Sy.Res (Value × List Blk) := .br (bif Ex.ltQ op (1 : Int) then true else Ex.ltQ (10 : Int) op) (.leaf (Value.bool false, Blk.mk (Let.n (ns 2)) (.obj (.cells (Array.mk [.int .i64 loc, av]) (37 : Nat))) true :: Blk.mk (Let.n (ns 1)) (.obj (.cells (Array.mk [.int .i64 cells, tv]) (27 : Nat))) true :: Blk.mk (Let.n (ns 0)) (.obj (.cells (Array.mk [.int .i64 op, .int .i64 dst, .int .i64 base, .int .i64 size, iv, ev, fv, .int .i64 mode, .int .i64 to, .int .i64 line, .int .i64 col]) (67 : Nat))) true :: rdOf B)) (.need True (.hyp True (.br (bif false then true else !mayF op mode) (.leaf (Value.bool false, Blk.mk (Let.n (ns 2)) (.obj (.cells (Array.mk [.int .i64 loc, av]) (37 : Nat))) true :: Blk.mk (Let.n (ns 1)) (.obj (.cells (Array.mk [.int .i64 cells, tv]) (27 : Nat))) true :: Blk.mk (Let.n (ns 0)) (.obj (.cells (Array.mk [.int .i64 op, .int .i64 dst, .int .i64 base, .int .i64 size, iv, ev, fv, .int .i64 mode, .int .i64 to, .int .i64 line, .int .i64 col]) (67 : Nat))) true :: rdOf B)) (.need False (.hyp True (.need
 False (.hyp True (.br (bif false then true else bif true then !Ex.eqQ dst (0 : Int) else false) (.leaf (Value.bool false, Blk.mk (Let.n (ns 2)) (.obj (.cells (Array.mk [.int .i64 loc, av]) (37 : Nat))) true :: Blk.mk (Let.n (ns 1)) (.obj (.cells (Array.mk [.int .i64 cells, tv]) (27 : Nat))) true :: Blk.mk (Let.n (ns 0)) (.obj (.cells (Array.mk [.int .i64 op, .int .i64 dst, .int .i64 base, .int .i64 size, iv, ev, fv, .int .i64 mode, .int .i64 to, .int .i64 line, .int .i64 col]) (67 : Nat))) true :: rdOf B)) (.need False (.hyp True (.need (∃ (p : Option Addr), ∃ (n : Nat), ∃ (c : Nat), iv = Value.slice p n c) (.br (bif bif !Ex.eqQ base (0 : Int) then true else !Ex.eqQ size (0 : Int) then true else Ex.ltQ (0 : Int) (Int.ofNat (Sy.lenS iv))) (.leaf (Value.bool false, Blk.mk (Let.n (ns 2)) (.obj (.cells (Array.mk [.int .i64 loc, av]) (37 : Nat))) true :: Blk.mk (Let.n (ns 1)) (.obj (.cells (Array.mk [.int .i64 cells, tv]) (27 : Nat))) true :: Blk.mk (Let.n (ns 0)) (.obj (.cells (Array.mk
 [.int .i64 op, .int .i64 dst, .int .i64 base, .int .i64 size, iv, ev, fv, .int .i64 mode, .int .i64 to, .int .i64 line, .int .i64 col]) (67 : Nat))) true :: rdOf B)) (.br (bif bif !Ex.eqQ op (2 : Int) then !Ex.eqQ op (7 : Int) else false then !Ex.eqQ op (9 : Int) else false) (.need False (.hyp True (.leaf (Value.bool false, Blk.mk (Let.n (ns 2)) (.obj (.cells (Array.mk [.int .i64 loc, av]) (37 : Nat))) true :: Blk.mk (Let.n (ns 1)) (.obj (.cells (Array.mk [.int .i64 cells, tv]) (27 : Nat))) true :: Blk.mk (Let.n (ns 0)) (.obj (.cells (Array.mk [.int .i64 op, .int .i64 dst, .int .i64 base, .int .i64 size, iv, ev, fv, .int .i64 mode, .int .i64 to, .int .i64 line, .int .i64 col]) (67 : Nat))) true :: rdOf B)))) (.br (!bif bif !Ex.eqQ op (2 : Int) then !Ex.eqQ op (7 : Int) else false then !Ex.eqQ op (9 : Int) else false) (.need (∃ (p : Option Addr), ∃ (n : Nat), ∃ (c : Nat), ev = Value.slice p n c) (.br (bif false then true else bif true then Ex.ltQ (0 : Int) (Int.ofNat (Sy.lenS ev)) else
 false) (.leaf (Value.bool false, Blk.mk (Let.n (ns 2)) (.obj (.cells (Array.mk [.int .i64 loc, av]) (37 : Nat))) true :: Blk.mk (Let.n (ns 1)) (.obj (.cells (Array.mk [.int .i64 cells, tv]) (27 : Nat))) true :: Blk.mk (Let.n (ns 0)) (.obj (.cells (Array.mk [.int .i64 op, .int .i64 dst, .int .i64 base, .int .i64 size, iv, ev, fv, .int .i64 mode, .int .i64 to, .int .i64 line, .int .i64 col]) (67 : Nat))) true :: rdOf B)) (.br (Ex.eqQ op (6 : Int)) (.need False (.hyp True (.leaf (Value.bool false, Blk.mk (Let.n (ns 2)) (.obj (.cells (Array.mk [.int .i64 loc, av]) (37 : Nat))) true :: Blk.mk (Let.n (ns 1)) (.obj (.cells (Array.mk [.int .i64 cells, tv]) (27 : Nat))) true :: Blk.mk (Let.n (ns 0)) (.obj (.cells (Array.mk [.int .i64 op, .int .i64 dst, .int .i64 base, .int .i64 size, iv, ev, fv, .int .i64 mode, .int .i64 to, .int .i64 line, .int .i64 col]) (67 : Nat))) true :: rdOf B)))) (.br (!Ex.eqQ op (6 : Int)) (.need (∃ (p : Option Addr), ∃ (n : Nat), ∃ (c : Nat), fv = Value.slice p n c)
 (.br (bif false then true else bif true then Ex.ltQ (0 : Int) (Int.ofNat (Sy.lenS fv)) else false) (.leaf (Value.bool false, Blk.mk (Let.n (ns 2)) (.obj (.cells (Array.mk [.int .i64 loc, av]) (37 : Nat))) true :: Blk.mk (Let.n (ns 1)) (.obj (.cells (Array.mk [.int .i64 cells, tv]) (27 : Nat))) true :: Blk.mk (Let.n (ns 0)) (.obj (.cells (Array.mk [.int .i64 op, .int .i64 dst, .int .i64 base, .int .i64 size, iv, ev, fv, .int .i64 mode, .int .i64 to, .int .i64 line, .int .i64 col]) (67 : Nat))) true :: rdOf B)) (.br (bif Ex.eqQ op (9 : Int) then true else Ex.eqQ op (10 : Int)) (.need (∃ (p : Option Addr), ∃ (n : Nat), ∃ (c : Nat), av = Value.slice p n c) (.leaf (Value.bool (bif Ex.leQ (0 : Int) to then Ex.leQ to (Int.ofNat (Sy.lenS av)) else false), Blk.mk (Let.n (ns 2)) (.obj (.cells (Array.mk [.int .i64 loc, av]) (37 : Nat))) true :: Blk.mk (Let.n (ns 1)) (.obj (.cells (Array.mk [.int .i64 cells, tv]) (27 : Nat))) true :: Blk.mk (Let.n (ns 0)) (.obj (.cells (Array.mk [.int .i64 op, .int
 .i64 dst, .int .i64 base, .int .i64 size, iv, ev, fv, .int .i64 mode, .int .i64 to, .int .i64 line, .int .i64 col]) (67 : Nat))) true :: rdOf B))) (.leaf (Value.bool (Ex.eqQ to (0 : Int)), Blk.mk (Let.n (ns 2)) (.obj (.cells (Array.mk [.int .i64 loc, av]) (37 : Nat))) true :: Blk.mk (Let.n (ns 1)) (.obj (.cells (Array.mk [.int .i64 cells, tv]) (27 : Nat))) true :: Blk.mk (Let.n (ns 0)) (.obj (.cells (Array.mk [.int .i64 op, .int .i64 dst, .int .i64 base, .int .i64 size, iv, ev, fv, .int .i64 mode, .int .i64 to, .int .i64 line, .int .i64 col]) (67 : Nat))) true :: rdOf B))))) (.br (bif Ex.eqQ op (9 : Int) then true else Ex.eqQ op (10 : Int)) (.need (∃ (p : Option Addr), ∃ (n : Nat), ∃ (c : Nat), av = Value.slice p n c) (.leaf (Value.bool (bif Ex.leQ (0 : Int) to then Ex.leQ to (Int.ofNat (Sy.lenS av)) else false), Blk.mk (Let.n (ns 2)) (.obj (.cells (Array.mk [.int .i64 loc, av]) (37 : Nat))) true :: Blk.mk (Let.n (ns 1)) (.obj (.cells (Array.mk [.int .i64 cells, tv]) (27 : Nat))) true
 :: Blk.mk (Let.n (ns 0)) (.obj (.cells (Array.mk [.int .i64 op, .int .i64 dst, .int .i64 base, .int .i64 size, iv, ev, fv, .int .i64 mode, .int .i64 to, .int .i64 line, .int .i64 col]) (67 : Nat))) true :: rdOf B))) (.leaf (Value.bool (Ex.eqQ to (0 : Int)), Blk.mk (Let.n (ns 2)) (.obj (.cells (Array.mk [.int .i64 loc, av]) (37 : Nat))) true :: Blk.mk (Let.n (ns 1)) (.obj (.cells (Array.mk [.int .i64 cells, tv]) (27 : Nat))) true :: Blk.mk (Let.n (ns 0)) (.obj (.cells (Array.mk [.int .i64 op, .int .i64 dst, .int .i64 base, .int .i64 size, iv, ev, fv, .int .i64 mode, .int .i64 to, .int .i64 line, .int .i64 col]) (67 : Nat))) true :: rdOf B))))))) (.br (Ex.eqQ op (6 : Int)) (.need False (.hyp True (.leaf (Value.bool false, Blk.mk (Let.n (ns 2)) (.obj (.cells (Array.mk [.int .i64 loc, av]) (37 : Nat))) true :: Blk.mk (Let.n (ns 1)) (.obj (.cells (Array.mk [.int .i64 cells, tv]) (27 : Nat))) true :: Blk.mk (Let.n (ns 0)) (.obj (.cells (Array.mk [.int .i64 op, .int .i64 dst, .int .i64 base,
 .int .i64 size, iv, ev, fv, .int .i64 mode, .int .i64 to, .int .i64 line, .int .i64 col]) (67 : Nat))) true :: rdOf B)))) (.br (!Ex.eqQ op (6 : Int)) (.need (∃ (p : Option Addr), ∃ (n : Nat), ∃ (c : Nat), fv = Value.slice p n c) (.br (bif false then true else bif true then Ex.ltQ (0 : Int) (Int.ofNat (Sy.lenS fv)) else false) (.leaf (Value.bool false, Blk.mk (Let.n (ns 2)) (.obj (.cells (Array.mk [.int .i64 loc, av]) (37 : Nat))) true :: Blk.mk (Let.n (ns 1)) (.obj (.cells (Array.mk [.int .i64 cells, tv]) (27 : Nat))) true :: Blk.mk (Let.n (ns 0)) (.obj (.cells (Array.mk [.int .i64 op, .int .i64 dst, .int .i64 base, .int .i64 size, iv, ev, fv, .int .i64 mode, .int .i64 to, .int .i64 line, .int .i64 col]) (67 : Nat))) true :: rdOf B)) (.br (bif Ex.eqQ op (9 : Int) then true else Ex.eqQ op (10 : Int)) (.need (∃ (p : Option Addr), ∃ (n : Nat), ∃ (c : Nat), av = Value.slice p n c) (.leaf (Value.bool (bif Ex.leQ (0 : Int) to then Ex.leQ to (Int.ofNat (Sy.lenS av)) else false), Blk.mk (Let.n
 (ns 2)) (.obj (.cells (Array.mk [.int .i64 loc, av]) (37 : Nat))) true :: Blk.mk (Let.n (ns 1)) (.obj (.cells (Array.mk [.int .i64 cells, tv]) (27 : Nat))) true :: Blk.mk (Let.n (ns 0)) (.obj (.cells (Array.mk [.int .i64 op, .int .i64 dst, .int .i64 base, .int .i64 size, iv, ev, fv, .int .i64 mode, .int .i64 to, .int .i64 line, .int .i64 col]) (67 : Nat))) true :: rdOf B))) (.leaf (Value.bool (Ex.eqQ to (0 : Int)), Blk.mk (Let.n (ns 2)) (.obj (.cells (Array.mk [.int .i64 loc, av]) (37 : Nat))) true :: Blk.mk (Let.n (ns 1)) (.obj (.cells (Array.mk [.int .i64 cells, tv]) (27 : Nat))) true :: Blk.mk (Let.n (ns 0)) (.obj (.cells (Array.mk [.int .i64 op, .int .i64 dst, .int .i64 base, .int .i64 size, iv, ev, fv, .int .i64 mode, .int .i64 to, .int .i64 line, .int .i64 col]) (67 : Nat))) true :: rdOf B))))) (.br (bif Ex.eqQ op (9 : Int) then true else Ex.eqQ op (10 : Int)) (.need (∃ (p : Option Addr), ∃ (n : Nat), ∃ (c : Nat), av = Value.slice p n c) (.leaf (Value.bool (bif Ex.leQ (0 : Int) to
 then Ex.leQ to (Int.ofNat (Sy.lenS av)) else false), Blk.mk (Let.n (ns 2)) (.obj (.cells (Array.mk [.int .i64 loc, av]) (37 : Nat))) true :: Blk.mk (Let.n (ns 1)) (.obj (.cells (Array.mk [.int .i64 cells, tv]) (27 : Nat))) true :: Blk.mk (Let.n (ns 0)) (.obj (.cells (Array.mk [.int .i64 op, .int .i64 dst, .int .i64 base, .int .i64 size, iv, ev, fv, .int .i64 mode, .int .i64 to, .int .i64 line, .int .i64 col]) (67 : Nat))) true :: rdOf B))) (.leaf (Value.bool (Ex.eqQ to (0 : Int)), Blk.mk (Let.n (ns 2)) (.obj (.cells (Array.mk [.int .i64 loc, av]) (37 : Nat))) true :: Blk.mk (Let.n (ns 1)) (.obj (.cells (Array.mk [.int .i64 cells, tv]) (27 : Nat))) true :: Blk.mk (Let.n (ns 0)) (.obj (.cells (Array.mk [.int .i64 op, .int .i64 dst, .int .i64 base, .int .i64 size, iv, ev, fv, .int .i64 mode, .int .i64 to, .int .i64 line, .int .i64 col]) (67 : Nat))) true :: rdOf B)))))))))))))))))))

theorem rac0_run (B : List (Nat × Sy.Cont)) (op dst base size mode to line col : Int) (iv ev fv tv av : Value) (cells loc : Int) : Sy.Ran (Sy.inB Try.prog (ctxZ op mode) 50 fRAct #[.agg #[.int .i64 op, .int .i64 dst, .int .i64 base, .int .i64 size, iv, ev, fv, .int .i64 mode, .int .i64 to, .int .i64 line, .int .i64 col], progV cells tv, thrV loc av] (rdOf B)) rac0_o (rac0_R B op dst base size mode to line col iv ev fv tv av cells loc) := ⟨fun ns => by kernel_rfl, fun ns => by kernel_rfl⟩

end Go.Proofs.Ytbgmkefehfjicaa

/-
  The reference's look at an act: the contract.
-/
namespace Go.Proofs.Ytbgmkefehfjicaa
open Go Go.RowKit
open Sy (Let Blk HasL)

/-- What the reference tells of a place. -/
noncomputable def placeR (size base cells loc : Int) (ix : List NodeD) : Bool :=
  bif Ex.eqQ size 0 then (!Ex.ltQ base 0 && (!Ex.ltQ (Ex.wrapQ .i64 (Ex.subQ' cells 1)) base && decide (ix.length = 0)))
  else powF size && (!Ex.ltQ base 0 && (!Ex.ltQ (Ex.wrapQ .i64 (Ex.subQ' cells size)) base && exprR loc ix))

/-- What the reference tells of an act. -/
noncomputable def actR (cells loc : Int) (na : Nat) (a : ActD) : Bool :=
  decide (1 ≤ a.op ∧ a.op ≤ 10) && (mayF a.op a.mode && ((bif hasDst a.op then Ex.leQ 0 a.dst && Ex.ltQ a.dst loc else Ex.eqQ a.dst 0) &&
  ((bif hasPlace a.op then placeR a.size a.base cells loc a.ix else Ex.eqQ a.base 0 && (Ex.eqQ a.size 0 && decide (a.ix.length = 0))) &&
  ((bif hasE a.op then exprR loc a.e else decide (a.e.length = 0)) && ((bif hasF a.op then exprR loc a.f else decide (a.f.length = 0)) &&
  (bif hasTo a.op then Ex.leQ 0 a.to && Ex.leQ a.to (na : Int) else Ex.eqQ a.to 0))))))

noncomputable def ractC (B : List (Nat × Sy.Cont)) (a : ActD) (iv ev fv tv av : Value) (cells loc : Int) (na : Nat) : Sy.CallC :=
  ⟨fRAct, #[actV a iv ev fv, progV cells tv, thrV loc av], OkW B iv ev fv av a na, ⟨[], [], 0, B⟩, [Sy.plainO (.bool (actR cells loc na a))]⟩

theorem pow_pos {n : Int} (h : powF n = true) : Ex.ltQ 0 n = true := by
  unfold powF at h
  rw [Ex.ltQ_eq]
  have := of_decide_eq_true h
  simp
  omega
theorem zero_pos {n : Int} (h : Ex.eqQ n 0 = true) : Ex.ltQ 0 n = false := by
  rw [Ex.eqQ_eq] at h
  rw [Ex.ltQ_eq]
  simp at h
  simp [h]
theorem len_zero (n : Nat) : decide (0 < n) = !decide (n = 0) := by
  cases n <;> simp

theorem ract1_met (B : List (Nat × Sy.Cont)) (a : ActD) (iv ev fv tv av : Value) (cells loc : Int) (na : Nat) (hk : a.op = 1) : Sy.Meets Try.prog (ractC B a iv ev fv tv av cells loc na) := by
  obtain ⟨op, dst, base, size, ix, e, f, mode, to, line, col⟩ := a
  simp only at hk
  subst hk
  refine Sy.meets_ofB (ctxR_holds B 1 size mode iv ev fv ix e f loc) mixed (L := rdOf B) (Sy.Ent.refl _) (rac1_run B dst base size mode to line col iv ev fv tv av ix e f cells loc) fun hok ns => ?_
  obtain ⟨⟨hI, hil⟩, ⟨hE, hel⟩, ⟨hF, hfl⟩, hA, hna⟩ := hok
  simp only at hI hE hF hil hel hfl
  have leaf : ∀ b L, b = actR cells loc na ⟨1, dst, base, size, ix, e, f, mode, to, line, col⟩ → Sy.leafB (ractC B ⟨1, dst, base, size, ix, e, f, mode, to, line, col⟩ iv ev fv tv av cells loc na) (.bool b, L) := fun b L h => plainB_leaf (List.mem_singleton_self _) rfl (by rw [h])
  have h1 : hasDst 1 = true := rfl
  have h2 : hasPlace 1 = false := rfl
  have h3 : hasE 1 = true := rfl
  have h4 : hasF 1 = false := rfl
  have h5 : hasTo 1 = false := rfl
  have hpp : powF size = true → Ex.ltQ 0 size = true := pow_pos
  have hzp : Ex.eqQ size 0 = true → Ex.ltQ 0 size = false := zero_pos
  simp only [actR, placeR, h1, h2, h3, h4, h5] at leaf
  simp only [rac1_R, Sy.Res.holds, hI.len, hE.len, hF.len, hna, pos_len, len_zero, far_to, neg_to, ge_to loc dst]
  repeat' (first | exact gotL_of (fun p hp => by simp [hp]) | apply And.intro | intro _)
  all_goals first
    | exact trivial
    | exact hI.sl
    | exact hE.sl
    | exact hF.sl
    | exact hA
    | exact hI
    | exact hE
    | exact hF
    | exact hil
    | exact hel
    | exact hfl
    | decide
    | skip
  all_goals
    refine leaf _ _ ?_
    simp_all [neg_to, far_to] <;> (intros; simp_all)

theorem ract2_met (B : List (Nat × Sy.Cont)) (a : ActD) (iv ev fv tv av : Value) (cells loc : Int) (na : Nat) (hk : a.op = 2) : Sy.Meets Try.prog (ractC B a iv ev fv tv av cells loc na) := by
  obtain ⟨op, dst, base, size, ix, e, f, mode, to, line, col⟩ := a
  simp only at hk
  subst hk
  refine Sy.meets_ofB (ctxR_holds B 2 size mode iv ev fv ix e f loc) mixed (L := rdOf B) (Sy.Ent.refl _) (rac2_run B dst base size mode to line col iv ev fv tv av ix e f cells loc) fun hok ns => ?_
  obtain ⟨⟨hI, hil⟩, ⟨hE, hel⟩, ⟨hF, hfl⟩, hA, hna⟩ := hok
  simp only at hI hE hF hil hel hfl
  have leaf : ∀ b L, b = actR cells loc na ⟨2, dst, base, size, ix, e, f, mode, to, line, col⟩ → Sy.leafB (ractC B ⟨2, dst, base, size, ix, e, f, mode, to, line, col⟩ iv ev fv tv av cells loc na) (.bool b, L) := fun b L h => plainB_leaf (List.mem_singleton_self _) rfl (by rw [h])
  have h1 : hasDst 2 = true := rfl
  have h2 : hasPlace 2 = true := rfl
  have h3 : hasE 2 = false := rfl
  have h4 : hasF 2 = false := rfl
  have h5 : hasTo 2 = false := rfl
  have hpp : powF size = true → Ex.ltQ 0 size = true := pow_pos
  have hzp : Ex.eqQ size 0 = true → Ex.ltQ 0 size = false := zero_pos
  simp only [actR, placeR, h1, h2, h3, h4, h5] at leaf
  simp only [rac2_R, Sy.Res.holds, hI.len, hE.len, hF.len, hna, pos_len, len_zero, far_to, neg_to, ge_to loc dst]
  repeat' (first | exact gotL_of (fun p hp => by simp [hp]) | apply And.intro | intro _)
  all_goals first
    | exact trivial
    | exact hI.sl
    | exact hE.sl
    | exact hF.sl
    | exact hA
    | exact hI
    | exact hE
    | exact hF
    | exact hil
    | exact hel
    | exact hfl
    | decide
    | skip
  all_goals
    refine leaf _ _ ?_
    simp_all [neg_to, far_to] <;> (intros; simp_all)

theorem ract3_met (B : List (Nat × Sy.Cont)) (a : ActD) (iv ev fv tv av : Value) (cells loc : Int) (na : Nat) (hk : a.op = 3) : Sy.Meets Try.prog (ractC B a iv ev fv tv av cells loc na) := by
  obtain ⟨op, dst, base, size, ix, e, f, mode, to, line, col⟩ := a
  simp only at hk
  subst hk
  refine Sy.meets_ofB (ctxR_holds B 3 size mode iv ev fv ix e f loc) mixed (L := rdOf B) (Sy.Ent.refl _) (rac3_run B dst base size mode to line col iv ev fv tv av ix e f cells loc) fun hok ns => ?_
  obtain ⟨⟨hI, hil⟩, ⟨hE, hel⟩, ⟨hF, hfl⟩, hA, hna⟩ := hok
  simp only at hI hE hF hil hel hfl
  have leaf : ∀ b L, b = actR cells loc na ⟨3, dst, base, size, ix, e, f, mode, to, line, col⟩ → Sy.leafB (ractC B ⟨3, dst, base, size, ix, e, f, mode, to, line, col⟩ iv ev fv tv av cells loc na) (.bool b, L) := fun b L h => plainB_leaf (List.mem_singleton_self _) rfl (by rw [h])
  have h1 : hasDst 3 = false := rfl
  have h2 : hasPlace 3 = true := rfl
  have h3 : hasE 3 = true := rfl
  have h4 : hasF 3 = false := rfl
  have h5 : hasTo 3 = false := rfl
  have hpp : powF size = true → Ex.ltQ 0 size = true := pow_pos
  have hzp : Ex.eqQ size 0 = true → Ex.ltQ 0 size = false := zero_pos
  simp only [actR, placeR, h1, h2, h3, h4, h5] at leaf
  simp only [rac3_R, Sy.Res.holds, hI.len, hE.len, hF.len, hna, pos_len, len_zero, far_to, neg_to, ge_to loc dst]
  repeat' (first | exact gotL_of (fun p hp => by simp [hp]) | apply And.intro | intro _)
  all_goals first
    | exact trivial
    | exact hI.sl
    | exact hE.sl
    | exact hF.sl
    | exact hA
    | exact hI
    | exact hE
    | exact hF
    | exact hil
    | exact hel
    | exact hfl
    | decide
    | skip
  all_goals
    refine leaf _ _ ?_
    simp_all [neg_to, far_to] <;> (intros; simp_all)

theorem ract4_met (B : List (Nat × Sy.Cont)) (a : ActD) (iv ev fv tv av : Value) (cells loc : Int) (na : Nat) (hk : a.op = 4) : Sy.Meets Try.prog (ractC B a iv ev fv tv av cells loc na) := by
  obtain ⟨op, dst, base, size, ix, e, f, mode, to, line, col⟩ := a
  simp only at hk
  subst hk
  refine Sy.meets_ofB (ctxR_holds B 4 size mode iv ev fv ix e f loc) mixed (L := rdOf B) (Sy.Ent.refl _) (rac4_run B dst base size mode to line col iv ev fv tv av ix e f cells loc) fun hok ns => ?_
  obtain ⟨⟨hI, hil⟩, ⟨hE, hel⟩, ⟨hF, hfl⟩, hA, hna⟩ := hok
  simp only at hI hE hF hil hel hfl
  have leaf : ∀ b L, b = actR cells loc na ⟨4, dst, base, size, ix, e, f, mode, to, line, col⟩ → Sy.leafB (ractC B ⟨4, dst, base, size, ix, e, f, mode, to, line, col⟩ iv ev fv tv av cells loc na) (.bool b, L) := fun b L h => plainB_leaf (List.mem_singleton_self _) rfl (by rw [h])
  have h1 : hasDst 4 = true := rfl
  have h2 : hasPlace 4 = true := rfl
  have h3 : hasE 4 = true := rfl
  have h4 : hasF 4 = false := rfl
  have h5 : hasTo 4 = false := rfl
  have hpp : powF size = true → Ex.ltQ 0 size = true := pow_pos
  have hzp : Ex.eqQ size 0 = true → Ex.ltQ 0 size = false := zero_pos
  simp only [actR, placeR, h1, h2, h3, h4, h5] at leaf
  simp only [rac4_R, Sy.Res.holds, hI.len, hE.len, hF.len, hna, pos_len, len_zero, far_to, neg_to, ge_to loc dst]
  repeat' (first | exact gotL_of (fun p hp => by simp [hp]) | apply And.intro | intro _)
  all_goals first
    | exact trivial
    | exact hI.sl
    | exact hE.sl
    | exact hF.sl
    | exact hA
    | exact hI
    | exact hE
    | exact hF
    | exact hil
    | exact hel
    | exact hfl
    | decide
    | skip
  all_goals
    refine leaf _ _ ?_
    simp_all [neg_to, far_to] <;> (intros; simp_all)

theorem ract5_met (B : List (Nat × Sy.Cont)) (a : ActD) (iv ev fv tv av : Value) (cells loc : Int) (na : Nat) (hk : a.op = 5) : Sy.Meets Try.prog (ractC B a iv ev fv tv av cells loc na) := by
  obtain ⟨op, dst, base, size, ix, e, f, mode, to, line, col⟩ := a
  simp only at hk
  subst hk
  refine Sy.meets_ofB (ctxR_holds B 5 size mode iv ev fv ix e f loc) mixed (L := rdOf B) (Sy.Ent.refl _) (rac5_run B dst base size mode to line col iv ev fv tv av ix e f cells loc) fun hok ns => ?_
  obtain ⟨⟨hI, hil⟩, ⟨hE, hel⟩, ⟨hF, hfl⟩, hA, hna⟩ := hok
  simp only at hI hE hF hil hel hfl
  have leaf : ∀ b L, b = actR cells loc na ⟨5, dst, base, size, ix, e, f, mode, to, line, col⟩ → Sy.leafB (ractC B ⟨5, dst, base, size, ix, e, f, mode, to, line, col⟩ iv ev fv tv av cells loc na) (.bool b, L) := fun b L h => plainB_leaf (List.mem_singleton_self _) rfl (by rw [h])
  have h1 : hasDst 5 = true := rfl
  have h2 : hasPlace 5 = true := rfl
  have h3 : hasE 5 = true := rfl
  have h4 : hasF 5 = false := rfl
  have h5 : hasTo 5 = false := rfl
  have hpp : powF size = true → Ex.ltQ 0 size = true := pow_pos
  have hzp : Ex.eqQ size 0 = true → Ex.ltQ 0 size = false := zero_pos
  simp only [actR, placeR, h1, h2, h3, h4, h5] at leaf
  simp only [rac5_R, Sy.Res.holds, hI.len, hE.len, hF.len, hna, pos_len, len_zero, far_to, neg_to, ge_to loc dst]
  repeat' (first | exact gotL_of (fun p hp => by simp [hp]) | apply And.intro | intro _)
  all_goals first
    | exact trivial
    | exact hI.sl
    | exact hE.sl
    | exact hF.sl
    | exact hA
    | exact hI
    | exact hE
    | exact hF
    | exact hil
    | exact hel
    | exact hfl
    | decide
    | skip
  all_goals
    refine leaf _ _ ?_
    simp_all [neg_to, far_to] <;> (intros; simp_all)

theorem ract6_met (B : List (Nat × Sy.Cont)) (a : ActD) (iv ev fv tv av : Value) (cells loc : Int) (na : Nat) (hk : a.op = 6) : Sy.Meets Try.prog (ractC B a iv ev fv tv av cells loc na) := by
  obtain ⟨op, dst, base, size, ix, e, f, mode, to, line, col⟩ := a
  simp only at hk
  subst hk
  refine Sy.meets_ofB (ctxR_holds B 6 size mode iv ev fv ix e f loc) mixed (L := rdOf B) (Sy.Ent.refl _) (rac6_run B dst base size mode to line col iv ev fv tv av ix e f cells loc) fun hok ns => ?_
  obtain ⟨⟨hI, hil⟩, ⟨hE, hel⟩, ⟨hF, hfl⟩, hA, hna⟩ := hok
  simp only at hI hE hF hil hel hfl
  have leaf : ∀ b L, b = actR cells loc na ⟨6, dst, base, size, ix, e, f, mode, to, line, col⟩ → Sy.leafB (ractC B ⟨6, dst, base, size, ix, e, f, mode, to, line, col⟩ iv ev fv tv av cells loc na) (.bool b, L) := fun b L h => plainB_leaf (List.mem_singleton_self _) rfl (by rw [h])
  have h1 : hasDst 6 = true := rfl
  have h2 : hasPlace 6 = true := rfl
  have h3 : hasE 6 = true := rfl
  have h4 : hasF 6 = true := rfl
  have h5 : hasTo 6 = false := rfl
  have hpp : powF size = true → Ex.ltQ 0 size = true := pow_pos
  have hzp : Ex.eqQ size 0 = true → Ex.ltQ 0 size = false := zero_pos
  simp only [actR, placeR, h1, h2, h3, h4, h5] at leaf
  simp only [rac6_R, Sy.Res.holds, hI.len, hE.len, hF.len, hna, pos_len, len_zero, far_to, neg_to, ge_to loc dst]
  repeat' (first | exact gotL_of (fun p hp => by simp [hp]) | apply And.intro | intro _)
  all_goals first
    | exact trivial
    | exact hI.sl
    | exact hE.sl
    | exact hF.sl
    | exact hA
    | exact hI
    | exact hE
    | exact hF
    | exact hil
    | exact hel
    | exact hfl
    | decide
    | skip
  all_goals
    refine leaf _ _ ?_
    simp_all [neg_to, far_to] <;> (intros; simp_all)

theorem ract7_met (B : List (Nat × Sy.Cont)) (a : ActD) (iv ev fv tv av : Value) (cells loc : Int) (na : Nat) (hk : a.op = 7) : Sy.Meets Try.prog (ractC B a iv ev fv tv av cells loc na) := by
  obtain ⟨op, dst, base, size, ix, e, f, mode, to, line, col⟩ := a
  simp only at hk
  subst hk
  refine Sy.meets_ofB (ctxR_holds B 7 size mode iv ev fv ix e f loc) mixed (L := rdOf B) (Sy.Ent.refl _) (rac7_run B dst base size mode to line col iv ev fv tv av ix e f cells loc) fun hok ns => ?_
  obtain ⟨⟨hI, hil⟩, ⟨hE, hel⟩, ⟨hF, hfl⟩, hA, hna⟩ := hok
  simp only at hI hE hF hil hel hfl
  have leaf : ∀ b L, b = actR cells loc na ⟨7, dst, base, size, ix, e, f, mode, to, line, col⟩ → Sy.leafB (ractC B ⟨7, dst, base, size, ix, e, f, mode, to, line, col⟩ iv ev fv tv av cells loc na) (.bool b, L) := fun b L h => plainB_leaf (List.mem_singleton_self _) rfl (by rw [h])
  have h1 : hasDst 7 = false := rfl
  have h2 : hasPlace 7 = false := rfl
  have h3 : hasE 7 = false := rfl
  have h4 : hasF 7 = false := rfl
  have h5 : hasTo 7 = false := rfl
  have hpp : powF size = true → Ex.ltQ 0 size = true := pow_pos
  have hzp : Ex.eqQ size 0 = true → Ex.ltQ 0 size = false := zero_pos
  simp only [actR, placeR, h1, h2, h3, h4, h5] at leaf
  simp only [rac7_R, Sy.Res.holds, hI.len, hE.len, hF.len, hna, pos_len, len_zero, far_to, neg_to, ge_to loc dst]
  repeat' (first | exact gotL_of (fun p hp => by simp [hp]) | apply And.intro | intro _)
  all_goals first
    | exact trivial
    | exact hI.sl
    | exact hE.sl
    | exact hF.sl
    | exact hA
    | exact hI
    | exact hE
    | exact hF
    | exact hil
    | exact hel
    | exact hfl
    | decide
    | skip
  all_goals
    refine leaf _ _ ?_
    simp_all [neg_to, far_to] <;> (intros; simp_all)

theorem ract8_met (B : List (Nat × Sy.Cont)) (a : ActD) (iv ev fv tv av : Value) (cells loc : Int) (na : Nat) (hk : a.op = 8) : Sy.Meets Try.prog (ractC B a iv ev fv tv av cells loc na) := by
  obtain ⟨op, dst, base, size, ix, e, f, mode, to, line, col⟩ := a
  simp only at hk
  subst hk
  refine Sy.meets_ofB (ctxR_holds B 8 size mode iv ev fv ix e f loc) mixed (L := rdOf B) (Sy.Ent.refl _) (rac8_run B dst base size mode to line col iv ev fv tv av ix e f cells loc) fun hok ns => ?_
  obtain ⟨⟨hI, hil⟩, ⟨hE, hel⟩, ⟨hF, hfl⟩, hA, hna⟩ := hok
  simp only at hI hE hF hil hel hfl
  have leaf : ∀ b L, b = actR cells loc na ⟨8, dst, base, size, ix, e, f, mode, to, line, col⟩ → Sy.leafB (ractC B ⟨8, dst, base, size, ix, e, f, mode, to, line, col⟩ iv ev fv tv av cells loc na) (.bool b, L) := fun b L h => plainB_leaf (List.mem_singleton_self _) rfl (by rw [h])
  have h1 : hasDst 8 = false := rfl
  have h2 : hasPlace 8 = false := rfl
  have h3 : hasE 8 = true := rfl
  have h4 : hasF 8 = false := rfl
  have h5 : hasTo 8 = false := rfl
  have hpp : powF size = true → Ex.ltQ 0 size = true := pow_pos
  have hzp : Ex.eqQ size 0 = true → Ex.ltQ 0 size = false := zero_pos
  simp only [actR, placeR, h1, h2, h3, h4, h5] at leaf
  simp only [rac8_R, Sy.Res.holds, hI.len, hE.len, hF.len, hna, pos_len, len_zero, far_to, neg_to, ge_to loc dst]
  repeat' (first | exact gotL_of (fun p hp => by simp [hp]) | apply And.intro | intro _)
  all_goals first
    | exact trivial
    | exact hI.sl
    | exact hE.sl
    | exact hF.sl
    | exact hA
    | exact hI
    | exact hE
    | exact hF
    | exact hil
    | exact hel
    | exact hfl
    | decide
    | skip
  all_goals
    refine leaf _ _ ?_
    simp_all [neg_to, far_to] <;> (intros; simp_all)

theorem ract9_met (B : List (Nat × Sy.Cont)) (a : ActD) (iv ev fv tv av : Value) (cells loc : Int) (na : Nat) (hk : a.op = 9) : Sy.Meets Try.prog (ractC B a iv ev fv tv av cells loc na) := by
  obtain ⟨op, dst, base, size, ix, e, f, mode, to, line, col⟩ := a
  simp only at hk
  subst hk
  refine Sy.meets_ofB (ctxR_holds B 9 size mode iv ev fv ix e f loc) mixed (L := rdOf B) (Sy.Ent.refl _) (rac9_run B dst base size mode to line col iv ev fv tv av ix e f cells loc) fun hok ns => ?_
  obtain ⟨⟨hI, hil⟩, ⟨hE, hel⟩, ⟨hF, hfl⟩, hA, hna⟩ := hok
  simp only at hI hE hF hil hel hfl
  have leaf : ∀ b L, b = actR cells loc na ⟨9, dst, base, size, ix, e, f, mode, to, line, col⟩ → Sy.leafB (ractC B ⟨9, dst, base, size, ix, e, f, mode, to, line, col⟩ iv ev fv tv av cells loc na) (.bool b, L) := fun b L h => plainB_leaf (List.mem_singleton_self _) rfl (by rw [h])
  have h1 : hasDst 9 = false := rfl
  have h2 : hasPlace 9 = false := rfl
  have h3 : hasE 9 = false := rfl
  have h4 : hasF 9 = false := rfl
  have h5 : hasTo 9 = true := rfl
  have hpp : powF size = true → Ex.ltQ 0 size = true := pow_pos
  have hzp : Ex.eqQ size 0 = true → Ex.ltQ 0 size = false := zero_pos
  simp only [actR, placeR, h1, h2, h3, h4, h5] at leaf
  simp only [rac9_R, Sy.Res.holds, hI.len, hE.len, hF.len, hna, pos_len, len_zero, far_to, neg_to, ge_to loc dst]
  repeat' (first | exact gotL_of (fun p hp => by simp [hp]) | apply And.intro | intro _)
  all_goals first
    | exact trivial
    | exact hI.sl
    | exact hE.sl
    | exact hF.sl
    | exact hA
    | exact hI
    | exact hE
    | exact hF
    | exact hil
    | exact hel
    | exact hfl
    | decide
    | skip
  all_goals
    refine leaf _ _ ?_
    simp_all [neg_to, far_to] <;> (intros; simp_all)

theorem ract10_met (B : List (Nat × Sy.Cont)) (a : ActD) (iv ev fv tv av : Value) (cells loc : Int) (na : Nat) (hk : a.op = 10) : Sy.Meets Try.prog (ractC B a iv ev fv tv av cells loc na) := by
  obtain ⟨op, dst, base, size, ix, e, f, mode, to, line, col⟩ := a
  simp only at hk
  subst hk
  refine Sy.meets_ofB (ctxR_holds B 10 size mode iv ev fv ix e f loc) mixed (L := rdOf B) (Sy.Ent.refl _) (rac10_run B dst base size mode to line col iv ev fv tv av ix e f cells loc) fun hok ns => ?_
  obtain ⟨⟨hI, hil⟩, ⟨hE, hel⟩, ⟨hF, hfl⟩, hA, hna⟩ := hok
  simp only at hI hE hF hil hel hfl
  have leaf : ∀ b L, b = actR cells loc na ⟨10, dst, base, size, ix, e, f, mode, to, line, col⟩ → Sy.leafB (ractC B ⟨10, dst, base, size, ix, e, f, mode, to, line, col⟩ iv ev fv tv av cells loc na) (.bool b, L) := fun b L h => plainB_leaf (List.mem_singleton_self _) rfl (by rw [h])
  have h1 : hasDst 10 = false := rfl
  have h2 : hasPlace 10 = false := rfl
  have h3 : hasE 10 = true := rfl
  have h4 : hasF 10 = false := rfl
  have h5 : hasTo 10 = true := rfl
  have hpp : powF size = true → Ex.ltQ 0 size = true := pow_pos
  have hzp : Ex.eqQ size 0 = true → Ex.ltQ 0 size = false := zero_pos
  simp only [actR, placeR, h1, h2, h3, h4, h5] at leaf
  simp only [rac10_R, Sy.Res.holds, hI.len, hE.len, hF.len, hna, pos_len, len_zero, far_to, neg_to, ge_to loc dst]
  repeat' (first | exact gotL_of (fun p hp => by simp [hp]) | apply And.intro | intro _)
  all_goals first
    | exact trivial
    | exact hI.sl
    | exact hE.sl
    | exact hF.sl
    | exact hA
    | exact hI
    | exact hE
    | exact hF
    | exact hil
    | exact hel
    | exact hfl
    | decide
    | skip
  all_goals
    refine leaf _ _ ?_
    simp_all [neg_to, far_to] <;> (intros; simp_all)

theorem ract0_met (B : List (Nat × Sy.Cont)) (a : ActD) (iv ev fv tv av : Value) (cells loc : Int) (na : Nat) (hk : ¬ (1 ≤ a.op ∧ a.op ≤ 10)) : Sy.Meets Try.prog (ractC B a iv ev fv tv av cells loc na) := by
  obtain ⟨op, dst, base, size, ix, e, f, mode, to, line, col⟩ := a
  simp only at hk
  refine Sy.meets_ofB (ctxZ_holds op mode) mixed (L := rdOf B) (Sy.Ent.refl _) (rac0_run B op dst base size mode to line col iv ev fv tv av cells loc) fun hok ns => ?_
  have leaf : ∀ L, Sy.leafB (ractC B ⟨op, dst, base, size, ix, e, f, mode, to, line, col⟩ iv ev fv tv av cells loc na) (.bool false, L) := fun L => plainB_leaf (List.mem_singleton_self _) rfl (by simp [actR, hk])
  simp only [rac0_R, Sy.Res.holds]
  refine ⟨fun _ => leaf _, fun h => ?_⟩
  exfalso
  rw [Ex.ltQ_eq, Ex.ltQ_eq] at h
  simp at h
  omega

theorem ractC_met (B : List (Nat × Sy.Cont)) (a : ActD) (iv ev fv tv av : Value) (cells loc : Int) (na : Nat) : Sy.Meets Try.prog (ractC B a iv ev fv tv av cells loc na) := by
  by_cases hk : 1 ≤ a.op ∧ a.op ≤ 10
  · have h : a.op = 1 ∨ a.op = 2 ∨ a.op = 3 ∨ a.op = 4 ∨ a.op = 5 ∨ a.op = 6 ∨ a.op = 7 ∨ a.op = 8 ∨ a.op = 9 ∨ a.op = 10 := by omega
    rcases h with h | h | h | h | h | h | h | h | h | h
    · exact ract1_met _ _ _ _ _ _ _ _ _ _ h
    · exact ract2_met _ _ _ _ _ _ _ _ _ _ h
    · exact ract3_met _ _ _ _ _ _ _ _ _ _ h
    · exact ract4_met _ _ _ _ _ _ _ _ _ _ h
    · exact ract5_met _ _ _ _ _ _ _ _ _ _ h
    · exact ract6_met _ _ _ _ _ _ _ _ _ _ h
    · exact ract7_met _ _ _ _ _ _ _ _ _ _ h
    · exact ract8_met _ _ _ _ _ _ _ _ _ _ h
    · exact ract9_met _ _ _ _ _ _ _ _ _ _ h
    · exact ract10_met _ _ _ _ _ _ _ _ _ _ h
  · exact ract0_met _ _ _ _ _ _ _ _ _ _ hk

end Go.Proofs.Ytbgmkefehfjicaa

/-
  The reference's look at a program: the acts of a thread.
-/
namespace Go.Proofs.Ytbgmkefehfjicaa
set_option linter.unusedVariables false
set_option linter.unusedSimpArgs false
open Go Go.RowKit
open Sy (Let Blk HasL)

abbrev fRWhole : FuncId := 11
noncomputable def bodyRT : Code := Sy.loopBody Try.f11 0
noncomputable def bodyRA : Code := Sy.loopBody Try.f11 1

/-- The act's contract, whatever its slices are. -/
noncomputable def ractBy (B : List (Nat × Sy.Cont)) (a : ActD) (cells loc : Int) (na : Nat) (args : Array Value) : Sy.CallC :=
  ⟨fRAct, args, ∃ iv ev fv tv av, args = #[actV a iv ev fv, progV cells tv, thrV loc av] ∧ OkW B iv ev fv av a na, ⟨[], [], 0, B⟩, [Sy.plainO (.bool (actR cells loc na a))]⟩
theorem ractBy_met (B : List (Nat × Sy.Cont)) (a : ActD) (cells loc : Int) (na : Nat) (args : Array Value) : Sy.Meets Try.prog (ractBy B a cells loc na args) := fun ⟨iv, ev, fv, tv, av, h, hok⟩ => by
  subst h
  exact ractC_met B a iv ev fv tv av cells loc na hok

noncomputable def ctxRA (B : List (Nat × Sy.Cont)) (a : ActD) (cells loc : Int) (na : Nat) : Sy.Ctx := Sy.mkS [(fRAct, fun args _ => ractBy B a cells loc na args)] [] []
theorem ctxRA_holds (B : List (Nat × Sy.Cont)) (a : ActD) (cells loc : Int) (na : Nat) : (ctxRA B a cells loc na).holds Try.prog := Sy.mkS_holds (fun p hp args L => by
  rcases List.mem_singleton.1 hp with rfl
  exact ractBy_met _ _ _ _ _ _) (fun _ h => (by cases h)) (fun _ h => (by cases h))

def slRA (p1 p4 : Nat) (i k : Nat) : List (Nat × Value) := [(1, .pointer (some ⟨p1, 0, none⟩)), (2, .bool false), (3, .int .i64 (Int.ofNat i)), (4, .pointer (some ⟨p4, 0, none⟩)), (5, .int .i64 (Int.ofNat k))]

def ri_o : Sy.O := (Sy.O.pack 4 0x8020 (Sy.O.fork (Sy.O.pack 40 0x404000840208161000220ac010180001421188010040100001 (Sy.O.fork Sy.O.nil Sy.O.nil)) Sy.O.nil))
noncomputable def ri_R (B : List (Nat × Sy.Cont)) (a : ActD) (p1 : Nat) (p4 : Nat) (tv : Value) (av : Value) (i : Nat) (k : Nat) (cells : Int) (loc : Int) (f : Nat → Value) (ns : Nat → Sy.Let) : Sy.Res (Exit × Nat × List Value × List Blk) := .need (∃ (p : Option Addr), ∃ (n : Nat), ∃ (c : Nat), av = Value.slice p n c) (.br (Ex.ltQ (Int.ofNat k) (Int.ofNat (Sy.lenS av))) (.need ((∃ (n : Nat), ∃ (c : Nat), av = Value.slice (some (Addr.mk (Sy.ptrS av) (Sy.offS av) none)) n c) ∧ (0 : Int) ≤ Int.ofNat k ∧ Int.ofNat k < (↑(Sy.lenS av) : Int)) (.need (∃ (i : Int), HasL (rdOf B) (Sy.ptrS av) (Sy.offS av + Int.toNat (Int.ofNat k) * (11 : Nat)) (.int .i64 i)) (.hyp (∀ (u : Value), HasL (rdOf B) (Sy.ptrS av) (Sy.offS av + Int.toNat (Int.ofNat k) * (11 : Nat)) u → u = Value.int .i64 (Let.i (ns 0))) (.need (∃ (i : Int), HasL (rdOf B) (Sy.ptrS av) (Sy.offS av + Int.toNat (Int.ofNat k) * (11 : Nat) + (1 : Nat)) (.int .i64 i)) (.hyp (∀ (u : Value), HasL (rdOf B) (Sy.ptrS av) (Sy.offS av + Int.toNat (Int.ofNat k) * (11 : Nat) + (1 : Nat)) u → u = Value.int .i64 (Let.i (ns 1))) (.need (∃ (i : Int), HasL (rdOf B) (Sy.ptrS av) (Sy.offS av + Int.toNat (Int.ofNat k) * (11 : Nat) + (1 : Nat) + (1 : Nat)) (.int .i64 i)) (.hyp (∀ (u : Value), HasL
 (rdOf B) (Sy.ptrS av) (Sy.offS av + Int.toNat (Int.ofNat k) * (11 : Nat) + (1 : Nat) + (1 : Nat)) u → u = Value.int .i64 (Let.i (ns 2))) (.need (∃ (i : Int), HasL (rdOf B) (Sy.ptrS av) (Sy.offS av + Int.toNat (Int.ofNat k) * (11 : Nat) + (1 : Nat) + (1 : Nat) + (1 : Nat)) (.int .i64 i)) (.hyp (∀ (u : Value), HasL (rdOf B) (Sy.ptrS av) (Sy.offS av + Int.toNat (Int.ofNat k) * (11 : Nat) + (1 : Nat) + (1 : Nat) + (1 : Nat)) u → u = Value.int .i64 (Let.i (ns 3))) (.need (∃ (v : Value), HasL (rdOf B) (Sy.ptrS av) (Sy.offS av + Int.toNat (Int.ofNat k) * (11 : Nat) + (1 : Nat) + (1 : Nat) + (1 : Nat) + (1 : Nat)) v) (.hyp (∀ (u : Value), HasL (rdOf B) (Sy.ptrS av) (Sy.offS av + Int.toNat (Int.ofNat k) * (11 : Nat) + (1 : Nat) + (1 : Nat) + (1 : Nat) + (1 : Nat)) u → u = Let.v (ns 4)) (.need (∃ (v : Value), HasL (rdOf B) (Sy.ptrS av) (Sy.offS av + Int.toNat (Int.ofNat k) * (11 : Nat) + (1 : Nat) + (1 : Nat) + (1 : Nat) + (1 : Nat) + (1 : Nat)) v) (.hyp (∀ (u : Value), HasL (rdOf B) (Sy.ptrS av)
 (Sy.offS av + Int.toNat (Int.ofNat k) * (11 : Nat) + (1 : Nat) + (1 : Nat) + (1 : Nat) + (1 : Nat) + (1 : Nat)) u → u = Let.v (ns 5)) (.need (∃ (v : Value), HasL (rdOf B) (Sy.ptrS av) (Sy.offS av + Int.toNat (Int.ofNat k) * (11 : Nat) + (1 : Nat) + (1 : Nat) + (1 : Nat) + (1 : Nat) + (1 : Nat) + (1 : Nat)) v) (.hyp (∀ (u : Value), HasL (rdOf B) (Sy.ptrS av) (Sy.offS av + Int.toNat (Int.ofNat k) * (11 : Nat) + (1 : Nat) + (1 : Nat) + (1 : Nat) + (1 : Nat) + (1 : Nat) + (1 : Nat)) u → u = Let.v (ns 6)) (.need (∃ (i : Int), HasL (rdOf B) (Sy.ptrS av) (Sy.offS av + Int.toNat (Int.ofNat k) * (11 : Nat) + (1 : Nat) + (1 : Nat) + (1 : Nat) + (1 : Nat) + (1 : Nat) + (1 : Nat) + (1 : Nat)) (.int .i64 i)) (.hyp (∀ (u : Value), HasL (rdOf B) (Sy.ptrS av) (Sy.offS av + Int.toNat (Int.ofNat k) * (11 : Nat) + (1 : Nat) + (1 : Nat) + (1 : Nat) + (1 : Nat) + (1 : Nat) + (1 : Nat) + (1 : Nat)) u → u = Value.int .i64 (Let.i (ns 7))) (.need (∃ (i : Int), HasL (rdOf B) (Sy.ptrS av) (Sy.offS av + Int.toNat
 (Int.ofNat k) * (11 : Nat) + (1 : Nat) + (1 : Nat) + (1 : Nat) + (1 : Nat) + (1 : Nat) + (1 : Nat) + (1 : Nat) + (1 : Nat)) (.int .i64 i)) (.hyp (∀ (u : Value), HasL (rdOf B) (Sy.ptrS av) (Sy.offS av + Int.toNat (Int.ofNat k) * (11 : Nat) + (1 : Nat) + (1 : Nat) + (1 : Nat) + (1 : Nat) + (1 : Nat) + (1 : Nat) + (1 : Nat) + (1 : Nat)) u → u = Value.int .i64 (Let.i (ns 8))) (.need (∃ (i : Int), HasL (rdOf B) (Sy.ptrS av) (Sy.offS av + Int.toNat (Int.ofNat k) * (11 : Nat) + (1 : Nat) + (1 : Nat) + (1 : Nat) + (1 : Nat) + (1 : Nat) + (1 : Nat) + (1 : Nat) + (1 : Nat) + (1 : Nat)) (.int .i64 i)) (.hyp (∀ (u : Value), HasL (rdOf B) (Sy.ptrS av) (Sy.offS av + Int.toNat (Int.ofNat k) * (11 : Nat) + (1 : Nat) + (1 : Nat) + (1 : Nat) + (1 : Nat) + (1 : Nat) + (1 : Nat) + (1 : Nat) + (1 : Nat) + (1 : Nat)) u → u = Value.int .i64 (Let.i (ns 9))) (.need (∃ (i : Int), HasL (rdOf B) (Sy.ptrS av) (Sy.offS av + Int.toNat (Int.ofNat k) * (11 : Nat) + (1 : Nat) + (1 : Nat) + (1 : Nat) + (1 : Nat) + (1 :
 Nat) + (1 : Nat) + (1 : Nat) + (1 : Nat) + (1 : Nat) + (1 : Nat)) (.int .i64 i)) (.hyp (∀ (u : Value), HasL (rdOf B) (Sy.ptrS av) (Sy.offS av + Int.toNat (Int.ofNat k) * (11 : Nat) + (1 : Nat) + (1 : Nat) + (1 : Nat) + (1 : Nat) + (1 : Nat) + (1 : Nat) + (1 : Nat) + (1 : Nat) + (1 : Nat) + (1 : Nat)) u → u = Value.int .i64 (Let.i (ns 10))) (.need (∃ (iv : Value), ∃ (ev : Value), ∃ (fv : Value), ∃ (tv_1 : Value), ∃ (av_1 : Value), Array.mk [Value.agg (Array.mk [.int .i64 (Let.i (ns 0)), .int .i64 (Let.i (ns 1)), .int .i64 (Let.i (ns 2)), .int .i64 (Let.i (ns 3)), Let.v (ns 4), Let.v (ns 5), Let.v (ns 6), .int .i64 (Let.i (ns 7)), .int .i64 (Let.i (ns 8)), .int .i64 (Let.i (ns 9)), .int .i64 (Let.i (ns 10))]), Value.agg (Array.mk [.int .i64 cells, tv]), Value.agg (Array.mk [.int .i64 loc, av])] = Array.mk [actV a iv ev fv, progV cells tv_1, thrV loc av_1] ∧ OkW B iv ev fv av_1 a (Sy.lenS av)) (.need (Sy.GotL (rdOf B) B) (.hyp True (.br (!actR cells loc (Sy.lenS av) a) (.leaf (Exit.ret,
 (62 : Nat), [.pointer (some (Addr.mk p1 0 none)), Value.bool false, .int .i64 (Int.ofNat i), .pointer (some (Addr.mk p4 0 none)), .int .i64 (Int.ofNat k)], Blk.mk p1 (.obj (.cells (Array.mk [.int .i64 cells, tv]) (27 : Nat))) true :: Blk.mk p4 (.obj (.cells (Array.mk [.int .i64 loc, av]) (37 : Nat))) true :: rdOf B)) (.leaf (Exit.normal, (62 : Nat), [.pointer (some (Addr.mk p1 0 none)), Value.bool false, .int .i64 (Int.ofNat i), .pointer (some (Addr.mk p4 0 none)), .int .i64 (Ex.wrapQ .i64 (Ex.addQ (Int.ofNat k) (1 : Int)))], Blk.mk p1 (.obj (.cells (Array.mk [.int .i64 cells, tv]) (27 : Nat))) true :: Blk.mk p4 (.obj (.cells (Array.mk [.int .i64 loc, av]) (37 : Nat))) true :: rdOf B))))))))))))))))))))))))))))) (.leaf (Exit.exit (2 : Nat), (62 : Nat), [.pointer (some (Addr.mk p1 0 none)), Value.bool false, .int .i64 (Int.ofNat i), .pointer (some (Addr.mk p4 0 none)), .int .i64 (Int.ofNat k)], Blk.mk p1 (.obj (.cells (Array.mk [.int .i64 cells, tv]) (27 : Nat))) true :: Blk.mk p4 (.obj
 (.cells (Array.mk [.int .i64 loc, av]) (37 : Nat))) true :: rdOf B)))

theorem ri_run (B : List (Nat × Sy.Cont)) (a : ActD) (p1 p4 : Nat) (tv av : Value) (i k : Nat) (cells loc : Int) (f : Nat → Value) : Sy.Ran (Sy.pieceT Try.prog (ctxRA B a cells loc (Sy.lenS av)) 50 fRWhole bodyRA 62 (slRA p1 p4 i k) ((List.range 62).map f) ((memA2 p1 p4 cells loc tv av).map Sy.ownOf ++ rdOf B) [1, 2, 3, 4, 5]) ri_o (ri_R B a p1 p4 tv av i k cells loc f) := ⟨fun ns => by kernel_rfl, fun ns => by kernel_rfl⟩

end Go.Proofs.Ytbgmkefehfjicaa

/-
  The reference's look at a program: the acts of a thread, the contract.
-/
namespace Go.Proofs.Ytbgmkefehfjicaa
open Go Go.RowKit
open Sy (Let Blk HasL)

def badRAct (cells loc : Int) (l : List ActD) : Prop := ∃ (i : Nat) (a : ActD), l[i]? = some a ∧ actR cells loc l.length a = false

noncomputable def loopRAC (B : List (Nat × Sy.Cont)) (l : List ActD) (p1 p4 : Nat) (tv av : Value) (i : Nat) (cells loc : Int) : Sy.LoopC :=
  ⟨.loop bodyRA, 62, slRA p1 p4 i 0, ActsR B av l, ⟨[], memA2 p1 p4 cells loc tv av, 0, B⟩,
    [(⟨fun _ => badRAct cells loc l, fun _ => [], fun _ => []⟩, .ret, fun _ => [(2, .bool false)]),
     (⟨fun _ => ¬ badRAct cells loc l, fun _ => memA2 p1 p4 cells loc tv av, fun _ => []⟩, .exit 2, fun _ => [(1, .pointer (some ⟨p1, 0, none⟩)), (2, .bool false), (3, .int .i64 (Int.ofNat i)), (4, .pointer (some ⟨p4, 0, none⟩))])]⟩

theorem loopRAC_met (B : List (Nat × Sy.Cont)) (l : List ActD) (p1 p4 : Nat) (tv av : Value) (i : Nat) (cells loc : Int) : Sy.MeetsL Try.prog (loopRAC B l p1 p4 tv av i cells loc) := by
  refine Sy.loop_ofB (σ := Nat × ActD) (S := fun s => ctxRA B s.2 cells loc (Sy.lenS av)) (n := 50) (fn := fRWhole) (fun _ => ctxRA_holds _ _ _ _ _) mixed (body := bodyRA) rfl [1, 2, 3, 4, 5] (fun s => slRA p1 p4 i s.1)
    (fun _ => (memA2 p1 p4 cells loc tv av).map Sy.ownOf ++ rdOf B) (fun s => s.1 ≤ l.length ∧ ActsR B av l ∧ (∀ j a, j < s.1 → l[j]? = some a → actR cells loc l.length a = true) ∧ ∀ a, l[s.1]? = some a → s.2 = a) (fun s => l.length - s.1)
    (0, l.headD ⟨0, 0, 0, 0, [], [], [], 0, 0, 0, 0⟩) (fun h => ⟨Nat.zero_le _, h, fun i x hi => by simp at hi, fun a ha => by cases l <;> simp_all⟩) (fun p hp => hp) (Sy.Ent.refl _) (o := fun _ => ri_o) (R := fun s f => ri_R B s.2 p1 p4 tv av i s.1 cells loc f) (fun s f _ => ri_run B s.2 p1 p4 tv av i s.1 cells loc f) ?_
  rintro - ⟨k, a⟩ f ⟨hk, hR, hinv, ha⟩ ns
  simp only at hk hinv ha
  simp only [ri_R, Sy.Res.holds]
  refine ⟨hR.sl, fun hlt => ?_, fun hge => ?_⟩
  · have hlt : k < l.length := by rw [Ex.ltQ_eq, hR.len] at hlt; simpa using hlt
    obtain ⟨a', hn⟩ : ∃ n, l[k]? = some n := ⟨_, List.getElem?_eq_getElem hlt⟩
    obtain rfl : a = a' := ha a' hn
    obtain ⟨iv, ev, fv, hA⟩ := hR.act k a hn
    refine ⟨⟨hR.at_ (fun h => by rw [h] at hlt; simp at hlt), by simp, by rw [hR.len]; simpa using hlt⟩, ⟨_, hA.op⟩, fun e0 => ⟨⟨_, hA.dst⟩, fun e1 => ⟨⟨_, hA.base⟩, fun e2 => ⟨⟨_, hA.size⟩, fun e3 => ⟨⟨_, hA.ivc⟩, fun e4 => ⟨⟨_, hA.evc⟩, fun e5 => ⟨⟨_, hA.fvc⟩, fun e6 => ⟨⟨_, hA.mode⟩, fun e7 => ⟨⟨_, hA.to⟩, fun e8 => ⟨⟨_, hA.line⟩, fun e9 => ⟨⟨_, hA.col⟩, fun e10 => ?_⟩⟩⟩⟩⟩⟩⟩⟩⟩⟩⟩
    have e0 := e0 _ hA.op
    have e1 := e1 _ hA.dst
    have e2 := e2 _ hA.base
    have e3 := e3 _ hA.size
    have e4 := e4 _ hA.ivc
    have e5 := e5 _ hA.evc
    have e6 := e6 _ hA.fvc
    have e7 := e7 _ hA.mode
    have e8 := e8 _ hA.to
    have e9 := e9 _ hA.line
    have e10 := e10 _ hA.col
    simp only [Value.int.injEq, true_and] at e0 e1 e2 e3 e7 e8 e9 e10
    rw [← e0, ← e1, ← e2, ← e3, ← e4, ← e5, ← e6, ← e7, ← e8, ← e9, ← e10]
    refine ⟨⟨iv, ev, fv, tv, av, rfl, hA.i, hA.e, hA.f, hR.sl, rfl⟩, gotL_of (fun p hp => hp), fun _ => ⟨fun hb => ?_, fun hb => ?_⟩⟩
    · refine ⟨rfl, .inr ⟨by simp, _, List.mem_cons_self, rfl, [], rfl, ⟨[1], rfl⟩, Sy.Ent.sub (List.nil_sublist _), k, a, hn, ?_⟩⟩
      rw [hR.len] at hb
      simpa using hb
    · rw [hR.len] at hb
      refine ⟨rfl, .inl ⟨rfl, (k + 1, l.getD (k + 1) a), ⟨by show k + 1 ≤ l.length; omega, hR, fun j x hj hx => ?_, fun x hx => ?_⟩, by show l.length - (k + 1) < l.length - k; omega, ?_, Sy.Ent.refl _⟩⟩
      · by_cases he : j = k
        · subst he
          rw [hn] at hx
          injection hx with hx
          rw [← hx]
          simpa using hb
        · exact hinv j x (by simp only at hj; omega) hx
      · simp only at hx
        show l.getD (k + 1) a = x
        rw [List.getD_eq_getElem?_getD, hx]
        rfl
      · rw [w_succ (by have := hR.lt; omega)]
        rfl
  · have hge : k = l.length := by rw [Ex.ltQ_eq, hR.len] at hge; simp at hge; omega
    subst hge
    refine ⟨rfl, .inr ⟨by simp, _, List.mem_cons_of_mem _ (List.mem_singleton_self _), rfl, [], rfl, ⟨[0, 1, 2, 3], rfl⟩, ?_, ?_⟩⟩
    · exact Sy.Ent.sub (by simp only [List.append_nil]; exact List.sublist_append_left _ _)
    · rintro ⟨j, x, hx, hp⟩
      rw [hinv j x (List.getElem?_eq_some_iff.1 hx).1 hx] at hp
      cases hp

end Go.Proofs.Ytbgmkefehfjicaa

/-
  The reference's look at a program: the threads.
-/
namespace Go.Proofs.Ytbgmkefehfjicaa
set_option linter.unusedVariables false
set_option linter.unusedSimpArgs false
open Go Go.RowKit
open Sy (Let Blk HasL)

noncomputable def Sy.avL (L : List Blk) : Value := match L with
  | ⟨_, .obj (.cells cs _ _), _⟩ :: _ => Sy.argV cs 1
  | _ => undef

noncomputable def ctxRT (B : List (Nat × Sy.Cont)) (l : List ActD) (p1 : Nat) (tv : Value) (i : Nat) (cells : Int) : Sy.Ctx := Sy.mkS [] [(fRWhole, fun a L => loopRAC B l p1 (Sy.ptrN (a.get 4)) tv (Sy.avL L) i cells (Sy.locL L))] []
theorem ctxRT_holds (B : List (Nat × Sy.Cont)) (l : List ActD) (p1 : Nat) (tv : Value) (i : Nat) (cells : Int) : (ctxRT B l p1 tv i cells).holds Try.prog := Sy.mkS_holds (fun _ h => (by cases h)) (fun p hp a L => by
  rcases List.mem_singleton.1 hp with rfl
  exact loopRAC_met _ _ _ _ _ _ _ _ _) (fun _ h => (by cases h))

def slRT (p1 : Nat) (i : Nat) : List (Nat × Value) := [(1, .pointer (some ⟨p1, 0, none⟩)), (2, .bool false), (3, .int .i64 (Int.ofNat i))]

def rt_o : Sy.O := (Sy.O.pack 4 0x8000 (Sy.O.fork (Sy.O.pack 21 0x10000100001000010002108000 (Sy.O.fork Sy.O.nil (Sy.O.pack 7 0x2100420 (Sy.O.fork (Sy.O.steps [0, 1] Sy.O.nil) (Sy.O.steps [0, 1] Sy.O.nil))))) Sy.O.nil))
noncomputable def rt_R (B : List (Nat × Sy.Cont)) (l : List ActD) (p1 : Nat) (tv : Value) (i : Nat) (cells : Int) (f : Nat → Value) (ns : Nat → Sy.Let) : Sy.Res (Exit × Nat × List Value × List Blk) := .need (∃ (p : Option Addr), ∃ (n : Nat), ∃ (c : Nat), tv = Value.slice p n c) (.br (Ex.ltQ (Int.ofNat i) (Int.ofNat (Sy.lenS tv))) (.need ((∃ (n : Nat), ∃ (c : Nat), tv = Value.slice (some (Addr.mk (Sy.ptrS tv) (Sy.offS tv) none)) n c) ∧ (0 : Int) ≤ Int.ofNat i ∧ Int.ofNat i < (↑(Sy.lenS tv) : Int)) (.need (∃ (i_1 : Int), HasL (rdOf B) (Sy.ptrS tv) (Sy.offS tv + Int.toNat (Int.ofNat i) * (2 : Nat)) (.int .i64 i_1)) (.hyp (∀ (u : Value), HasL (rdOf B) (Sy.ptrS tv) (Sy.offS tv + Int.toNat (Int.ofNat i) * (2 : Nat)) u → u = Value.int .i64 (Let.i (ns 0))) (.need (∃ (v : Value), HasL (rdOf B) (Sy.ptrS tv) (Sy.offS tv + Int.toNat (Int.ofNat i) * (2 : Nat) + (1 : Nat)) v) (.hyp (∀ (u : Value), HasL (rdOf B) (Sy.ptrS tv) (Sy.offS tv + Int.toNat (Int.ofNat i) * (2 : Nat) + (1 : Nat)) u → u = Let.v (ns 1)) (.need ((2 : Nat) = (2 : Nat) ∧ (2 : Nat) = (2 : Nat) ∧ Array.all (Array.mk [.int .i64 (Let.i (ns 0)), Let.v (ns 1)]) (fun (x : Value) => Value.oneCell' x) (0 : Nat) (2 : Nat) = true) (.need
 (∃ (p : Option Addr), ∃ (n : Nat), ∃ (c : Nat), Let.v (ns 1) = Value.slice p n c) (.br (bif bif Ex.ltQ (Let.i (ns 0)) (0 : Int) then true else Ex.ltQ (24 : Int) (Let.i (ns 0)) then true else Ex.ltQ (65536 : Int) (Int.ofNat (Sy.lenS (Let.v (ns 1))))) (.leaf (Exit.ret, (62 : Nat), [.pointer (some (Addr.mk p1 0 none)), Value.bool false, .int .i64 (Int.ofNat i)], Blk.mk (Let.n (ns 2)) (.obj (.cells (Array.mk [.int .i64 (Let.i (ns 0)), Let.v (ns 1)]) (37 : Nat))) true :: Blk.mk p1 (.obj (.cells (Array.mk [.int .i64 cells, tv]) (27 : Nat))) true :: rdOf B)) (.need (ActsR B (Let.v (ns 1)) l) (.need (Sy.GotL ([] ++ List.eraseIdx (Blk.mk p1 (.obj (.cells (Array.mk [.int .i64 cells, tv]) (27 : Nat))) true :: rdOf B) (nat_lit 0)) B) (.both (.hyp (∃ (i : Nat), ∃ (a : ActD), l[i]? = some a ∧ actR cells (Let.i (ns 0)) (List.length l) a = false) (.leaf (Exit.ret, (62 : Nat), [List.rec (Value.tuple (Array.mk [])) (fun (p : Nat × Value) (x : List (Nat × Value)) (ih : Value) => Bool.rec ih (Prod.snd p)
 (Nat.beq (Prod.fst p) (1 : Nat))) (Sy.argsW (0 : Nat) (Let.l (ns 3))), Value.bool false, List.rec (Value.tuple (Array.mk [])) (fun (p : Nat × Value) (x : List (Nat × Value)) (ih : Value) => Bool.rec ih (Prod.snd p) (Nat.beq (Prod.fst p) (3 : Nat))) (Sy.argsW (0 : Nat) (Let.l (ns 3)))], [] ++ ([] ++ List.eraseIdx (Blk.mk p1 (.obj (.cells (Array.mk [.int .i64 cells, tv]) (27 : Nat))) true :: rdOf B) (nat_lit 0))))) (.hyp (badRAct cells (Let.i (ns 0)) l → False) (.leaf (Exit.normal, (62 : Nat), [.pointer (some (Addr.mk p1 0 none)), Value.bool false, .int .i64 (Ex.wrapQ .i64 (Ex.addQ (Int.ofNat i) (1 : Int)))], Blk.mk p1 (.obj (.cells (Array.mk [.int .i64 cells, tv]) (27 : Nat))) true :: Blk.mk (Let.n (ns 2)) (.obj (.cells (Array.mk [.int .i64 (Let.i (ns 0)), Let.v (ns 1)]) (37 : Nat))) true :: ([] ++ List.eraseIdx (Blk.mk p1 (.obj (.cells (Array.mk [.int .i64 cells, tv]) (27 : Nat))) true :: rdOf B) (nat_lit 0)))))))))))))))) (.leaf (Exit.exit (0 : Nat), (62 : Nat), [.pointer (some
 (Addr.mk p1 0 none)), Value.bool false, .int .i64 (Int.ofNat i)], Blk.mk p1 (.obj (.cells (Array.mk [.int .i64 cells, tv]) (27 : Nat))) true :: rdOf B)))

theorem rt_run (B : List (Nat × Sy.Cont)) (l : List ActD) (p1 : Nat) (tv : Value) (i : Nat) (cells : Int) (f : Nat → Value) : Sy.Ran (Sy.pieceT Try.prog (ctxRT B l p1 tv i cells) 50 fRWhole bodyRT 62 (slRT p1 i) ((List.range 62).map f) ((memT p1 cells tv).map Sy.ownOf ++ rdOf B) [1, 2, 3]) rt_o (rt_R B l p1 tv i cells f) := ⟨fun ns => by kernel_rfl, fun ns => by kernel_rfl⟩

end Go.Proofs.Ytbgmkefehfjicaa

/-
  The reference's look at a program: the threads, the contract.
-/
namespace Go.Proofs.Ytbgmkefehfjicaa
open Go Go.RowKit
open Sy (Let Blk HasL)

def badRThr (cells : Int) (t : ThreadD) : Prop := out1 t = true ∨ badRAct cells t.locals t.acts
def badRThrs (cells : Int) (l : List ThreadD) : Prop := ∃ (i : Nat) (t : ThreadD), l[i]? = some t ∧ badRThr cells t

noncomputable def loopRTC (B : List (Nat × Sy.Cont)) (l : List ThreadD) (p1 : Nat) (tv : Value) (cells : Int) : Sy.LoopC :=
  ⟨.loop bodyRT, 62, slRT p1 0, ThreadsR B tv l, ⟨[], memT p1 cells tv, 0, B⟩,
    [(⟨fun _ => badRThrs cells l, fun _ => [], fun _ => []⟩, .ret, fun _ => [(2, .bool false)]),
     (⟨fun _ => ¬ badRThrs cells l, fun _ => [], fun _ => []⟩, .exit 0, fun _ => [(2, .bool false)])]⟩

theorem loopRTC_met (B : List (Nat × Sy.Cont)) (l : List ThreadD) (p1 : Nat) (tv : Value) (cells : Int) : Sy.MeetsL Try.prog (loopRTC B l p1 tv cells) := by
  refine Sy.loop_ofB (σ := Nat × ThreadD) (S := fun s => ctxRT B s.2.acts p1 tv s.1 cells) (n := 50) (fn := fRWhole) (fun _ => ctxRT_holds _ _ _ _ _ _) mixed (body := bodyRT) rfl [1, 2, 3] (fun s => slRT p1 s.1)
    (fun _ => (memT p1 cells tv).map Sy.ownOf ++ rdOf B) (fun s => s.1 ≤ l.length ∧ ThreadsR B tv l ∧ (∀ j t, j < s.1 → l[j]? = some t → ¬ badRThr cells t) ∧ ∀ t, l[s.1]? = some t → s.2 = t) (fun s => l.length - s.1)
    (0, l.headD ⟨0, []⟩) (fun h => ⟨Nat.zero_le _, h, fun i x hi => by simp at hi, fun a ha => by cases l <;> simp_all⟩) (fun p hp => hp) (Sy.Ent.refl _) (o := fun _ => rt_o) (R := fun s f => rt_R B s.2.acts p1 tv s.1 cells f) (fun s f _ => rt_run B s.2.acts p1 tv s.1 cells f) ?_
  rintro - ⟨k, t⟩ f ⟨hk, hR, hinv, ha⟩ ns
  simp only at hk hinv ha
  simp only [rt_R, Sy.Res.holds]
  refine ⟨hR.sl, fun hlt => ?_, fun hge => ?_⟩
  · have hlt : k < l.length := by rw [Ex.ltQ_eq, hR.len] at hlt; simpa using hlt
    obtain ⟨t', hn⟩ : ∃ n, l[k]? = some n := ⟨_, List.getElem?_eq_getElem hlt⟩
    obtain rfl : t = t' := ha t' hn
    obtain ⟨av, h0, h1, hA⟩ := hR.thr k t hn
    refine ⟨⟨hR.at_ (fun h => by rw [h] at hlt; simp at hlt), by simp, by rw [hR.len]; simpa using hlt⟩, ⟨_, h0⟩, fun e0 => ⟨⟨_, h1⟩, fun e1 => ?_⟩⟩
    have e0 := e0 _ h0
    have e1 := e1 _ h1
    simp only [Value.int.injEq, true_and] at e0
    rw [← e0, ← e1]
    obtain ⟨p, n, c, hav⟩ := hA.sl
    refine ⟨?_, hA.sl, fun hb => ?_, fun hb => ⟨hA, gotL_of (fun p hp => hp), fun hbad => ?_, fun hgood => ?_⟩⟩
    · simp [hav, Value.oneCell']
    · refine ⟨rfl, .inr ⟨by simp, _, List.mem_cons_self, rfl, [], rfl, ⟨[1], rfl⟩, Sy.Ent.sub (List.nil_sublist _), k, t, hn, .inl ?_⟩⟩
      rw [hA.len] at hb
      exact hb
    · exact ⟨rfl, .inr ⟨by simp, _, List.mem_cons_self, rfl, [], rfl, ⟨[1], rfl⟩, Sy.Ent.sub (List.nil_sublist _), k, t, hn, .inr hbad⟩⟩
    · refine ⟨rfl, .inl ⟨rfl, (k + 1, l.getD (k + 1) t), ⟨by show k + 1 ≤ l.length; omega, hR, fun j x hj hx => ?_, fun x hx => ?_⟩, by show l.length - (k + 1) < l.length - k; omega, ?_, Sy.Ent.sub ((List.sublist_cons_self _ _).cons_cons _)⟩⟩
      · by_cases he : j = k
        · subst he
          rw [hn] at hx
          injection hx with hx
          subst hx
          rw [hA.len] at hb
          rintro (h | h)
          · exact absurd h (by unfold out1; rw [hb]; exact Bool.false_ne_true)
          · exact hgood h
        · exact hinv j x (by simp only at hj; omega) hx
      · simp only at hx
        show l.getD (k + 1) t = x
        rw [List.getD_eq_getElem?_getD, hx]
        rfl
      · rw [w_succ (by have := hR.lt; omega)]
        rfl
  · have hge : k = l.length := by rw [Ex.ltQ_eq, hR.len] at hge; simp at hge; omega
    subst hge
    refine ⟨rfl, .inr ⟨by simp, _, List.mem_cons_of_mem _ (List.mem_singleton_self _), rfl, [], rfl, ⟨[1], rfl⟩, Sy.Ent.sub (List.nil_sublist _), ?_⟩⟩
    rintro ⟨j, x, hx, hp⟩
    exact hinv j x (List.getElem?_eq_some_iff.1 hx).1 hx hp

noncomputable def ctxRG (B : List (Nat × Sy.Cont)) (l : List ThreadD) (tv : Value) (cells : Int) : Sy.Ctx := Sy.mkS [] [(fRWhole, fun a _ => loopRTC B l (Sy.ptrN (a.get 1)) tv cells)] []
theorem ctxRG_holds (B : List (Nat × Sy.Cont)) (l : List ThreadD) (tv : Value) (cells : Int) : (ctxRG B l tv cells).holds Try.prog := Sy.mkS_holds (fun _ h => (by cases h)) (fun p hp a L => by
  rcases List.mem_singleton.1 hp with rfl
  exact loopRTC_met _ _ _ _ _) (fun _ h => (by cases h))

end Go.Proofs.Ytbgmkefehfjicaa

/-
  The reference's look at a program, whole.
-/
namespace Go.Proofs.Ytbgmkefehfjicaa
set_option linter.unusedVariables false
set_option linter.unusedSimpArgs false
open Go Go.RowKit
open Sy (Let Blk HasL)

def rg_o : Sy.O := (Sy.O.pack 12 0x80000800008000 (Sy.O.fork Sy.O.nil (Sy.O.pack 5 0x8400 (Sy.O.fork (Sy.O.steps [0, 1] Sy.O.nil) (Sy.O.steps [0, 1] Sy.O.nil)))))
noncomputable def rg_R (B : List (Nat × Sy.Cont)) (l : List ThreadD) (tv : Value) (cells : Int) (ns : Nat → Sy.Let) : Sy.Res (Value × List Blk) := .need (∃ (p : Option Addr), ∃ (n : Nat), ∃ (c : Nat), tv = Value.slice p n c) (.br (bif bif Ex.ltQ cells (0 : Int) then true else Ex.ltQ (4096 : Int) cells then true else Ex.ltQ (64 : Int) (Int.ofNat (Sy.lenS tv))) (.leaf (Value.bool false, Blk.mk (Let.n (ns 0)) (.obj (.cells (Array.mk [.int .i64 cells, tv]) (27 : Nat))) true :: rdOf B)) (.need (ThreadsR B tv l) (.need (Sy.GotL ([] ++ rdOf B) B) (.both (.hyp (∃ (i : Nat), ∃ (t : ThreadD), l[i]? = some t ∧ badRThr cells t) (.leaf (Value.bool false, [] ++ ([] ++ rdOf B)))) (.hyp (badRThrs cells l → False) (.leaf (Value.bool true, [] ++ ([] ++ rdOf B))))))))

theorem rg_run (B : List (Nat × Sy.Cont)) (l : List ThreadD) (tv : Value) (cells : Int) : Sy.Ran (Sy.inB Try.prog (ctxRG B l tv cells) 50 fRWhole #[progV cells tv] (rdOf B)) rg_o (rg_R B l tv cells) := ⟨fun ns => by kernel_rfl, fun ns => by kernel_rfl⟩

end Go.Proofs.Ytbgmkefehfjicaa

/-
  The reference's look at a program: the contract.
-/
namespace Go.Proofs.Ytbgmkefehfjicaa
open Go Go.RowKit
open Sy (Let Blk HasL)

open Classical in
/-- What the reference's Whole says. -/
noncomputable def wholeR (cells : Int) (l : List ThreadD) : Bool := decide (¬ (out0 cells l = true ∨ badRThrs cells l))

noncomputable def rwholeC (B : List (Nat × Sy.Cont)) (tv : Value) (l : List ThreadD) (cells : Int) : Sy.CallC := ⟨fRWhole, #[progV cells tv], ThreadsR B tv l, ⟨[], [], 0, B⟩, [Sy.plainO (.bool (wholeR cells l))]⟩

open Classical in
theorem rwholeC_met (B : List (Nat × Sy.Cont)) (tv : Value) (l : List ThreadD) (cells : Int) : Sy.Meets Try.prog (rwholeC B tv l cells) := by
  refine Sy.meets_ofB (ctxRG_holds B l tv cells) mixed (L := rdOf B) (Sy.Ent.refl _) (rg_run B l tv cells) fun hR ns => ?_
  have leaf : ∀ (b : Bool) (L : List Blk), b = wholeR cells l → Sy.leafB (rwholeC B tv l cells) (.bool b, L) := fun b L h => plainB_leaf (List.mem_singleton_self _) rfl (by rw [h])
  replace hR : ThreadsR B tv l := hR
  simp only [rg_R, Sy.Res.holds]
  refine ⟨hR.sl, fun hb => leaf _ _ ?_, fun hb => ⟨hR, gotL_of (fun p hp => by simpa using hp), fun h => leaf _ _ ?_, fun h => leaf _ _ ?_⟩⟩
  · rw [hR.len] at hb
    exact (decide_eq_false (fun h => h (.inl hb))).symm
  · exact (decide_eq_false (fun h' => h' (.inr h))).symm
  · rw [hR.len] at hb
    refine (decide_eq_true ?_).symm
    rintro (h' | h')
    · exact absurd h' (by unfold out0; rw [hb]; exact Bool.false_ne_true)
    · exact h h'

end Go.Proofs.Ytbgmkefehfjicaa

/-
  The plain law: a node, told both ways.
-/
namespace Go.Proofs.Ytbgmkefehfjicaa
open Go Go.RowKit

/-- A node that may be number i. -/
def okX (loc : Int) (i : Nat) (n : NodeD) : Prop := (n.op = 1 ∧ n.a = 0 ∧ n.b = 0) ∨ (n.op = 2 ∧ n.a = 0 ∧ n.b = 0 ∧ n.val < Ex.wrapQ .u64 loc)
  ∨ (3 ≤ n.op ∧ n.op ≤ 5 ∧ 0 ≤ n.a ∧ n.a < i ∧ n.b = 0 ∧ n.val = 0) ∨ (6 ≤ n.op ∧ n.op ≤ 19 ∧ 0 ≤ n.a ∧ n.a < i ∧ 0 ≤ n.b ∧ n.b < i ∧ n.val = 0)

theorem badX_iff (loc : Int) (i : Nat) (n : NodeD) : badX loc i n = false ↔ okX loc i n := by
  unfold badX okX
  generalize Ex.wrapQ .u64 loc = w
  simp only [Ex.eqQ_eq, Ex.leQ_eq, Ex.ltQ_eq]
  by_cases h1 : n.op = 1
  · simp [h1]
  · by_cases h2 : n.op = 2
    · simp [h2]
      by_cases ha : n.a = 0 <;> by_cases hv : n.val < w <;> simp [ha, hv]
    · by_cases h3 : 3 ≤ n.op
      · by_cases h5 : n.op ≤ 5
        · have h6 : ¬ 6 ≤ n.op := by omega
          simp [h1, h2, h3, h5, h6]
          by_cases h0 : 0 ≤ n.a <;> by_cases hi : n.a < i <;> by_cases hb : n.b = 0 <;> simp [h0, hi, hb]
        · have h6 : 6 ≤ n.op := by omega
          simp [h1, h2, h3, h5, h6]
          by_cases h0 : 0 ≤ n.a <;> by_cases hi : n.a < i <;> by_cases g0 : 0 ≤ n.b <;> by_cases gi : n.b < i <;> by_cases h19 : n.op ≤ 19 <;> simp [h0, hi, g0, gi, h19]
      · have h6 : ¬ 6 ≤ n.op := by omega
        simp [h1, h2, h3, h6]

theorem beq_no {a b : Int} (h : ¬ a = b) : (a == b) = false := beq_eq_false_iff_ne.2 h
theorem beq_yes {a b : Int} (h : a = b) : (a == b) = true := by simp [h]
theorem dec_no {p : Prop} [Decidable p] (h : ¬ p) : decide p = false := decide_eq_false h
theorem dec_yes {p : Prop} [Decidable p] (h : p) : decide p = true := decide_eq_true h

/-- The step for each kind of node that may be. -/
theorem stepE_leaf {loc : Int} {i : Nat} {n : NodeD} (h : okX loc i n) (h2 : n.op ≤ 2) (w : List Bool) : stepE loc i n w = some w := by
  rcases h with ⟨h1, ha, hb⟩ | ⟨h1, ha, hb, hv⟩ | ⟨h1, _⟩ | ⟨h1, _⟩
  · unfold stepE
    simp [Ex.eqQ_eq, h1, ha, hb]
  · unfold stepE
    have : ¬ Ex.wrapQ .u64 loc ≤ n.val := by omega
    simp [Ex.eqQ_eq, Ex.leQ_eq, h1, ha, hb, dec_no this]
  · omega
  · omega
theorem stepE_one {loc : Int} {i : Nat} {n : NodeD} (h : okX loc i n) (h3 : 3 ≤ n.op) (h5 : n.op ≤ 5) (w : List Bool) : stepE loc i n w = bif w.getD n.a.toNat false then none else some (w.set n.a.toNat true) := by
  rcases h with ⟨h1, _⟩ | ⟨h1, _⟩ | ⟨_, _, ha, hi, hb, hv⟩ | ⟨h1, _⟩
  · omega
  · omega
  · unfold stepE
    simp only [Ex.eqQ_eq, Ex.leQ_eq, Ex.ltQ_eq]
    rw [beq_no (show ¬ n.op = 1 by omega), beq_no (show ¬ n.op = 2 by omega), dec_no (show ¬ n.op < 1 by omega), dec_no (show ¬ 19 < n.op by omega), beq_yes hv, dec_no (show ¬ n.a < 0 by omega), dec_no (show ¬ Int.ofNat i ≤ n.a by simp; omega), dec_yes h5, beq_yes hb]
    rfl
  · omega
theorem stepE_two {loc : Int} {i : Nat} {n : NodeD} (h : okX loc i n) (h6 : 6 ≤ n.op) (w : List Bool) : stepE loc i n w = bif w.getD n.a.toNat false then none else bif (w.set n.a.toNat true).getD n.b.toNat false then none else some ((w.set n.a.toNat true).set n.b.toNat true) := by
  rcases h with ⟨h1, _⟩ | ⟨h1, _⟩ | ⟨_, _, _⟩ | ⟨_, h19, ha, hi, hb, hj, hv⟩
  · omega
  · omega
  · omega
  · unfold stepE
    simp only [Ex.eqQ_eq, Ex.leQ_eq, Ex.ltQ_eq]
    rw [beq_no (show ¬ n.op = 1 by omega), beq_no (show ¬ n.op = 2 by omega), dec_no (show ¬ n.op < 1 by omega), dec_no (show ¬ 19 < n.op by omega), beq_yes hv, dec_no (show ¬ n.a < 0 by omega), dec_no (show ¬ Int.ofNat i ≤ n.a by simp; omega), dec_no (show ¬ n.op ≤ 5 by omega), dec_no (show ¬ n.b < 0 by omega), dec_no (show ¬ Int.ofNat i ≤ n.b by simp; omega)]
    rfl

theorem stepE_bad {loc : Int} {i : Nat} {n : NodeD} (h : ¬ okX loc i n) (w : List Bool) : stepE loc i n w = none := by
  unfold stepE
  simp only [Ex.eqQ_eq, Ex.leQ_eq, Ex.ltQ_eq]
  by_cases h1 : n.op = 1
  · rw [beq_yes h1, beq_no (show ¬ n.op = 2 by omega)]
    by_cases ha : n.a = 0
    · by_cases hb : n.b = 0
      · exact absurd (.inl ⟨h1, ha, hb⟩) h
      · rw [beq_yes ha, beq_no hb]; rfl
    · rw [beq_no ha]; rfl
  · by_cases h2 : n.op = 2
    · rw [beq_no h1, beq_yes h2]
      by_cases ha : n.a = 0
      · by_cases hb : n.b = 0
        · by_cases hv : n.val < Ex.wrapQ .u64 loc
          · exact absurd (.inr (.inl ⟨h2, ha, hb, hv⟩)) h
          · rw [beq_yes ha, beq_yes hb, dec_yes (show Ex.wrapQ .u64 loc ≤ n.val by omega)]; rfl
        · rw [beq_yes ha, beq_no hb]; rfl
      · rw [beq_no ha]; rfl
    · rw [beq_no h1, beq_no h2]
      by_cases g1 : n.op < 1
      · rw [dec_yes g1]; rfl
      by_cases g2 : 19 < n.op
      · rw [dec_no g1, dec_yes g2]; rfl
      by_cases g3 : n.val = 0
      · by_cases g4 : n.a < 0
        · rw [dec_no g1, dec_no g2, beq_yes g3, dec_yes g4]; rfl
        by_cases g5 : Int.ofNat i ≤ n.a
        · rw [dec_no g1, dec_no g2, beq_yes g3, dec_no g4, dec_yes g5]; rfl
        have g5' : n.a < i := by simp at g5; omega
        rw [dec_no g1, dec_no g2, beq_yes g3, dec_no g4, dec_no g5]
        cases w.getD n.a.toNat false with
        | true => rfl
        | false =>
          by_cases g6 : n.op ≤ 5
          · by_cases hb : n.b = 0
            · exact absurd (.inr (.inr (.inl ⟨by omega, g6, by omega, g5', hb, g3⟩))) h
            · rw [dec_yes g6, beq_no hb]; rfl
          · by_cases g7 : n.b < 0
            · rw [dec_no g6, dec_yes g7]; rfl
            by_cases g8 : Int.ofNat i ≤ n.b
            · rw [dec_no g6, dec_no g7, dec_yes g8]; rfl
            have g8' : n.b < i := by simp at g8; omega
            exact absurd (.inr (.inr (.inr ⟨by omega, by omega, by omega, g5', by omega, g8', g3⟩))) h
      · rw [dec_no g1, dec_no g2, beq_no g3]; rfl

end Go.Proofs.Ytbgmkefehfjicaa

/-
  The plain law: counts and marks.
-/
namespace Go.Proofs.Ytbgmkefehfjicaa
open Go Go.RowKit

theorem getD_set' {α : Type} (l : List α) (i j : Nat) (x d : α) (h : i < l.length) : (l.set i x).getD j d = if i = j then x else l.getD j d := by
  rw [List.getD_eq_getElem?_getD, List.getElem?_set]
  by_cases hij : i = j
  · subst hij
    simp [h]
  · simp [hij, List.getD_eq_getElem?_getD]

/-- Each number is used once if it is marked, and not at all if it is not. -/
def RelU (u : List Int) (w : List Bool) : Prop := u.length = w.length ∧ ∀ j, u.getD j 0 = bif w.getD j false then 1 else 0

theorem rel_bump {u : List Int} {w : List Bool} (h : RelU u w) {a : Int} (ha : a.toNat < w.length) (hf : w.getD a.toNat false = false) : RelU (bump u a) (w.set a.toNat true) := by
  refine ⟨by simp [bump, h.1], fun j => ?_⟩
  unfold bump
  rw [getD_set' _ _ _ _ _ (by rw [h.1]; exact ha), getD_set' _ _ _ _ _ ha]
  by_cases hj : a.toNat = j
  · subst hj
    rw [if_pos rfl, if_pos rfl, h.2, hf]
    rfl
  · rw [if_neg hj, if_neg hj]
    exact h.2 j

theorem rel_two {u : List Int} {w : List Bool} (h : RelU u w) {a : Int} (ha : a.toNat < w.length) (hf : w.getD a.toNat false = true) : (bump u a).getD a.toNat 0 = 2 := by
  unfold bump
  rw [getD_set' _ _ _ _ _ (by rw [h.1]; exact ha), if_pos rfl, h.2, hf]
  rfl

theorem bump_mono (u : List Int) (a : Int) (j : Nat) : u.getD j 0 ≤ (bump u a).getD j 0 := by
  unfold bump
  by_cases ha : a.toNat < u.length
  · rw [getD_set' _ _ _ _ _ ha]
    split
    · rename_i h
      subst h
      omega
    · omega
  · rw [List.set_eq_of_length_le (by omega)]
    omega

theorem usedS_mono (u : List Int) (n : NodeD) (j : Nat) : u.getD j 0 ≤ (usedS u n).getD j 0 := by
  unfold usedS
  cases Ex.leQ 6 n.op <;> cases Ex.leQ 3 n.op
  · exact Int.le_refl _
  · exact bump_mono _ _ _
  · exact bump_mono _ _ _
  · exact Int.le_trans (bump_mono _ _ _) (bump_mono _ _ _)

theorem usedL_mono : ∀ (l : List NodeD) (u : List Int) (j : Nat), u.getD j 0 ≤ (usedL l u).getD j 0
  | [], u, j => Int.le_refl _
  | n :: l, u, j => Int.le_trans (usedS_mono u n j) (usedL_mono l (usedS u n) j)

theorem leQ_no {a b : Int} (h : ¬ a ≤ b) : Ex.leQ a b = false := by rw [Ex.leQ_eq]; exact dec_no h
theorem leQ_yes {a b : Int} (h : a ≤ b) : Ex.leQ a b = true := by rw [Ex.leQ_eq]; exact dec_yes h

/-- One node: marked, or used twice. -/
theorem step_rel {loc : Int} {i : Nat} {n : NodeD} {u : List Int} {w : List Bool} (h : RelU u w) (hk : okX loc i n) (hi : i ≤ w.length) :
    (∃ w', stepE loc i n w = some w' ∧ RelU (usedS u n) w') ∨ (stepE loc i n w = none ∧ ∃ j, 2 ≤ (usedS u n).getD j 0) := by
  by_cases h2 : n.op ≤ 2
  · refine .inl ⟨w, stepE_leaf hk h2 w, ?_⟩
    unfold usedS
    rw [leQ_no (show ¬ 6 ≤ n.op by omega), leQ_no (show ¬ 3 ≤ n.op by omega)]
    exact h
  · by_cases h5 : n.op ≤ 5
    · have ha : n.a.toNat < w.length := by
        rcases hk with ⟨_, _⟩ | ⟨_, _⟩ | ⟨_, _, _, _, _⟩ | ⟨_, _⟩ <;> omega
      rw [stepE_one hk (by omega) h5]
      unfold usedS
      rw [leQ_no (show ¬ 6 ≤ n.op by omega), leQ_yes (show 3 ≤ n.op by omega)]
      cases hf : w.getD n.a.toNat false with
      | true => exact .inr ⟨rfl, n.a.toNat, by show 2 ≤ (bump u n.a).getD n.a.toNat 0; rw [rel_two h ha hf]; omega⟩
      | false => exact .inl ⟨_, rfl, rel_bump h ha hf⟩
    · have hab : n.a.toNat < w.length ∧ n.b.toNat < w.length := by
        rcases hk with ⟨_, _⟩ | ⟨_, _⟩ | ⟨_, _, _, _, _⟩ | ⟨_, _, _, _, _, _, _⟩ <;> omega
      rw [stepE_two hk (by omega)]
      unfold usedS
      rw [leQ_yes (show 6 ≤ n.op by omega), leQ_yes (show 3 ≤ n.op by omega)]
      cases hf : w.getD n.a.toNat false with
      | true =>
        refine .inr ⟨rfl, n.a.toNat, Int.le_trans ?_ (bump_mono (bump u n.a) n.b _)⟩
        rw [rel_two h hab.1 hf]
        omega
      | false =>
        have h' := rel_bump h hab.1 hf
        have hb : n.b.toNat < (w.set n.a.toNat true).length := by simpa using hab.2
        cases hg : (w.set n.a.toNat true).getD n.b.toNat false with
        | true => exact .inr ⟨rfl, n.b.toNat, by show 2 ≤ (bump (bump u n.a) n.b).getD n.b.toNat 0; rw [rel_two h' hb hg]; omega⟩
        | false => exact .inl ⟨_, rfl, rel_bump h' hb hg⟩

/-- All nodes. -/
theorem run_rel {loc : Int} : ∀ {l : List NodeD} {i : Nat} {u : List Int} {w : List Bool}, RelU u w → (∀ k n, l[k]? = some n → okX loc (i + k) n) → i + l.length ≤ w.length →
    (∃ w', runE loc i l w = some w' ∧ RelU (usedL l u) w') ∨ (runE loc i l w = none ∧ ∃ j, 2 ≤ (usedL l u).getD j 0)
  | [], i, u, w, h, _, _ => .inl ⟨w, rfl, h⟩
  | n :: l, i, u, w, h, hk, hi => by
    simp only [List.length_cons] at hi
    rcases step_rel h (hk 0 n rfl) (by omega) with ⟨w', h1, h2⟩ | ⟨h1, j, h2⟩
    · have hw := stepE_len (show stepE loc i n w = some w' from h1)
      have := run_rel (loc := loc) (l := l) (i := i + 1) h2 (fun k m hm => by rw [show i + 1 + k = i + (k + 1) by omega]; exact hk (k + 1) m (by simpa using hm)) (by omega)
      have e : stepE loc i n w = some w' := h1
      simp only [runE, e]
      exact this
    · have e : stepE loc i n w = none := h1
      simp only [runE, e]
      exact .inr ⟨trivial, j, Int.le_trans h2 (usedL_mono l (usedS u n) j)⟩

end Go.Proofs.Ytbgmkefehfjicaa

/-
  The plain law: an expression, told both ways.
-/
namespace Go.Proofs.Ytbgmkefehfjicaa
open Go Go.RowKit

theorem run_bad {loc : Int} : ∀ {l : List NodeD} {i : Nat} {w : List Bool}, (∃ k n, l[k]? = some n ∧ ¬ okX loc (i + k) n) → runE loc i l w = none
  | [], i, w, ⟨k, n, h, _⟩ => by simp at h
  | m :: l, i, w, ⟨k, n, h, hb⟩ => by
    cases k with
    | zero =>
      simp only [List.getElem?_cons_zero, Option.some.injEq] at h
      subst h
      simp only [runE, stepE_bad (show ¬ okX loc i m from hb)]
    | succ k =>
      simp only [runE]
      split
      · rfl
      · exact run_bad ⟨k, n, by simpa using h, by rw [show i + 1 + k = i + (k + 1) by omega]; exact hb⟩

theorem set_keep {w : List Bool} {a j : Nat} (h : a ≠ j) : (w.set a true).getD j false = w.getD j false := by
  rw [List.getD_eq_getElem?_getD, List.getElem?_set_ne h, ← List.getD_eq_getElem?_getD]

theorem step_last {loc : Int} {i : Nat} {n : NodeD} {w w' : List Bool} (hk : okX loc i n) (h : stepE loc i n w = some w') {j : Nat} (hj : i ≤ j) : w'.getD j false = w.getD j false := by
  by_cases h2 : n.op ≤ 2
  · rw [stepE_leaf hk h2] at h
    injection h with h
    rw [h]
  · by_cases h5 : n.op ≤ 5
    · have ha : n.a.toNat < i := by
        rcases hk with ⟨_, _⟩ | ⟨_, _⟩ | ⟨_, _, _, _, _⟩ | ⟨_, _⟩ <;> omega
      rw [stepE_one hk (by omega) h5] at h
      cases hf : w.getD n.a.toNat false <;> rw [hf] at h
      · injection h with h
        rw [← h, set_keep (by omega)]
      · cases h
    · have hab : n.a.toNat < i ∧ n.b.toNat < i := by
        rcases hk with ⟨_, _⟩ | ⟨_, _⟩ | ⟨_, _, _, _, _⟩ | ⟨_, _, _, _, _, _, _⟩ <;> omega
      rw [stepE_two hk (by omega)] at h
      cases hf : w.getD n.a.toNat false <;> rw [hf] at h
      · cases hg : (w.set n.a.toNat true).getD n.b.toNat false <;> rw [hg] at h
        · injection h with h
          rw [← h, set_keep (by omega), set_keep (by omega)]
        · cases h
      · cases h

theorem run_last {loc : Int} : ∀ {l : List NodeD} {i : Nat} {w w' : List Bool}, (∀ k n, l[k]? = some n → okX loc (i + k) n) → runE loc i l w = some w' → ∀ {j : Nat}, i + l.length ≤ j + 1 → w'.getD j false = w.getD j false
  | [], i, w, w', _, h, j, _ => by
    injection h with h
    rw [h]
  | n :: l, i, w, w', hk, h, j, hj => by
    simp only [List.length_cons] at hj
    simp only [runE] at h
    split at h
    · cases h
    · rename_i x hx
      rw [run_last (fun k m hm => by rw [show i + 1 + k = i + (k + 1) by omega]; exact hk (k + 1) m (by simpa using hm)) h (by omega), step_last (hk 0 n rfl) hx (by omega)]

/-- Both tell the same of an expression. -/
theorem expr_same (loc : Int) (l : List NodeD) : exprF loc l = exprR loc l := by
  rw [Bool.eq_iff_iff]
  unfold exprF exprR onceF
  simp only [Bool.and_eq_true, Bool.not_eq_true', decide_eq_true_eq]
  rw [← Bool.not_eq_true, ← Bool.not_eq_true (failsB _ _ _), ← anyBad_iff, ← failsU_iff]
  by_cases hbad : anyBad loc l
  · constructor
    · rintro ⟨h, _⟩
      exact absurd hbad h
    · rintro ⟨_, _, u, hu, _⟩
      obtain ⟨k, n, hk, hb⟩ := hbad
      have : allE loc l = none := run_bad ⟨k, n, hk, by rw [Nat.zero_add]; intro h; rw [(badX_iff loc k n).2 h] at hb; cases hb⟩
      rw [this] at hu
      cases hu
  · have hok : ∀ k n, l[k]? = some n → okX loc (0 + k) n := fun k n hk => by
      rw [Nat.zero_add]
      refine (badX_iff loc k n).1 ?_
      cases hb : badX loc k n with
      | false => rfl
      | true => exact absurd ⟨k, n, hk, hb⟩ hbad
    have h0 : RelU (List.replicate l.length 0) (List.replicate l.length false) := ⟨by simp, fun j => by simp [List.getD_eq_getElem?_getD, List.getElem?_replicate]; split <;> rfl⟩
    rcases run_rel (loc := loc) h0 hok (by simp) with ⟨w, hw, hR⟩ | ⟨hn, j, hj⟩
    · have hlast : ∀ j, l.length ≤ j + 1 → w.getD j false = false := fun j hj => by
        rw [run_last hok hw (by omega)]
        simp [List.getD_eq_getElem?_getD, List.getElem?_replicate]
        split <;> rfl
      have hlw : w.length = l.length := allE_len hw
      have key : ¬ failsU l.length (usedL l (List.replicate l.length 0)) ↔ ¬ lacksU l.length w := by
        refine not_congr ⟨?_, ?_⟩
        · rintro ⟨i, x, hx, hp⟩
          have hx' : x = bif w.getD i false then 1 else 0 := by rw [← hR.2 i, List.getD_eq_getElem?_getD, hx]; rfl
          have hi : i < l.length := by rw [← hlw, ← hR.1]; exact (List.getElem?_eq_some_iff.1 hx).1
          by_cases hl : i + 1 < l.length
          · refine ⟨i, hl, ?_⟩
            cases hwi : w.getD i false with
            | false => rfl
            | true =>
              rw [hwi] at hx'
              simp only [cond_true] at hx'
              subst hx'
              have : (i : Int) < (l.length : Int) - 1 := by omega
              simp [passB, Ex.eqQ_eq, Ex.ltQ_eq, this] at hp
          · rw [hlast i (by omega)] at hx'
            simp only [cond_false] at hx'
            subst hx'
            have : ¬ (i : Int) < (l.length : Int) - 1 := by omega
            simp [passB, Ex.eqQ_eq, Ex.ltQ_eq, this] at hp
        · rintro ⟨i, hi, hwi⟩
          have hil : i < (usedL l (List.replicate l.length 0)).length := by rw [hR.1, hlw]; omega
          have hx : (usedL l (List.replicate l.length 0))[i]? = some ((usedL l (List.replicate l.length 0)).getD i 0) := by rw [List.getD_eq_getElem?_getD, List.getElem?_eq_getElem hil]; rfl
          refine ⟨i, _, hx, ?_⟩
          rw [hR.2 i, hwi]
          have : (i : Int) < (l.length : Int) - 1 := by omega
          simp [passB, Ex.eqQ_eq, Ex.ltQ_eq, this]
      rw [key]
      constructor
      · rintro ⟨_, h1, h2, h3⟩
        exact ⟨h1, h2, w, hw, h3⟩
      · rintro ⟨h1, h2, u, hu, h3⟩
        have : w = u := by
          rw [show allE loc l = some w from hw] at hu
          injection hu
        subst this
        exact ⟨hbad, h1, h2, h3⟩
    · constructor
      · rintro ⟨_, _, _, h⟩
        refine absurd ?_ h
        have hil : j < (usedL l (List.replicate l.length 0)).length := by
          refine Nat.lt_of_not_le fun hge => ?_
          rw [List.getD_eq_getElem?_getD, List.getElem?_eq_none hge] at hj
          simp at hj
        refine ⟨j, (usedL l (List.replicate l.length 0)).getD j 0, by rw [List.getD_eq_getElem?_getD, List.getElem?_eq_getElem hil]; rfl, ?_⟩
        generalize (usedL l (List.replicate l.length 0)).getD j 0 = x at hj
        unfold passB
        rw [show Ex.ltQ 1 x = true by rw [Ex.ltQ_eq]; exact dec_yes (by omega)]
        cases (!(Ex.eqQ x 1 == Ex.ltQ (Int.ofNat j) ((l.length : Int) - 1))) <;> rfl
      · rintro ⟨_, _, u, hu, _⟩
        rw [show allE loc l = none from hn] at hu
        cases hu

end Go.Proofs.Ytbgmkefehfjicaa

/-
  The plain law: acts and programs, told both ways.
-/
namespace Go.Proofs.Ytbgmkefehfjicaa
open Go Go.RowKit

theorem pow_all : ∀ n : Fin 1025, Ex.eqQ (Ex.andQ .i64 (Int.ofNat n.val) (Ex.wrapQ .i64 (Ex.subQ' (Int.ofNat n.val) 1))) 0 = (Ex.eqQ (Int.ofNat n.val) 0 || powF (Int.ofNat n.val)) := by decide +kernel

theorem pow_and {size : Int} (h0 : 0 ≤ size) (h1 : size ≤ 1024) : Ex.eqQ (Ex.andQ .i64 size (Ex.wrapQ .i64 (Ex.subQ' size 1))) 0 = (Ex.eqQ size 0 || powF size) := by
  obtain ⟨n, rfl⟩ := Int.eq_ofNat_of_zero_le h0
  exact pow_all ⟨n, by omega⟩

theorem powF_in {size : Int} (h : powF size = true) : 1 ≤ size ∧ size ≤ 1024 := by
  have := of_decide_eq_true h
  omega

theorem ltQ_no {a b : Int} (h : ¬ a < b) : Ex.ltQ a b = false := by rw [Ex.ltQ_eq]; exact dec_no h
theorem ltQ_yes {a b : Int} (h : a < b) : Ex.ltQ a b = true := by rw [Ex.ltQ_eq]; exact dec_yes h
theorem eqQ_no {a b : Int} (h : ¬ a = b) : Ex.eqQ a b = false := by rw [Ex.eqQ_eq]; exact beq_no h
theorem eqQ_yes {a b : Int} (h : a = b) : Ex.eqQ a b = true := by rw [Ex.eqQ_eq]; exact beq_yes h

theorem place_same (size base cells loc : Int) (ix : List NodeD) : placeF size base cells loc ix = placeR size base cells loc ix := by
  unfold placeF placeR
  rw [expr_same]
  by_cases h0 : size < 0
  · rw [ltQ_yes h0, eqQ_no (show ¬ size = 0 by omega)]
    cases hp : powF size with
    | true => have := powF_in hp; omega
    | false => rfl
  by_cases h1 : 1024 < size
  · rw [ltQ_no h0, ltQ_yes h1, eqQ_no (show ¬ size = 0 by omega)]
    cases hp : powF size with
    | true => have := powF_in hp; omega
    | false => rfl
  rw [ltQ_no h0, ltQ_no h1, pow_and (by omega) (by omega)]
  by_cases hz : size = 0
  · subst hz
    rw [eqQ_yes rfl, ltQ_no (show ¬ (1 : Int) < 0 by omega)]
    simp only [cond_true, cond_false, Bool.true_or, Bool.not_true]
    cases Ex.ltQ base 0 <;> cases Ex.ltQ (Ex.wrapQ .i64 (Ex.subQ' cells 1)) base <;> rfl
  · rw [eqQ_no hz]
    cases hp : powF size with
    | false => rfl
    | true =>
      have hs : (bif Ex.ltQ 1 size then size else 1) = size := by
        by_cases h : 1 < size
        · rw [ltQ_yes h]; rfl
        · rw [ltQ_no h]
          show (1 : Int) = size
          omega
      rw [hs]
      simp only [cond_false, Bool.false_or, Bool.not_true]
      cases Ex.ltQ base 0 <;> cases Ex.ltQ (Ex.wrapQ .i64 (Ex.subQ' cells size)) base <;> rfl

theorem exprR_pos {loc : Int} {l : List NodeD} (h : exprR loc l = true) : 0 < l.length := by
  simp only [exprR, decide_eq_true_eq] at h
  exact h.1

theorem act_same (cells loc : Int) (na : Nat) (a : ActD) : actF cells loc na a = actR cells loc na a := by
  have e1 : ∀ (b : Bool) (l : List NodeD), ((b == decide (0 < l.length)) && (bif b then exprR loc l else true)) = (bif b then exprR loc l else decide (l.length = 0)) := fun b l => by
    rw [len_zero]
    cases b with
    | false => cases decide (l.length = 0) <;> rfl
    | true =>
      cases h : exprR loc l with
      | false => simp
      | true =>
        have := exprR_pos h
        rw [dec_no (show ¬ l.length = 0 by omega)]
        rfl
  unfold actF actR
  rw [place_same, expr_same, expr_same, ← e1, ← e1]
  generalize (hasE a.op == decide (0 < a.e.length)) = x1
  generalize (hasF a.op == decide (0 < a.f.length)) = x2
  generalize (bif hasE a.op then exprR loc a.e else true) = x3
  generalize (bif hasF a.op then exprR loc a.f else true) = x4
  cases x1 <;> cases x2 <;> cases x3 <;> cases x4 <;> rfl

/-- THE LAW: both tell the same of a program. -/
theorem whole_same (cells : Int) (l : List ThreadD) : wholeF cells l = wholeR cells l := by
  have h : badThrs cells l ↔ badRThrs cells l := by
    unfold badThrs badRThrs badThr badRThr badAct badRAct
    simp only [act_same]
  unfold wholeF wholeR
  exact decide_eq_decide.2 (not_congr (or_congr Iff.rfl h))

end Go.Proofs.Ytbgmkefehfjicaa
