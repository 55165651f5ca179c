/-
  The reference's look at an act: the runs, by its number (and what follows it).
-/
import Derived.Test.YtlpcnaeknbmjdaaGreatQe

noncomputable section
set_option linter.unusedVariables false
set_option linter.unusedSimpArgs false
namespace Go.Proofs.YtlpcnaeknbmjdaaGreat
open Sy.O (bz fork nil pack step steps)
open Sy.Res (need hyp br leaf both)
open Go Go.RowKit
open Sy (Let Blk HasL)
def rac1_o : Sy.O := (bz 37 0x1bf3e7f3f9 (fork nil (bz 19 0x79ef9 (fork (pack 12 0x0 nil) (bz 13 0x1ff3 (fork (bz 6 0x3f nil) (bz 51 0x59b3677cffbf3 (fork nil (bz 52 0xd8aff3f9ff3f9 (fork (bz 4 0xf nil) (bz 40 0xee7f3ff9ff (fork nil (bz 22 0x33f3f9 nil)))))))))))))
noncomputable def rac1_R (B : List (Nat × Sy.Cont)) (dst base size mode to line col : Int) (iv ev fv tv av : Value) (ix e f : List NodeD) (cells loc : Int) (ns : Nat → Sy.Let) : Sy.Res (Value × List Blk) :=
 let z0 := Sy.Cont.obj (Obj.cells (Array.mk [.int .i64 loc, av]) 40)
 let z1 := Sy.Cont.obj (Obj.cells (Array.mk [.int .i64 cells, tv]) 24)
 let z2 := Sy.Cont.obj (Obj.cells (Array.mk [.int .i64 1, .int .i64 dst, .int .i64 base, .int .i64 size, iv, ev, fv, .int .i64 mode, .int .i64 to, .int .i64 line, .int .i64 col]) 46)
 let z3 := leaf (Value.bool false, Blk.mk (ns 2).n z0 true :: Blk.mk (ns 1).n z1 true :: Blk.mk (ns 0).n z2 true :: rdOf B)
 need True (hyp True (br (bif false then true else !mayF 1 mode) z3 (need True (hyp True (br (Ex.ltQ dst 0) z3 (br (bif true then bif false then true else Ex.leQ loc dst else false) z3 (need True (hyp True (need True (hyp True (need (∃ (p : Option Addr), ∃ (n : Nat), ∃ (c : Nat), iv = Value.slice p n c) (br (bif bif !Ex.eqQ base 0 then true else !Ex.eqQ size 0 then true else Ex.ltQ 0 (Int.ofNat (Sy.lenS iv))) z3 (need (NodesR B ev e ∧ List.length e < 4398046511104) (need (Sy.GotL (rdOf B) B) (hyp True (br (bif true then !exprR loc e else false) z3 (need (∃ (p : Option Addr), ∃ (n : Nat), ∃ (c : Nat), fv = Value.slice p n c) (br (bif false then true else bif true then Ex.ltQ 0 (Int.ofNat (Sy.lenS fv)) else false) z3 (leaf (Value.bool (Ex.eqQ to 0), Blk.mk (ns 2).n z0 true :: Blk.mk (ns 1).n z1 true :: Blk.mk (ns 0).n z2 true :: rdOf B))))))))))))))))))))
theorem rac1_run (B : List (Nat × Sy.Cont)) (dst base size mode to line col : Int) (iv ev fv tv av : Value) (ix e f : List NodeD) (cells loc : Int) : Sy.Ran (Sy.inB Tryz.prog (ctxR B (1) size mode iv ev fv ix e f loc) 50 fRAct #[.agg #[.int .i64 (1), .int .i64 dst, .int .i64 base, .int .i64 size, iv, ev, fv, .int .i64 mode, .int .i64 to, .int .i64 line, .int .i64 col], progV cells tv, thrV loc av] (rdOf B)) rac1_o (rac1_R B dst base size mode to line col iv ev fv tv av ix e f cells loc) := ⟨fun _ => by kernel_rfl, fun _ => by kernel_rfl⟩
def rac2_o : Sy.O := (bz 37 0x1bf3e7f3f9 (fork nil (bz 19 0x79ef9 (fork (pack 12 0x0 nil) (bz 13 0x1ff3 (fork (bz 6 0x3f nil) (bz 35 0x677cffbf3 (fork (bz 5 0x19 (fork (pack 17 0x0 nil) (bz 15 0x7df3 (fork (pack 10 0x0 nil) (bz 8 0xf3 (fork (bz 11 0x773 (fork (bz 5 0x1f nil) (bz 8 0xf3 (fork (bz 24 0xec5ff3 (fork nil (bz 38 0x3b9ffffff9 (fork nil (bz 32 0xee7f3ff9 (fork nil (bz 22 0x33f3f9 nil))))))) (bz 45 0x1dcffffffcff (fork nil (bz 32 0xee7f3ff9 (fork nil (bz 22 0x33f3f9 nil))))))))) (bz 13 0x1e7f (fork (bz 24 0xec5ff3 (fork nil (bz 38 0x3b9ffffff9 (fork nil (bz 32 0xee7f3ff9 (fork nil (bz 22 0x33f3f9 nil))))))) (bz 45 0x1dcffffffcff (fork nil (bz 32 0xee7f3ff9 (fork nil (bz 22 0x33f3f9 nil))))))))))))) (bz 5 0x17 (fork nil (bz 5 0x19 (fork (pack 17 0x0 nil) (bz 15 0x7df3 (fork (pack 10 0x0 nil) (bz 8 0xf3 (fork (bz 11 0x773 (fork (bz 5 0x1f nil) (bz 8 0xf3 (fork (bz 24 0xec5ff3 (fork nil (bz 38 0x3b9ffffff9 (fork nil (bz 32 0xee7f3ff9 (fork nil (bz 22 0x33f3f9 nil))))))) (bz 45 0x1dcffffffcff (fork nil (bz 32 0xee7f3ff9 (fork nil (bz 22 0x33f3f9 nil))))))))) (bz 13 0x1e7f (fork (bz 24 0xec5ff3 (fork nil (bz 38 0x3b9ffffff9 (fork nil (bz 32 0xee7f3ff9 (fork nil (bz 22 0x33f3f9 nil))))))) (bz 45 0x1dcffffffcff (fork nil (bz 32 0xee7f3ff9 (fork nil (bz 22 0x33f3f9 nil)))))))))))))))))))))))
noncomputable def rac2_R (B : List (Nat × Sy.Cont)) (dst base size mode to line col : Int) (iv ev fv tv av : Value) (ix e f : List NodeD) (cells loc : Int) (ns : Nat → Sy.Let) : Sy.Res (Value × List Blk) :=
 let z0 := Sy.Cont.obj (Obj.cells (Array.mk [.int .i64 loc, av]) 40)
 let z1 := Sy.Cont.obj (Obj.cells (Array.mk [.int .i64 cells, tv]) 24)
 let z2 := Sy.Cont.obj (Obj.cells (Array.mk [.int .i64 2, .int .i64 dst, .int .i64 base, .int .i64 size, iv, ev, fv, .int .i64 mode, .int .i64 to, .int .i64 line, .int .i64 col]) 46)
 let z3 := leaf (Value.bool false, Blk.mk (ns 2).n z0 true :: Blk.mk (ns 1).n z1 true :: Blk.mk (ns 0).n z2 true :: rdOf B)
 let z4 := Ex.eqQ size 0
 let z5 := Ex.ltQ base 0
 let z6 := need (∃ (p : Option Addr), ∃ (n : Nat), ∃ (c : Nat), ev = Value.slice p n c) (br (bif false then true else bif true then Ex.ltQ 0 (Int.ofNat (Sy.lenS ev)) else false) z3 (need (∃ (p : Option Addr), ∃ (n : Nat), ∃ (c : Nat), fv = Value.slice p n c) (br (bif false then true else bif true then Ex.ltQ 0 (Int.ofNat (Sy.lenS fv)) else false) z3 (leaf (Value.bool (Ex.eqQ to 0), Blk.mk (ns 2).n z0 true :: Blk.mk (ns 1).n z1 true :: Blk.mk (ns 0).n z2 true :: rdOf B)))))
 let z7 := br (Ex.ltQ 0 size) (need (NodesR B iv ix ∧ List.length ix < 4398046511104) (need (Sy.GotL (rdOf B) B) (hyp True (br (bif false then true else bif true then !exprR loc ix else false) z3 z6)))) z6
 let z8 := br z4 (need (∃ (p : Option Addr), ∃ (n : Nat), ∃ (c : Nat), iv = Value.slice p n c) (br (bif false then true else bif true then Ex.ltQ 0 (Int.ofNat (Sy.lenS iv)) else false) z3 z7)) z7
 need True (hyp True (br (bif false then true else !mayF 2 mode) z3 (need True (hyp True (br (Ex.ltQ dst 0) z3 (br (bif true then bif false then true else Ex.leQ loc dst else false) z3 (need True (hyp True (need True (hyp True (br z4 (br z5 z3 (br (bif false then true else Ex.ltQ (Ex.wrapQ .i64 (Ex.subQ' cells 1)) base) z3 z8)) (need True (hyp True (br (!powF size) z3 (br z5 z3 (br (bif false then true else Ex.ltQ (Ex.wrapQ .i64 (Ex.subQ' cells size)) base) z3 z8))))))))))))))))
theorem rac2_run (B : List (Nat × Sy.Cont)) (dst base size mode to line col : Int) (iv ev fv tv av : Value) (ix e f : List NodeD) (cells loc : Int) : Sy.Ran (Sy.inB Tryz.prog (ctxR B (2) size mode iv ev fv ix e f loc) 50 fRAct #[.agg #[.int .i64 (2), .int .i64 dst, .int .i64 base, .int .i64 size, iv, ev, fv, .int .i64 mode, .int .i64 to, .int .i64 line, .int .i64 col], progV cells tv, thrV loc av] (rdOf B)) rac2_o (rac2_R B dst base size mode to line col iv ev fv tv av ix e f cells loc) := ⟨fun _ => by kernel_rfl, fun _ => by kernel_rfl⟩
def rac3_o : Sy.O := (bz 37 0x1bf3e7f3f9 (fork nil (bz 39 0x79fbf3fef9 (fork nil (bz 16 0xcef9 (fork (bz 5 0x19 (fork (pack 17 0x0 nil) (bz 15 0x7df3 (fork (pack 10 0x0 nil) (bz 8 0xf3 (fork (bz 11 0x773 (fork (bz 5 0x1f nil) (bz 8 0xf3 (fork (bz 24 0xec5ff3 (fork nil (bz 52 0xd8aff3f9ff3f9 (fork (bz 4 0xf nil) (bz 40 0xee7f3ff9ff (fork nil (bz 22 0x33f3f9 nil))))))) (bz 59 0x6c57f9fcff9fcff (fork (bz 4 0xf nil) (bz 40 0xee7f3ff9ff (fork nil (bz 22 0x33f3f9 nil))))))))) (bz 13 0x1e7f (fork (bz 24 0xec5ff3 (fork nil (bz 52 0xd8aff3f9ff3f9 (fork (bz 4 0xf nil) (bz 40 0xee7f3ff9ff (fork nil (bz 22 0x33f3f9 nil))))))) (bz 59 0x6c57f9fcff9fcff (fork (bz 4 0xf nil) (bz 40 0xee7f3ff9ff (fork nil (bz 22 0x33f3f9 nil))))))))))))) (bz 5 0x17 (fork nil (bz 5 0x19 (fork (pack 17 0x0 nil) (bz 15 0x7df3 (fork (pack 10 0x0 nil) (bz 8 0xf3 (fork (bz 11 0x773 (fork (bz 5 0x1f nil) (bz 8 0xf3 (fork (bz 24 0xec5ff3 (fork nil (bz 52 0xd8aff3f9ff3f9 (fork (bz 4 0xf nil) (bz 40 0xee7f3ff9ff (fork nil (bz 22 0x33f3f9 nil))))))) (bz 59 0x6c57f9fcff9fcff (fork (bz 4 0xf nil) (bz 40 0xee7f3ff9ff (fork nil (bz 22 0x33f3f9 nil))))))))) (bz 13 0x1e7f (fork (bz 24 0xec5ff3 (fork nil (bz 52 0xd8aff3f9ff3f9 (fork (bz 4 0xf nil) (bz 40 0xee7f3ff9ff (fork nil (bz 22 0x33f3f9 nil))))))) (bz 59 0x6c57f9fcff9fcff (fork (bz 4 0xf nil) (bz 40 0xee7f3ff9ff (fork nil (bz 22 0x33f3f9 nil)))))))))))))))))))))
noncomputable def rac3_R (B : List (Nat × Sy.Cont)) (dst base size mode to line col : Int) (iv ev fv tv av : Value) (ix e f : List NodeD) (cells loc : Int) (ns : Nat → Sy.Let) : Sy.Res (Value × List Blk) :=
 let z0 := Sy.Cont.obj (Obj.cells (Array.mk [.int .i64 loc, av]) 40)
 let z1 := Sy.Cont.obj (Obj.cells (Array.mk [.int .i64 cells, tv]) 24)
 let z2 := Sy.Cont.obj (Obj.cells (Array.mk [.int .i64 3, .int .i64 dst, .int .i64 base, .int .i64 size, iv, ev, fv, .int .i64 mode, .int .i64 to, .int .i64 line, .int .i64 col]) 46)
 let z3 := leaf (Value.bool false, Blk.mk (ns 2).n z0 true :: Blk.mk (ns 1).n z1 true :: Blk.mk (ns 0).n z2 true :: rdOf B)
 let z4 := Ex.eqQ size 0
 let z5 := Ex.ltQ base 0
 let z6 := Sy.GotL (rdOf B) B
 let z7 := need (NodesR B ev e ∧ List.length e < 4398046511104) (need z6 (hyp True (br (bif true then !exprR loc e else false) z3 (need (∃ (p : Option Addr), ∃ (n : Nat), ∃ (c : Nat), fv = Value.slice p n c) (br (bif false then true else bif true then Ex.ltQ 0 (Int.ofNat (Sy.lenS fv)) else false) z3 (leaf (Value.bool (Ex.eqQ to 0), Blk.mk (ns 2).n z0 true :: Blk.mk (ns 1).n z1 true :: Blk.mk (ns 0).n z2 true :: rdOf B)))))))
 let z8 := br (Ex.ltQ 0 size) (need (NodesR B iv ix ∧ List.length ix < 4398046511104) (need z6 (hyp True (br (bif false then true else bif true then !exprR loc ix else false) z3 z7)))) z7
 let z9 := br z4 (need (∃ (p : Option Addr), ∃ (n : Nat), ∃ (c : Nat), iv = Value.slice p n c) (br (bif false then true else bif true then Ex.ltQ 0 (Int.ofNat (Sy.lenS iv)) else false) z3 z8)) z8
 need True (hyp True (br (bif false then true else !mayF 3 mode) z3 (need True (hyp True (need True (hyp True (br (bif false then true else bif true then !Ex.eqQ dst 0 else false) z3 (need True (hyp True (br z4 (br z5 z3 (br (bif false then true else Ex.ltQ (Ex.wrapQ .i64 (Ex.subQ' cells 1)) base) z3 z9)) (need True (hyp True (br (!powF size) z3 (br z5 z3 (br (bif false then true else Ex.ltQ (Ex.wrapQ .i64 (Ex.subQ' cells size)) base) z3 z9)))))))))))))))
theorem rac3_run (B : List (Nat × Sy.Cont)) (dst base size mode to line col : Int) (iv ev fv tv av : Value) (ix e f : List NodeD) (cells loc : Int) : Sy.Ran (Sy.inB Tryz.prog (ctxR B (3) size mode iv ev fv ix e f loc) 50 fRAct #[.agg #[.int .i64 (3), .int .i64 dst, .int .i64 base, .int .i64 size, iv, ev, fv, .int .i64 mode, .int .i64 to, .int .i64 line, .int .i64 col], progV cells tv, thrV loc av] (rdOf B)) rac3_o (rac3_R B dst base size mode to line col iv ev fv tv av ix e f cells loc) := ⟨fun _ => by kernel_rfl, fun _ => by kernel_rfl⟩
def rac4_o : Sy.O := (bz 37 0x1bf3e7f3f9 (fork nil (bz 19 0x79ef9 (fork (pack 12 0x0 nil) (bz 13 0x1ff3 (fork (bz 6 0x3f nil) (bz 35 0x677cffbf3 (fork (bz 5 0x19 (fork (pack 17 0x0 nil) (bz 15 0x7df3 (fork (pack 10 0x0 nil) (bz 8 0xf3 (fork (bz 11 0x773 (fork (bz 5 0x1f nil) (bz 8 0xf3 (fork (bz 24 0xec5ff3 (fork nil (bz 52 0xd8aff3f9ff3f9 (fork (bz 4 0xf nil) (bz 40 0xee7f3ff9ff (fork nil (bz 22 0x33f3f9 nil))))))) (bz 59 0x6c57f9fcff9fcff (fork (bz 4 0xf nil) (bz 40 0xee7f3ff9ff (fork nil (bz 22 0x33f3f9 nil))))))))) (bz 13 0x1e7f (fork (bz 24 0xec5ff3 (fork nil (bz 52 0xd8aff3f9ff3f9 (fork (bz 4 0xf nil) (bz 40 0xee7f3ff9ff (fork nil (bz 22 0x33f3f9 nil))))))) (bz 59 0x6c57f9fcff9fcff (fork (bz 4 0xf nil) (bz 40 0xee7f3ff9ff (fork nil (bz 22 0x33f3f9 nil))))))))))))) (bz 5 0x17 (fork nil (bz 5 0x19 (fork (pack 17 0x0 nil) (bz 15 0x7df3 (fork (pack 10 0x0 nil) (bz 8 0xf3 (fork (bz 11 0x773 (fork (bz 5 0x1f nil) (bz 8 0xf3 (fork (bz 24 0xec5ff3 (fork nil (bz 52 0xd8aff3f9ff3f9 (fork (bz 4 0xf nil) (bz 40 0xee7f3ff9ff (fork nil (bz 22 0x33f3f9 nil))))))) (bz 59 0x6c57f9fcff9fcff (fork (bz 4 0xf nil) (bz 40 0xee7f3ff9ff (fork nil (bz 22 0x33f3f9 nil))))))))) (bz 13 0x1e7f (fork (bz 24 0xec5ff3 (fork nil (bz 52 0xd8aff3f9ff3f9 (fork (bz 4 0xf nil) (bz 40 0xee7f3ff9ff (fork nil (bz 22 0x33f3f9 nil))))))) (bz 59 0x6c57f9fcff9fcff (fork (bz 4 0xf nil) (bz 40 0xee7f3ff9ff (fork nil (bz 22 0x33f3f9 nil)))))))))))))))))))))))
noncomputable def rac4_R (B : List (Nat × Sy.Cont)) (dst base size mode to line col : Int) (iv ev fv tv av : Value) (ix e f : List NodeD) (cells loc : Int) (ns : Nat → Sy.Let) : Sy.Res (Value × List Blk) :=
 let z0 := Sy.Cont.obj (Obj.cells (Array.mk [.int .i64 loc, av]) 40)
 let z1 := Sy.Cont.obj (Obj.cells (Array.mk [.int .i64 cells, tv]) 24)
 let z2 := Sy.Cont.obj (Obj.cells (Array.mk [.int .i64 4, .int .i64 dst, .int .i64 base, .int .i64 size, iv, ev, fv, .int .i64 mode, .int .i64 to, .int .i64 line, .int .i64 col]) 46)
 let z3 := leaf (Value.bool false, Blk.mk (ns 2).n z0 true :: Blk.mk (ns 1).n z1 true :: Blk.mk (ns 0).n z2 true :: rdOf B)
 let z4 := Ex.eqQ size 0
 let z5 := Ex.ltQ base 0
 let z6 := Sy.GotL (rdOf B) B
 let z7 := need (NodesR B ev e ∧ List.length e < 4398046511104) (need z6 (hyp True (br (bif true then !exprR loc e else false) z3 (need (∃ (p : Option Addr), ∃ (n : Nat), ∃ (c : Nat), fv = Value.slice p n c) (br (bif false then true else bif true then Ex.ltQ 0 (Int.ofNat (Sy.lenS fv)) else false) z3 (leaf (Value.bool (Ex.eqQ to 0), Blk.mk (ns 2).n z0 true :: Blk.mk (ns 1).n z1 true :: Blk.mk (ns 0).n z2 true :: rdOf B)))))))
 let z8 := br (Ex.ltQ 0 size) (need (NodesR B iv ix ∧ List.length ix < 4398046511104) (need z6 (hyp True (br (bif false then true else bif true then !exprR loc ix else false) z3 z7)))) z7
 let z9 := br z4 (need (∃ (p : Option Addr), ∃ (n : Nat), ∃ (c : Nat), iv = Value.slice p n c) (br (bif false then true else bif true then Ex.ltQ 0 (Int.ofNat (Sy.lenS iv)) else false) z3 z8)) z8
 need True (hyp True (br (bif false then true else !mayF 4 mode) z3 (need True (hyp True (br (Ex.ltQ dst 0) z3 (br (bif true then bif false then true else Ex.leQ loc dst else false) z3 (need True (hyp True (need True (hyp True (br z4 (br z5 z3 (br (bif false then true else Ex.ltQ (Ex.wrapQ .i64 (Ex.subQ' cells 1)) base) z3 z9)) (need True (hyp True (br (!powF size) z3 (br z5 z3 (br (bif false then true else Ex.ltQ (Ex.wrapQ .i64 (Ex.subQ' cells size)) base) z3 z9))))))))))))))))
theorem rac4_run (B : List (Nat × Sy.Cont)) (dst base size mode to line col : Int) (iv ev fv tv av : Value) (ix e f : List NodeD) (cells loc : Int) : Sy.Ran (Sy.inB Tryz.prog (ctxR B (4) size mode iv ev fv ix e f loc) 50 fRAct #[.agg #[.int .i64 (4), .int .i64 dst, .int .i64 base, .int .i64 size, iv, ev, fv, .int .i64 mode, .int .i64 to, .int .i64 line, .int .i64 col], progV cells tv, thrV loc av] (rdOf B)) rac4_o (rac4_R B dst base size mode to line col iv ev fv tv av ix e f cells loc) := ⟨fun _ => by kernel_rfl, fun _ => by kernel_rfl⟩
def rac5_o : Sy.O := (bz 37 0x1bf3e7f3f9 (fork nil (bz 19 0x79ef9 (fork (pack 12 0x0 nil) (bz 13 0x1ff3 (fork (bz 6 0x3f nil) (bz 35 0x677cffbf3 (fork (bz 5 0x19 (fork (pack 17 0x0 nil) (bz 15 0x7df3 (fork (pack 10 0x0 nil) (bz 8 0xf3 (fork (bz 11 0x773 (fork (bz 5 0x1f nil) (bz 8 0xf3 (fork (bz 24 0xec5ff3 (fork nil (bz 52 0xd8aff3f9ff3f9 (fork (bz 4 0xf nil) (bz 40 0xee7f3ff9ff (fork nil (bz 22 0x33f3f9 nil))))))) (bz 59 0x6c57f9fcff9fcff (fork (bz 4 0xf nil) (bz 40 0xee7f3ff9ff (fork nil (bz 22 0x33f3f9 nil))))))))) (bz 13 0x1e7f (fork (bz 24 0xec5ff3 (fork nil (bz 52 0xd8aff3f9ff3f9 (fork (bz 4 0xf nil) (bz 40 0xee7f3ff9ff (fork nil (bz 22 0x33f3f9 nil))))))) (bz 59 0x6c57f9fcff9fcff (fork (bz 4 0xf nil) (bz 40 0xee7f3ff9ff (fork nil (bz 22 0x33f3f9 nil))))))))))))) (bz 5 0x17 (fork nil (bz 5 0x19 (fork (pack 17 0x0 nil) (bz 15 0x7df3 (fork (pack 10 0x0 nil) (bz 8 0xf3 (fork (bz 11 0x773 (fork (bz 5 0x1f nil) (bz 8 0xf3 (fork (bz 24 0xec5ff3 (fork nil (bz 52 0xd8aff3f9ff3f9 (fork (bz 4 0xf nil) (bz 40 0xee7f3ff9ff (fork nil (bz 22 0x33f3f9 nil))))))) (bz 59 0x6c57f9fcff9fcff (fork (bz 4 0xf nil) (bz 40 0xee7f3ff9ff (fork nil (bz 22 0x33f3f9 nil))))))))) (bz 13 0x1e7f (fork (bz 24 0xec5ff3 (fork nil (bz 52 0xd8aff3f9ff3f9 (fork (bz 4 0xf nil) (bz 40 0xee7f3ff9ff (fork nil (bz 22 0x33f3f9 nil))))))) (bz 59 0x6c57f9fcff9fcff (fork (bz 4 0xf nil) (bz 40 0xee7f3ff9ff (fork nil (bz 22 0x33f3f9 nil)))))))))))))))))))))))
noncomputable def rac5_R (B : List (Nat × Sy.Cont)) (dst base size mode to line col : Int) (iv ev fv tv av : Value) (ix e f : List NodeD) (cells loc : Int) (ns : Nat → Sy.Let) : Sy.Res (Value × List Blk) :=
 let z0 := Sy.Cont.obj (Obj.cells (Array.mk [.int .i64 loc, av]) 40)
 let z1 := Sy.Cont.obj (Obj.cells (Array.mk [.int .i64 cells, tv]) 24)
 let z2 := Sy.Cont.obj (Obj.cells (Array.mk [.int .i64 5, .int .i64 dst, .int .i64 base, .int .i64 size, iv, ev, fv, .int .i64 mode, .int .i64 to, .int .i64 line, .int .i64 col]) 46)
 let z3 := leaf (Value.bool false, Blk.mk (ns 2).n z0 true :: Blk.mk (ns 1).n z1 true :: Blk.mk (ns 0).n z2 true :: rdOf B)
 let z4 := Ex.eqQ size 0
 let z5 := Ex.ltQ base 0
 let z6 := Sy.GotL (rdOf B) B
 let z7 := need (NodesR B ev e ∧ List.length e < 4398046511104) (need z6 (hyp True (br (bif true then !exprR loc e else false) z3 (need (∃ (p : Option Addr), ∃ (n : Nat), ∃ (c : Nat), fv = Value.slice p n c) (br (bif false then true else bif true then Ex.ltQ 0 (Int.ofNat (Sy.lenS fv)) else false) z3 (leaf (Value.bool (Ex.eqQ to 0), Blk.mk (ns 2).n z0 true :: Blk.mk (ns 1).n z1 true :: Blk.mk (ns 0).n z2 true :: rdOf B)))))))
 let z8 := br (Ex.ltQ 0 size) (need (NodesR B iv ix ∧ List.length ix < 4398046511104) (need z6 (hyp True (br (bif false then true else bif true then !exprR loc ix else false) z3 z7)))) z7
 let z9 := br z4 (need (∃ (p : Option Addr), ∃ (n : Nat), ∃ (c : Nat), iv = Value.slice p n c) (br (bif false then true else bif true then Ex.ltQ 0 (Int.ofNat (Sy.lenS iv)) else false) z3 z8)) z8
 need True (hyp True (br (bif false then true else !mayF 5 mode) z3 (need True (hyp True (br (Ex.ltQ dst 0) z3 (br (bif true then bif false then true else Ex.leQ loc dst else false) z3 (need True (hyp True (need True (hyp True (br z4 (br z5 z3 (br (bif false then true else Ex.ltQ (Ex.wrapQ .i64 (Ex.subQ' cells 1)) base) z3 z9)) (need True (hyp True (br (!powF size) z3 (br z5 z3 (br (bif false then true else Ex.ltQ (Ex.wrapQ .i64 (Ex.subQ' cells size)) base) z3 z9))))))))))))))))
theorem rac5_run (B : List (Nat × Sy.Cont)) (dst base size mode to line col : Int) (iv ev fv tv av : Value) (ix e f : List NodeD) (cells loc : Int) : Sy.Ran (Sy.inB Tryz.prog (ctxR B (5) size mode iv ev fv ix e f loc) 50 fRAct #[.agg #[.int .i64 (5), .int .i64 dst, .int .i64 base, .int .i64 size, iv, ev, fv, .int .i64 mode, .int .i64 to, .int .i64 line, .int .i64 col], progV cells tv, thrV loc av] (rdOf B)) rac5_o (rac5_R B dst base size mode to line col iv ev fv tv av ix e f cells loc) := ⟨fun _ => by kernel_rfl, fun _ => by kernel_rfl⟩
def rac6_o : Sy.O := (bz 37 0x1bf3e7f3f9 (fork nil (bz 19 0x79ef9 (fork (pack 12 0x0 nil) (bz 13 0x1ff3 (fork (bz 6 0x3f nil) (bz 35 0x677cffbf3 (fork (bz 5 0x19 (fork (pack 17 0x0 nil) (bz 15 0x7df3 (fork (pack 10 0x0 nil) (bz 8 0xf3 (fork (bz 11 0x773 (fork (bz 5 0x1f nil) (bz 8 0xf3 (fork (bz 24 0xec5ff3 (fork nil (bz 52 0xd8aff3f9ff3f9 (fork (bz 4 0xf nil) (bz 39 0x6c53fcf9ff (fork (bz 5 0x1f nil) (bz 36 0xcfcfe7ff3 nil))))))) (bz 59 0x6c57f9fcff9fcff (fork (bz 4 0xf nil) (bz 39 0x6c53fcf9ff (fork (bz 5 0x1f nil) (bz 36 0xcfcfe7ff3 nil))))))))) (bz 13 0x1e7f (fork (bz 24 0xec5ff3 (fork nil (bz 52 0xd8aff3f9ff3f9 (fork (bz 4 0xf nil) (bz 39 0x6c53fcf9ff (fork (bz 5 0x1f nil) (bz 36 0xcfcfe7ff3 nil))))))) (bz 59 0x6c57f9fcff9fcff (fork (bz 4 0xf nil) (bz 39 0x6c53fcf9ff (fork (bz 5 0x1f nil) (bz 36 0xcfcfe7ff3 nil))))))))))))) (bz 5 0x17 (fork nil (bz 5 0x19 (fork (pack 17 0x0 nil) (bz 15 0x7df3 (fork (pack 10 0x0 nil) (bz 8 0xf3 (fork (bz 11 0x773 (fork (bz 5 0x1f nil) (bz 8 0xf3 (fork (bz 24 0xec5ff3 (fork nil (bz 52 0xd8aff3f9ff3f9 (fork (bz 4 0xf nil) (bz 39 0x6c53fcf9ff (fork (bz 5 0x1f nil) (bz 36 0xcfcfe7ff3 nil))))))) (bz 59 0x6c57f9fcff9fcff (fork (bz 4 0xf nil) (bz 39 0x6c53fcf9ff (fork (bz 5 0x1f nil) (bz 36 0xcfcfe7ff3 nil))))))))) (bz 13 0x1e7f (fork (bz 24 0xec5ff3 (fork nil (bz 52 0xd8aff3f9ff3f9 (fork (bz 4 0xf nil) (bz 39 0x6c53fcf9ff (fork (bz 5 0x1f nil) (bz 36 0xcfcfe7ff3 nil))))))) (bz 59 0x6c57f9fcff9fcff (fork (bz 4 0xf nil) (bz 39 0x6c53fcf9ff (fork (bz 5 0x1f nil) (bz 36 0xcfcfe7ff3 nil)))))))))))))))))))))))
noncomputable def rac6_R (B : List (Nat × Sy.Cont)) (dst base size mode to line col : Int) (iv ev fv tv av : Value) (ix e f : List NodeD) (cells loc : Int) (ns : Nat → Sy.Let) : Sy.Res (Value × List Blk) :=
 let z0 := Sy.Cont.obj (Obj.cells (Array.mk [.int .i64 loc, av]) 40)
 let z1 := Sy.Cont.obj (Obj.cells (Array.mk [.int .i64 cells, tv]) 24)
 let z2 := Sy.Cont.obj (Obj.cells (Array.mk [.int .i64 6, .int .i64 dst, .int .i64 base, .int .i64 size, iv, ev, fv, .int .i64 mode, .int .i64 to, .int .i64 line, .int .i64 col]) 46)
 let z3 := leaf (Value.bool false, Blk.mk (ns 2).n z0 true :: Blk.mk (ns 1).n z1 true :: Blk.mk (ns 0).n z2 true :: rdOf B)
 let z4 := Ex.eqQ size 0
 let z5 := Ex.ltQ base 0
 let z6 := Sy.GotL (rdOf B) B
 let z7 := need (NodesR B ev e ∧ List.length e < 4398046511104) (need z6 (hyp True (br (bif true then !exprR loc e else false) z3 (need (NodesR B fv f ∧ List.length f < 4398046511104) (need z6 (hyp True (br (bif true then !exprR loc f else false) z3 (leaf (Value.bool (Ex.eqQ to 0), Blk.mk (ns 2).n z0 true :: Blk.mk (ns 1).n z1 true :: Blk.mk (ns 0).n z2 true :: rdOf B)))))))))
 let z8 := br (Ex.ltQ 0 size) (need (NodesR B iv ix ∧ List.length ix < 4398046511104) (need z6 (hyp True (br (bif false then true else bif true then !exprR loc ix else false) z3 z7)))) z7
 let z9 := br z4 (need (∃ (p : Option Addr), ∃ (n : Nat), ∃ (c : Nat), iv = Value.slice p n c) (br (bif false then true else bif true then Ex.ltQ 0 (Int.ofNat (Sy.lenS iv)) else false) z3 z8)) z8
 need True (hyp True (br (bif false then true else !mayF 6 mode) z3 (need True (hyp True (br (Ex.ltQ dst 0) z3 (br (bif true then bif false then true else Ex.leQ loc dst else false) z3 (need True (hyp True (need True (hyp True (br z4 (br z5 z3 (br (bif false then true else Ex.ltQ (Ex.wrapQ .i64 (Ex.subQ' cells 1)) base) z3 z9)) (need True (hyp True (br (!powF size) z3 (br z5 z3 (br (bif false then true else Ex.ltQ (Ex.wrapQ .i64 (Ex.subQ' cells size)) base) z3 z9))))))))))))))))
theorem rac6_run (B : List (Nat × Sy.Cont)) (dst base size mode to line col : Int) (iv ev fv tv av : Value) (ix e f : List NodeD) (cells loc : Int) : Sy.Ran (Sy.inB Tryz.prog (ctxR B (6) size mode iv ev fv ix e f loc) 50 fRAct #[.agg #[.int .i64 (6), .int .i64 dst, .int .i64 base, .int .i64 size, iv, ev, fv, .int .i64 mode, .int .i64 to, .int .i64 line, .int .i64 col], progV cells tv, thrV loc av] (rdOf B)) rac6_o (rac6_R B dst base size mode to line col iv ev fv tv av ix e f cells loc) := ⟨fun _ => by kernel_rfl, fun _ => by kernel_rfl⟩
def rac7_o : Sy.O := (bz 37 0x1bf3e7f3f9 (fork nil (bz 39 0x79fbf3fef9 (fork nil (bz 32 0xb366cef9 (fork nil (bz 43 0x773fffff3f9 (fork nil (bz 32 0xee7f3ff9 (fork nil (bz 22 0x33f3f9 nil)))))))))))
noncomputable def rac7_R (B : List (Nat × Sy.Cont)) (dst base size mode to line col : Int) (iv ev fv tv av : Value) (ix e f : List NodeD) (cells loc : Int) (ns : Nat → Sy.Let) : Sy.Res (Value × List Blk) :=
 let z0 := Sy.Cont.obj (Obj.cells (Array.mk [.int .i64 loc, av]) 40)
 let z1 := Sy.Cont.obj (Obj.cells (Array.mk [.int .i64 cells, tv]) 24)
 let z2 := Sy.Cont.obj (Obj.cells (Array.mk [.int .i64 7, .int .i64 dst, .int .i64 base, .int .i64 size, iv, ev, fv, .int .i64 mode, .int .i64 to, .int .i64 line, .int .i64 col]) 46)
 let z3 := leaf (Value.bool false, Blk.mk (ns 2).n z0 true :: Blk.mk (ns 1).n z1 true :: Blk.mk (ns 0).n z2 true :: rdOf B)
 need True (hyp True (br (bif false then true else !mayF 7 mode) z3 (need True (hyp True (need True (hyp True (br (bif false then true else bif true then !Ex.eqQ dst 0 else false) z3 (need True (hyp True (need (∃ (p : Option Addr), ∃ (n : Nat), ∃ (c : Nat), iv = Value.slice p n c) (br (bif bif !Ex.eqQ base 0 then true else !Ex.eqQ size 0 then true else Ex.ltQ 0 (Int.ofNat (Sy.lenS iv))) z3 (need (∃ (p : Option Addr), ∃ (n : Nat), ∃ (c : Nat), ev = Value.slice p n c) (br (bif false then true else bif true then Ex.ltQ 0 (Int.ofNat (Sy.lenS ev)) else false) z3 (need (∃ (p : Option Addr), ∃ (n : Nat), ∃ (c : Nat), fv = Value.slice p n c) (br (bif false then true else bif true then Ex.ltQ 0 (Int.ofNat (Sy.lenS fv)) else false) z3 (leaf (Value.bool (Ex.eqQ to 0), Blk.mk (ns 2).n z0 true :: Blk.mk (ns 1).n z1 true :: Blk.mk (ns 0).n z2 true :: rdOf B)))))))))))))))))
theorem rac7_run (B : List (Nat × Sy.Cont)) (dst base size mode to line col : Int) (iv ev fv tv av : Value) (ix e f : List NodeD) (cells loc : Int) : Sy.Ran (Sy.inB Tryz.prog (ctxR B (7) size mode iv ev fv ix e f loc) 50 fRAct #[.agg #[.int .i64 (7), .int .i64 dst, .int .i64 base, .int .i64 size, iv, ev, fv, .int .i64 mode, .int .i64 to, .int .i64 line, .int .i64 col], progV cells tv, thrV loc av] (rdOf B)) rac7_o (rac7_R B dst base size mode to line col iv ev fv tv av ix e f cells loc) := ⟨fun _ => by kernel_rfl, fun _ => by kernel_rfl⟩
def rac8_o : Sy.O := (bz 37 0x1bf3e7f3f9 (fork nil (bz 39 0x79fbf3fef9 (fork nil (bz 32 0xb366cef9 (fork nil (bz 52 0xd8aff3f9ff3f9 (fork (bz 4 0xf nil) (bz 40 0xee7f3ff9ff (fork nil (bz 22 0x33f3f9 nil)))))))))))
noncomputable def rac8_R (B : List (Nat × Sy.Cont)) (dst base size mode to line col : Int) (iv ev fv tv av : Value) (ix e f : List NodeD) (cells loc : Int) (ns : Nat → Sy.Let) : Sy.Res (Value × List Blk) :=
 let z0 := Sy.Cont.obj (Obj.cells (Array.mk [.int .i64 loc, av]) 40)
 let z1 := Sy.Cont.obj (Obj.cells (Array.mk [.int .i64 cells, tv]) 24)
 let z2 := Sy.Cont.obj (Obj.cells (Array.mk [.int .i64 8, .int .i64 dst, .int .i64 base, .int .i64 size, iv, ev, fv, .int .i64 mode, .int .i64 to, .int .i64 line, .int .i64 col]) 46)
 let z3 := leaf (Value.bool false, Blk.mk (ns 2).n z0 true :: Blk.mk (ns 1).n z1 true :: Blk.mk (ns 0).n z2 true :: rdOf B)
 need True (hyp True (br (bif false then true else !mayF 8 mode) z3 (need True (hyp True (need True (hyp True (br (bif false then true else bif true then !Ex.eqQ dst 0 else false) z3 (need True (hyp True (need (∃ (p : Option Addr), ∃ (n : Nat), ∃ (c : Nat), iv = Value.slice p n c) (br (bif bif !Ex.eqQ base 0 then true else !Ex.eqQ size 0 then true else Ex.ltQ 0 (Int.ofNat (Sy.lenS iv))) z3 (need (NodesR B ev e ∧ List.length e < 4398046511104) (need (Sy.GotL (rdOf B) B) (hyp True (br (bif true then !exprR loc e else false) z3 (need (∃ (p : Option Addr), ∃ (n : Nat), ∃ (c : Nat), fv = Value.slice p n c) (br (bif false then true else bif true then Ex.ltQ 0 (Int.ofNat (Sy.lenS fv)) else false) z3 (leaf (Value.bool (Ex.eqQ to 0), Blk.mk (ns 2).n z0 true :: Blk.mk (ns 1).n z1 true :: Blk.mk (ns 0).n z2 true :: rdOf B)))))))))))))))))))
theorem rac8_run (B : List (Nat × Sy.Cont)) (dst base size mode to line col : Int) (iv ev fv tv av : Value) (ix e f : List NodeD) (cells loc : Int) : Sy.Ran (Sy.inB Tryz.prog (ctxR B (8) size mode iv ev fv ix e f loc) 50 fRAct #[.agg #[.int .i64 (8), .int .i64 dst, .int .i64 base, .int .i64 size, iv, ev, fv, .int .i64 mode, .int .i64 to, .int .i64 line, .int .i64 col], progV cells tv, thrV loc av] (rdOf B)) rac8_o (rac8_R B dst base size mode to line col iv ev fv tv av ix e f cells loc) := ⟨fun _ => by kernel_rfl, fun _ => by kernel_rfl⟩
def rac9_o : Sy.O := (bz 37 0x1bf3e7f3f9 (fork nil (bz 39 0x79fbf3fef9 (fork nil (bz 32 0xb366cef9 (fork nil (bz 48 0xee7fff9ff3f9 (fork nil (bz 32 0xee7f3ff9 (fork nil (bz 29 0x17cd9ff9 nil)))))))))))
noncomputable def rac9_R (B : List (Nat × Sy.Cont)) (dst base size mode to line col : Int) (iv ev fv tv av : Value) (ix e f : List NodeD) (cells loc : Int) (ns : Nat → Sy.Let) : Sy.Res (Value × List Blk) :=
 let z0 := Sy.Cont.obj (Obj.cells (Array.mk [.int .i64 loc, av]) 40)
 let z1 := Sy.Cont.obj (Obj.cells (Array.mk [.int .i64 cells, tv]) 24)
 let z2 := Sy.Cont.obj (Obj.cells (Array.mk [.int .i64 9, .int .i64 dst, .int .i64 base, .int .i64 size, iv, ev, fv, .int .i64 mode, .int .i64 to, .int .i64 line, .int .i64 col]) 46)
 let z3 := leaf (Value.bool false, Blk.mk (ns 2).n z0 true :: Blk.mk (ns 1).n z1 true :: Blk.mk (ns 0).n z2 true :: rdOf B)
 need True (hyp True (br (bif false then true else !mayF 9 mode) z3 (need True (hyp True (need True (hyp True (br (bif false then true else bif true then !Ex.eqQ dst 0 else false) z3 (need True (hyp True (need (∃ (p : Option Addr), ∃ (n : Nat), ∃ (c : Nat), iv = Value.slice p n c) (br (bif bif !Ex.eqQ base 0 then true else !Ex.eqQ size 0 then true else Ex.ltQ 0 (Int.ofNat (Sy.lenS iv))) z3 (need (∃ (p : Option Addr), ∃ (n : Nat), ∃ (c : Nat), ev = Value.slice p n c) (br (bif false then true else bif true then Ex.ltQ 0 (Int.ofNat (Sy.lenS ev)) else false) z3 (need (∃ (p : Option Addr), ∃ (n : Nat), ∃ (c : Nat), fv = Value.slice p n c) (br (bif false then true else bif true then Ex.ltQ 0 (Int.ofNat (Sy.lenS fv)) else false) z3 (need (∃ (p : Option Addr), ∃ (n : Nat), ∃ (c : Nat), av = Value.slice p n c) (leaf (Value.bool (bif Ex.leQ 0 to then Ex.leQ to (Int.ofNat (Sy.lenS av)) else false), Blk.mk (ns 2).n z0 true :: Blk.mk (ns 1).n z1 true :: Blk.mk (ns 0).n z2 true :: rdOf B))))))))))))))))))
theorem rac9_run (B : List (Nat × Sy.Cont)) (dst base size mode to line col : Int) (iv ev fv tv av : Value) (ix e f : List NodeD) (cells loc : Int) : Sy.Ran (Sy.inB Tryz.prog (ctxR B (9) size mode iv ev fv ix e f loc) 50 fRAct #[.agg #[.int .i64 (9), .int .i64 dst, .int .i64 base, .int .i64 size, iv, ev, fv, .int .i64 mode, .int .i64 to, .int .i64 line, .int .i64 col], progV cells tv, thrV loc av] (rdOf B)) rac9_o (rac9_R B dst base size mode to line col iv ev fv tv av ix e f cells loc) := ⟨fun _ => by kernel_rfl, fun _ => by kernel_rfl⟩
def rac10_o : Sy.O := (bz 37 0x1bf3e7f3f9 (fork nil (bz 39 0x79fbf3fef9 (fork nil (bz 32 0xb366cef9 (fork nil (bz 52 0xd8aff3f9ff3f9 (fork (bz 4 0xf nil) (bz 40 0xee7f3ff9ff (fork nil (bz 34 0x2f9b3f3f9 nil)))))))))))
noncomputable def rac10_R (B : List (Nat × Sy.Cont)) (dst base size mode to line col : Int) (iv ev fv tv av : Value) (ix e f : List NodeD) (cells loc : Int) (ns : Nat → Sy.Let) : Sy.Res (Value × List Blk) :=
 let z0 := Sy.Cont.obj (Obj.cells (Array.mk [.int .i64 loc, av]) 40)
 let z1 := Sy.Cont.obj (Obj.cells (Array.mk [.int .i64 cells, tv]) 24)
 let z2 := Sy.Cont.obj (Obj.cells (Array.mk [.int .i64 10, .int .i64 dst, .int .i64 base, .int .i64 size, iv, ev, fv, .int .i64 mode, .int .i64 to, .int .i64 line, .int .i64 col]) 46)
 let z3 := leaf (Value.bool false, Blk.mk (ns 2).n z0 true :: Blk.mk (ns 1).n z1 true :: Blk.mk (ns 0).n z2 true :: rdOf B)
 need True (hyp True (br (bif false then true else !mayF 10 mode) z3 (need True (hyp True (need True (hyp True (br (bif false then true else bif true then !Ex.eqQ dst 0 else false) z3 (need True (hyp True (need (∃ (p : Option Addr), ∃ (n : Nat), ∃ (c : Nat), iv = Value.slice p n c) (br (bif bif !Ex.eqQ base 0 then true else !Ex.eqQ size 0 then true else Ex.ltQ 0 (Int.ofNat (Sy.lenS iv))) z3 (need (NodesR B ev e ∧ List.length e < 4398046511104) (need (Sy.GotL (rdOf B) B) (hyp True (br (bif true then !exprR loc e else false) z3 (need (∃ (p : Option Addr), ∃ (n : Nat), ∃ (c : Nat), fv = Value.slice p n c) (br (bif false then true else bif true then Ex.ltQ 0 (Int.ofNat (Sy.lenS fv)) else false) z3 (need (∃ (p : Option Addr), ∃ (n : Nat), ∃ (c : Nat), av = Value.slice p n c) (leaf (Value.bool (bif Ex.leQ 0 to then Ex.leQ to (Int.ofNat (Sy.lenS av)) else false), Blk.mk (ns 2).n z0 true :: Blk.mk (ns 1).n z1 true :: Blk.mk (ns 0).n z2 true :: rdOf B))))))))))))))))))))
theorem rac10_run (B : List (Nat × Sy.Cont)) (dst base size mode to line col : Int) (iv ev fv tv av : Value) (ix e f : List NodeD) (cells loc : Int) : Sy.Ran (Sy.inB Tryz.prog (ctxR B (10) size mode iv ev fv ix e f loc) 50 fRAct #[.agg #[.int .i64 (10), .int .i64 dst, .int .i64 base, .int .i64 size, iv, ev, fv, .int .i64 mode, .int .i64 to, .int .i64 line, .int .i64 col], progV cells tv, thrV loc av] (rdOf B)) rac10_o (rac10_R B dst base size mode to line col iv ev fv tv av ix e f cells loc) := ⟨fun _ => by kernel_rfl, fun _ => by kernel_rfl⟩
def rac0_o : Sy.O := (bz 12 0xcd9 (fork (bz 6 0x3f nil) (bz 20 0xdf9f3 (fork nil (bz 39 0x79fbf3fef9 (fork nil (bz 32 0xb366cef9 (fork nil (bz 19 0x66cd9 (fork (bz 23 0x7f7ff3 nil) (bz 8 0xff (fork (bz 11 0x773 (fork nil (bz 5 0x19 (fork (bz 24 0xff7ff3 nil) (bz 14 0x3cff (fork (bz 11 0x773 (fork nil (bz 12 0xcd9 (fork (bz 17 0x17cd9 nil) (bz 5 0x19 nil))))) (bz 17 0x19b3f (fork (bz 17 0x17cd9 nil) (bz 5 0x19 nil))))))))) (bz 10 0x33f (fork (bz 24 0xff7ff3 nil) (bz 14 0x3cff (fork (bz 11 0x773 (fork nil (bz 12 0xcd9 (fork (bz 17 0x17cd9 nil) (bz 5 0x19 nil))))) (bz 17 0x19b3f (fork (bz 17 0x17cd9 nil) (bz 5 0x19 nil)))))))))))))))))))
noncomputable def rac0_R (B : List (Nat × Sy.Cont)) (op dst base size mode to line col : Int) (iv ev fv tv av : Value) (cells loc : Int) (ns : Nat → Sy.Let) : Sy.Res (Value × List Blk) :=
 let z0 := Sy.Cont.obj (Obj.cells (Array.mk [.int .i64 loc, av]) 40)
 let z1 := Sy.Cont.obj (Obj.cells (Array.mk [.int .i64 cells, tv]) 24)
 let z2 := Sy.Cont.obj (Obj.cells (Array.mk [.int .i64 op, .int .i64 dst, .int .i64 base, .int .i64 size, iv, ev, fv, .int .i64 mode, .int .i64 to, .int .i64 line, .int .i64 col]) 46)
 let z3 := leaf (Value.bool false, Blk.mk (ns 2).n z0 true :: Blk.mk (ns 1).n z1 true :: Blk.mk (ns 0).n z2 true :: rdOf B)
 let z4 := need False (hyp True z3)
 let z5 := br (bif Ex.eqQ op 9 then true else Ex.eqQ op 10) (need (∃ (p : Option Addr), ∃ (n : Nat), ∃ (c : Nat), av = Value.slice p n c) (leaf (Value.bool (bif Ex.leQ 0 to then Ex.leQ to (Int.ofNat (Sy.lenS av)) else false), Blk.mk (ns 2).n z0 true :: Blk.mk (ns 1).n z1 true :: Blk.mk (ns 0).n z2 true :: rdOf B))) (leaf (Value.bool (Ex.eqQ to 0), Blk.mk (ns 2).n z0 true :: Blk.mk (ns 1).n z1 true :: Blk.mk (ns 0).n z2 true :: rdOf B))
 let z6 := br (Ex.eqQ op 6) z4 (br (!Ex.eqQ op 6) (need (∃ (p : Option Addr), ∃ (n : Nat), ∃ (c : Nat), fv = Value.slice p n c) (br (bif false then true else bif true then Ex.ltQ 0 (Int.ofNat (Sy.lenS fv)) else false) z3 z5)) z5)
 br (bif Ex.ltQ op 1 then true else Ex.ltQ 10 op) z3 (need True (hyp True (br (bif false then true else !mayF op mode) z3 (need False (hyp True (need False (hyp True (br (bif false then true else bif true then !Ex.eqQ dst 0 else false) z3 (need False (hyp True (need (∃ (p : Option Addr), ∃ (n : Nat), ∃ (c : Nat), iv = Value.slice p n c) (br (bif bif !Ex.eqQ base 0 then true else !Ex.eqQ size 0 then true else Ex.ltQ 0 (Int.ofNat (Sy.lenS iv))) z3 (br (bif bif !Ex.eqQ op 2 then !Ex.eqQ op 7 else false then !Ex.eqQ op 9 else false) z4 (br (!bif bif !Ex.eqQ op 2 then !Ex.eqQ op 7 else false then !Ex.eqQ op 9 else false) (need (∃ (p : Option Addr), ∃ (n : Nat), ∃ (c : Nat), ev = Value.slice p n c) (br (bif false then true else bif true then Ex.ltQ 0 (Int.ofNat (Sy.lenS ev)) else false) z3 z6)) z6))))))))))))))
theorem rac0_run (B : List (Nat × Sy.Cont)) (op dst base size mode to line col : Int) (iv ev fv tv av : Value) (cells loc : Int) : Sy.Ran (Sy.inB Tryz.prog (ctxZ op mode) 50 fRAct #[.agg #[.int .i64 op, .int .i64 dst, .int .i64 base, .int .i64 size, iv, ev, fv, .int .i64 mode, .int .i64 to, .int .i64 line, .int .i64 col], progV cells tv, thrV loc av] (rdOf B)) rac0_o (rac0_R B op dst base size mode to line col iv ev fv tv av cells loc) := ⟨fun _ => by kernel_rfl, fun _ => by kernel_rfl⟩
open Go Go.RowKit
open Sy (Let Blk HasL)
def placeR (size base cells loc : Int) (ix : List NodeD) : Bool :=
 bif Ex.eqQ size 0 then (!Ex.ltQ base 0 && (!Ex.ltQ (Ex.wrapQ .i64 (Ex.subQ' cells 1)) base && decide (ix.length = 0)))
 else powF size && (!Ex.ltQ base 0 && (!Ex.ltQ (Ex.wrapQ .i64 (Ex.subQ' cells size)) base && exprR loc ix))
def actR (cells loc : Int) (na : Nat) (a : ActD) : Bool :=
 decide (1 ≤ a.op ∧ a.op ≤ 10) && (mayF a.op a.mode && ((bif hasDst a.op then Ex.leQ 0 a.dst && Ex.ltQ a.dst loc else Ex.eqQ a.dst 0) &&
 ((bif hasPlace a.op then placeR a.size a.base cells loc a.ix else Ex.eqQ a.base 0 && (Ex.eqQ a.size 0 && decide (a.ix.length = 0))) &&
 ((bif hasE a.op then exprR loc a.e else decide (a.e.length = 0)) && ((bif hasF a.op then exprR loc a.f else decide (a.f.length = 0)) &&
 (bif hasTo a.op then Ex.leQ 0 a.to && Ex.leQ a.to (na : Int) else Ex.eqQ a.to 0))))))
def ractC (B : List (Nat × Sy.Cont)) (a : ActD) (iv ev fv tv av : Value) (cells loc : Int) (na : Nat) : Sy.CallC :=
 ⟨fRAct, #[actV a iv ev fv, progV cells tv, thrV loc av], OkW B iv ev fv av a na, ⟨[], [], 0, B⟩, [Sy.plainO (.bool (actR cells loc na a))]⟩
theorem pow_pos {n : Int} (h : powF n = true) : Ex.ltQ 0 n = true := by
 unfold powF at h
 rw [Ex.ltQ_eq]
 have := of_decide_eq_true h
 simp
 omega
theorem zero_pos {n : Int} (h : Ex.eqQ n 0 = true) : Ex.ltQ 0 n = false := by
 rw [Ex.eqQ_eq] at h
 rw [Ex.ltQ_eq]
 simp at h
 simp [h]
theorem len_zero (n : Nat) : decide (0 < n) = !decide (n = 0) := by
 cases n <;> simp
theorem ract1_met (B : List (Nat × Sy.Cont)) (a : ActD) (iv ev fv tv av : Value) (cells loc : Int) (na : Nat) (hk : a.op = 1) : Sy.Meets Tryz.prog (ractC B a iv ev fv tv av cells loc na) := by
 obtain ⟨op, dst, base, size, ix, e, f, mode, to, line, col⟩ := a
 simp only at hk
 subst hk
 refine Sy.meets_ofB (ctxR_holds B 1 size mode iv ev fv ix e f loc) mixed (L := rdOf B) (Sy.Ent.refl _) (rac1_run B dst base size mode to line col iv ev fv tv av ix e f cells loc) fun hok ns => ?_
 obtain ⟨⟨hI, hil⟩, ⟨hE, hel⟩, ⟨hF, hfl⟩, hA, hna⟩ := hok
 simp only at hI hE hF hil hel hfl
 have leaf : ∀ b L, b = actR cells loc na ⟨1, dst, base, size, ix, e, f, mode, to, line, col⟩ → Sy.leafB (ractC B ⟨1, dst, base, size, ix, e, f, mode, to, line, col⟩ iv ev fv tv av cells loc na) (.bool b, L) := fun b L h => plainB_leaf (Sy.mS _) rfl (by rw [h])
 have h1 : hasDst 1 = true := rfl
 have h2 : hasPlace 1 = false := rfl
 have h3 : hasE 1 = true := rfl
 have h4 : hasF 1 = false := rfl
 have h5 : hasTo 1 = false := rfl
 have hpp : powF size = true → Ex.ltQ 0 size = true := pow_pos
 have hzp : Ex.eqQ size 0 = true → Ex.ltQ 0 size = false := zero_pos
 simp only [actR, placeR, h1, h2, h3, h4, h5] at leaf
 simp only [rac1_R, Sy.Res.holds, hI.len, hE.len, hF.len, hna, pos_len, len_zero, far_to, neg_to, ge_to loc dst]
 repeat' (first | exact gotL_of (fun p hp => by simp [hp]) | apply And.intro | intro _)
 all_goals first
  | exact trivial
  | exact hI.sl
  | exact hE.sl
  | exact hF.sl
  | exact hA
  | exact hI
  | exact hE
  | exact hF
  | exact hil
  | exact hel
  | exact hfl
  | decide
  | skip
 all_goals
  refine leaf _ _ ?_
  simp_all [neg_to, far_to] <;> (intros; simp_all)
theorem ract2_met (B : List (Nat × Sy.Cont)) (a : ActD) (iv ev fv tv av : Value) (cells loc : Int) (na : Nat) (hk : a.op = 2) : Sy.Meets Tryz.prog (ractC B a iv ev fv tv av cells loc na) := by
 obtain ⟨op, dst, base, size, ix, e, f, mode, to, line, col⟩ := a
 simp only at hk
 subst hk
 refine Sy.meets_ofB (ctxR_holds B 2 size mode iv ev fv ix e f loc) mixed (L := rdOf B) (Sy.Ent.refl _) (rac2_run B dst base size mode to line col iv ev fv tv av ix e f cells loc) fun hok ns => ?_
 obtain ⟨⟨hI, hil⟩, ⟨hE, hel⟩, ⟨hF, hfl⟩, hA, hna⟩ := hok
 simp only at hI hE hF hil hel hfl
 have leaf : ∀ b L, b = actR cells loc na ⟨2, dst, base, size, ix, e, f, mode, to, line, col⟩ → Sy.leafB (ractC B ⟨2, dst, base, size, ix, e, f, mode, to, line, col⟩ iv ev fv tv av cells loc na) (.bool b, L) := fun b L h => plainB_leaf (Sy.mS _) rfl (by rw [h])
 have h1 : hasDst 2 = true := rfl
 have h2 : hasPlace 2 = true := rfl
 have h3 : hasE 2 = false := rfl
 have h4 : hasF 2 = false := rfl
 have h5 : hasTo 2 = false := rfl
 have hpp : powF size = true → Ex.ltQ 0 size = true := pow_pos
 have hzp : Ex.eqQ size 0 = true → Ex.ltQ 0 size = false := zero_pos
 simp only [actR, placeR, h1, h2, h3, h4, h5] at leaf
 simp only [rac2_R, Sy.Res.holds, hI.len, hE.len, hF.len, hna, pos_len, len_zero, far_to, neg_to, ge_to loc dst]
 repeat' (first | exact gotL_of (fun p hp => by simp [hp]) | apply And.intro | intro _)
 all_goals first
  | exact trivial
  | exact hI.sl
  | exact hE.sl
  | exact hF.sl
  | exact hA
  | exact hI
  | exact hE
  | exact hF
  | exact hil
  | exact hel
  | exact hfl
  | decide
  | skip
 all_goals
  refine leaf _ _ ?_
  simp_all [neg_to, far_to] <;> (intros; simp_all)
theorem ract3_met (B : List (Nat × Sy.Cont)) (a : ActD) (iv ev fv tv av : Value) (cells loc : Int) (na : Nat) (hk : a.op = 3) : Sy.Meets Tryz.prog (ractC B a iv ev fv tv av cells loc na) := by
 obtain ⟨op, dst, base, size, ix, e, f, mode, to, line, col⟩ := a
 simp only at hk
 subst hk
 refine Sy.meets_ofB (ctxR_holds B 3 size mode iv ev fv ix e f loc) mixed (L := rdOf B) (Sy.Ent.refl _) (rac3_run B dst base size mode to line col iv ev fv tv av ix e f cells loc) fun hok ns => ?_
 obtain ⟨⟨hI, hil⟩, ⟨hE, hel⟩, ⟨hF, hfl⟩, hA, hna⟩ := hok
 simp only at hI hE hF hil hel hfl
 have leaf : ∀ b L, b = actR cells loc na ⟨3, dst, base, size, ix, e, f, mode, to, line, col⟩ → Sy.leafB (ractC B ⟨3, dst, base, size, ix, e, f, mode, to, line, col⟩ iv ev fv tv av cells loc na) (.bool b, L) := fun b L h => plainB_leaf (Sy.mS _) rfl (by rw [h])
 have h1 : hasDst 3 = false := rfl
 have h2 : hasPlace 3 = true := rfl
 have h3 : hasE 3 = true := rfl
 have h4 : hasF 3 = false := rfl
 have h5 : hasTo 3 = false := rfl
 have hpp : powF size = true → Ex.ltQ 0 size = true := pow_pos
 have hzp : Ex.eqQ size 0 = true → Ex.ltQ 0 size = false := zero_pos
 simp only [actR, placeR, h1, h2, h3, h4, h5] at leaf
 simp only [rac3_R, Sy.Res.holds, hI.len, hE.len, hF.len, hna, pos_len, len_zero, far_to, neg_to, ge_to loc dst]
 repeat' (first | exact gotL_of (fun p hp => by simp [hp]) | apply And.intro | intro _)
 all_goals first
  | exact trivial
  | exact hI.sl
  | exact hE.sl
  | exact hF.sl
  | exact hA
  | exact hI
  | exact hE
  | exact hF
  | exact hil
  | exact hel
  | exact hfl
  | decide
  | skip
 all_goals
  refine leaf _ _ ?_
  simp_all [neg_to, far_to] <;> (intros; simp_all)
theorem ract4_met (B : List (Nat × Sy.Cont)) (a : ActD) (iv ev fv tv av : Value) (cells loc : Int) (na : Nat) (hk : a.op = 4) : Sy.Meets Tryz.prog (ractC B a iv ev fv tv av cells loc na) := by
 obtain ⟨op, dst, base, size, ix, e, f, mode, to, line, col⟩ := a
 simp only at hk
 subst hk
 refine Sy.meets_ofB (ctxR_holds B 4 size mode iv ev fv ix e f loc) mixed (L := rdOf B) (Sy.Ent.refl _) (rac4_run B dst base size mode to line col iv ev fv tv av ix e f cells loc) fun hok ns => ?_
 obtain ⟨⟨hI, hil⟩, ⟨hE, hel⟩, ⟨hF, hfl⟩, hA, hna⟩ := hok
 simp only at hI hE hF hil hel hfl
 have leaf : ∀ b L, b = actR cells loc na ⟨4, dst, base, size, ix, e, f, mode, to, line, col⟩ → Sy.leafB (ractC B ⟨4, dst, base, size, ix, e, f, mode, to, line, col⟩ iv ev fv tv av cells loc na) (.bool b, L) := fun b L h => plainB_leaf (Sy.mS _) rfl (by rw [h])
 have h1 : hasDst 4 = true := rfl
 have h2 : hasPlace 4 = true := rfl
 have h3 : hasE 4 = true := rfl
 have h4 : hasF 4 = false := rfl
 have h5 : hasTo 4 = false := rfl
 have hpp : powF size = true → Ex.ltQ 0 size = true := pow_pos
 have hzp : Ex.eqQ size 0 = true → Ex.ltQ 0 size = false := zero_pos
 simp only [actR, placeR, h1, h2, h3, h4, h5] at leaf
 simp only [rac4_R, Sy.Res.holds, hI.len, hE.len, hF.len, hna, pos_len, len_zero, far_to, neg_to, ge_to loc dst]
 repeat' (first | exact gotL_of (fun p hp => by simp [hp]) | apply And.intro | intro _)
 all_goals first
  | exact trivial
  | exact hI.sl
  | exact hE.sl
  | exact hF.sl
  | exact hA
  | exact hI
  | exact hE
  | exact hF
  | exact hil
  | exact hel
  | exact hfl
  | decide
  | skip
 all_goals
  refine leaf _ _ ?_
  simp_all [neg_to, far_to] <;> (intros; simp_all)
theorem ract5_met (B : List (Nat × Sy.Cont)) (a : ActD) (iv ev fv tv av : Value) (cells loc : Int) (na : Nat) (hk : a.op = 5) : Sy.Meets Tryz.prog (ractC B a iv ev fv tv av cells loc na) := by
 obtain ⟨op, dst, base, size, ix, e, f, mode, to, line, col⟩ := a
 simp only at hk
 subst hk
 refine Sy.meets_ofB (ctxR_holds B 5 size mode iv ev fv ix e f loc) mixed (L := rdOf B) (Sy.Ent.refl _) (rac5_run B dst base size mode to line col iv ev fv tv av ix e f cells loc) fun hok ns => ?_
 obtain ⟨⟨hI, hil⟩, ⟨hE, hel⟩, ⟨hF, hfl⟩, hA, hna⟩ := hok
 simp only at hI hE hF hil hel hfl
 have leaf : ∀ b L, b = actR cells loc na ⟨5, dst, base, size, ix, e, f, mode, to, line, col⟩ → Sy.leafB (ractC B ⟨5, dst, base, size, ix, e, f, mode, to, line, col⟩ iv ev fv tv av cells loc na) (.bool b, L) := fun b L h => plainB_leaf (Sy.mS _) rfl (by rw [h])
 have h1 : hasDst 5 = true := rfl
 have h2 : hasPlace 5 = true := rfl
 have h3 : hasE 5 = true := rfl
 have h4 : hasF 5 = false := rfl
 have h5 : hasTo 5 = false := rfl
 have hpp : powF size = true → Ex.ltQ 0 size = true := pow_pos
 have hzp : Ex.eqQ size 0 = true → Ex.ltQ 0 size = false := zero_pos
 simp only [actR, placeR, h1, h2, h3, h4, h5] at leaf
 simp only [rac5_R, Sy.Res.holds, hI.len, hE.len, hF.len, hna, pos_len, len_zero, far_to, neg_to, ge_to loc dst]
 repeat' (first | exact gotL_of (fun p hp => by simp [hp]) | apply And.intro | intro _)
 all_goals first
  | exact trivial
  | exact hI.sl
  | exact hE.sl
  | exact hF.sl
  | exact hA
  | exact hI
  | exact hE
  | exact hF
  | exact hil
  | exact hel
  | exact hfl
  | decide
  | skip
 all_goals
  refine leaf _ _ ?_
  simp_all [neg_to, far_to] <;> (intros; simp_all)
theorem ract6_met (B : List (Nat × Sy.Cont)) (a : ActD) (iv ev fv tv av : Value) (cells loc : Int) (na : Nat) (hk : a.op = 6) : Sy.Meets Tryz.prog (ractC B a iv ev fv tv av cells loc na) := by
 obtain ⟨op, dst, base, size, ix, e, f, mode, to, line, col⟩ := a
 simp only at hk
 subst hk
 refine Sy.meets_ofB (ctxR_holds B 6 size mode iv ev fv ix e f loc) mixed (L := rdOf B) (Sy.Ent.refl _) (rac6_run B dst base size mode to line col iv ev fv tv av ix e f cells loc) fun hok ns => ?_
 obtain ⟨⟨hI, hil⟩, ⟨hE, hel⟩, ⟨hF, hfl⟩, hA, hna⟩ := hok
 simp only at hI hE hF hil hel hfl
 have leaf : ∀ b L, b = actR cells loc na ⟨6, dst, base, size, ix, e, f, mode, to, line, col⟩ → Sy.leafB (ractC B ⟨6, dst, base, size, ix, e, f, mode, to, line, col⟩ iv ev fv tv av cells loc na) (.bool b, L) := fun b L h => plainB_leaf (Sy.mS _) rfl (by rw [h])
 have h1 : hasDst 6 = true := rfl
 have h2 : hasPlace 6 = true := rfl
 have h3 : hasE 6 = true := rfl
 have h4 : hasF 6 = true := rfl
 have h5 : hasTo 6 = false := rfl
 have hpp : powF size = true → Ex.ltQ 0 size = true := pow_pos
 have hzp : Ex.eqQ size 0 = true → Ex.ltQ 0 size = false := zero_pos
 simp only [actR, placeR, h1, h2, h3, h4, h5] at leaf
 simp only [rac6_R, Sy.Res.holds, hI.len, hE.len, hF.len, hna, pos_len, len_zero, far_to, neg_to, ge_to loc dst]
 repeat' (first | exact gotL_of (fun p hp => by simp [hp]) | apply And.intro | intro _)
 all_goals first
  | exact trivial
  | exact hI.sl
  | exact hE.sl
  | exact hF.sl
  | exact hA
  | exact hI
  | exact hE
  | exact hF
  | exact hil
  | exact hel
  | exact hfl
  | decide
  | skip
 all_goals
  refine leaf _ _ ?_
  simp_all [neg_to, far_to] <;> (intros; simp_all)
theorem ract7_met (B : List (Nat × Sy.Cont)) (a : ActD) (iv ev fv tv av : Value) (cells loc : Int) (na : Nat) (hk : a.op = 7) : Sy.Meets Tryz.prog (ractC B a iv ev fv tv av cells loc na) := by
 obtain ⟨op, dst, base, size, ix, e, f, mode, to, line, col⟩ := a
 simp only at hk
 subst hk
 refine Sy.meets_ofB (ctxR_holds B 7 size mode iv ev fv ix e f loc) mixed (L := rdOf B) (Sy.Ent.refl _) (rac7_run B dst base size mode to line col iv ev fv tv av ix e f cells loc) fun hok ns => ?_
 obtain ⟨⟨hI, hil⟩, ⟨hE, hel⟩, ⟨hF, hfl⟩, hA, hna⟩ := hok
 simp only at hI hE hF hil hel hfl
 have leaf : ∀ b L, b = actR cells loc na ⟨7, dst, base, size, ix, e, f, mode, to, line, col⟩ → Sy.leafB (ractC B ⟨7, dst, base, size, ix, e, f, mode, to, line, col⟩ iv ev fv tv av cells loc na) (.bool b, L) := fun b L h => plainB_leaf (Sy.mS _) rfl (by rw [h])
 have h1 : hasDst 7 = false := rfl
 have h2 : hasPlace 7 = false := rfl
 have h3 : hasE 7 = false := rfl
 have h4 : hasF 7 = false := rfl
 have h5 : hasTo 7 = false := rfl
 have hpp : powF size = true → Ex.ltQ 0 size = true := pow_pos
 have hzp : Ex.eqQ size 0 = true → Ex.ltQ 0 size = false := zero_pos
 simp only [actR, placeR, h1, h2, h3, h4, h5] at leaf
 simp only [rac7_R, Sy.Res.holds, hI.len, hE.len, hF.len, hna, pos_len, len_zero, far_to, neg_to, ge_to loc dst]
 repeat' (first | exact gotL_of (fun p hp => by simp [hp]) | apply And.intro | intro _)
 all_goals first
  | exact trivial
  | exact hI.sl
  | exact hE.sl
  | exact hF.sl
  | exact hA
  | exact hI
  | exact hE
  | exact hF
  | exact hil
  | exact hel
  | exact hfl
  | decide
  | skip
 all_goals
  refine leaf _ _ ?_
  simp_all [neg_to, far_to] <;> (intros; simp_all)
theorem ract8_met (B : List (Nat × Sy.Cont)) (a : ActD) (iv ev fv tv av : Value) (cells loc : Int) (na : Nat) (hk : a.op = 8) : Sy.Meets Tryz.prog (ractC B a iv ev fv tv av cells loc na) := by
 obtain ⟨op, dst, base, size, ix, e, f, mode, to, line, col⟩ := a
 simp only at hk
 subst hk
 refine Sy.meets_ofB (ctxR_holds B 8 size mode iv ev fv ix e f loc) mixed (L := rdOf B) (Sy.Ent.refl _) (rac8_run B dst base size mode to line col iv ev fv tv av ix e f cells loc) fun hok ns => ?_
 obtain ⟨⟨hI, hil⟩, ⟨hE, hel⟩, ⟨hF, hfl⟩, hA, hna⟩ := hok
 simp only at hI hE hF hil hel hfl
 have leaf : ∀ b L, b = actR cells loc na ⟨8, dst, base, size, ix, e, f, mode, to, line, col⟩ → Sy.leafB (ractC B ⟨8, dst, base, size, ix, e, f, mode, to, line, col⟩ iv ev fv tv av cells loc na) (.bool b, L) := fun b L h => plainB_leaf (Sy.mS _) rfl (by rw [h])
 have h1 : hasDst 8 = false := rfl
 have h2 : hasPlace 8 = false := rfl
 have h3 : hasE 8 = true := rfl
 have h4 : hasF 8 = false := rfl
 have h5 : hasTo 8 = false := rfl
 have hpp : powF size = true → Ex.ltQ 0 size = true := pow_pos
 have hzp : Ex.eqQ size 0 = true → Ex.ltQ 0 size = false := zero_pos
 simp only [actR, placeR, h1, h2, h3, h4, h5] at leaf
 simp only [rac8_R, Sy.Res.holds, hI.len, hE.len, hF.len, hna, pos_len, len_zero, far_to, neg_to, ge_to loc dst]
 repeat' (first | exact gotL_of (fun p hp => by simp [hp]) | apply And.intro | intro _)
 all_goals first
  | exact trivial
  | exact hI.sl
  | exact hE.sl
  | exact hF.sl
  | exact hA
  | exact hI
  | exact hE
  | exact hF
  | exact hil
  | exact hel
  | exact hfl
  | decide
  | skip
 all_goals
  refine leaf _ _ ?_
  simp_all [neg_to, far_to] <;> (intros; simp_all)
theorem ract9_met (B : List (Nat × Sy.Cont)) (a : ActD) (iv ev fv tv av : Value) (cells loc : Int) (na : Nat) (hk : a.op = 9) : Sy.Meets Tryz.prog (ractC B a iv ev fv tv av cells loc na) := by
 obtain ⟨op, dst, base, size, ix, e, f, mode, to, line, col⟩ := a
 simp only at hk
 subst hk
 refine Sy.meets_ofB (ctxR_holds B 9 size mode iv ev fv ix e f loc) mixed (L := rdOf B) (Sy.Ent.refl _) (rac9_run B dst base size mode to line col iv ev fv tv av ix e f cells loc) fun hok ns => ?_
 obtain ⟨⟨hI, hil⟩, ⟨hE, hel⟩, ⟨hF, hfl⟩, hA, hna⟩ := hok
 simp only at hI hE hF hil hel hfl
 have leaf : ∀ b L, b = actR cells loc na ⟨9, dst, base, size, ix, e, f, mode, to, line, col⟩ → Sy.leafB (ractC B ⟨9, dst, base, size, ix, e, f, mode, to, line, col⟩ iv ev fv tv av cells loc na) (.bool b, L) := fun b L h => plainB_leaf (Sy.mS _) rfl (by rw [h])
 have h1 : hasDst 9 = false := rfl
 have h2 : hasPlace 9 = false := rfl
 have h3 : hasE 9 = false := rfl
 have h4 : hasF 9 = false := rfl
 have h5 : hasTo 9 = true := rfl
 have hpp : powF size = true → Ex.ltQ 0 size = true := pow_pos
 have hzp : Ex.eqQ size 0 = true → Ex.ltQ 0 size = false := zero_pos
 simp only [actR, placeR, h1, h2, h3, h4, h5] at leaf
 simp only [rac9_R, Sy.Res.holds, hI.len, hE.len, hF.len, hna, pos_len, len_zero, far_to, neg_to, ge_to loc dst]
 repeat' (first | exact gotL_of (fun p hp => by simp [hp]) | apply And.intro | intro _)
 all_goals first
  | exact trivial
  | exact hI.sl
  | exact hE.sl
  | exact hF.sl
  | exact hA
  | exact hI
  | exact hE
  | exact hF
  | exact hil
  | exact hel
  | exact hfl
  | decide
  | skip
 all_goals
  refine leaf _ _ ?_
  simp_all [neg_to, far_to] <;> (intros; simp_all)
theorem ract10_met (B : List (Nat × Sy.Cont)) (a : ActD) (iv ev fv tv av : Value) (cells loc : Int) (na : Nat) (hk : a.op = 10) : Sy.Meets Tryz.prog (ractC B a iv ev fv tv av cells loc na) := by
 obtain ⟨op, dst, base, size, ix, e, f, mode, to, line, col⟩ := a
 simp only at hk
 subst hk
 refine Sy.meets_ofB (ctxR_holds B 10 size mode iv ev fv ix e f loc) mixed (L := rdOf B) (Sy.Ent.refl _) (rac10_run B dst base size mode to line col iv ev fv tv av ix e f cells loc) fun hok ns => ?_
 obtain ⟨⟨hI, hil⟩, ⟨hE, hel⟩, ⟨hF, hfl⟩, hA, hna⟩ := hok
 simp only at hI hE hF hil hel hfl
 have leaf : ∀ b L, b = actR cells loc na ⟨10, dst, base, size, ix, e, f, mode, to, line, col⟩ → Sy.leafB (ractC B ⟨10, dst, base, size, ix, e, f, mode, to, line, col⟩ iv ev fv tv av cells loc na) (.bool b, L) := fun b L h => plainB_leaf (Sy.mS _) rfl (by rw [h])
 have h1 : hasDst 10 = false := rfl
 have h2 : hasPlace 10 = false := rfl
 have h3 : hasE 10 = true := rfl
 have h4 : hasF 10 = false := rfl
 have h5 : hasTo 10 = true := rfl
 have hpp : powF size = true → Ex.ltQ 0 size = true := pow_pos
 have hzp : Ex.eqQ size 0 = true → Ex.ltQ 0 size = false := zero_pos
 simp only [actR, placeR, h1, h2, h3, h4, h5] at leaf
 simp only [rac10_R, Sy.Res.holds, hI.len, hE.len, hF.len, hna, pos_len, len_zero, far_to, neg_to, ge_to loc dst]
 repeat' (first | exact gotL_of (fun p hp => by simp [hp]) | apply And.intro | intro _)
 all_goals first
  | exact trivial
  | exact hI.sl
  | exact hE.sl
  | exact hF.sl
  | exact hA
  | exact hI
  | exact hE
  | exact hF
  | exact hil
  | exact hel
  | exact hfl
  | decide
  | skip
 all_goals
  refine leaf _ _ ?_
  simp_all [neg_to, far_to] <;> (intros; simp_all)
theorem ract0_met (B : List (Nat × Sy.Cont)) (a : ActD) (iv ev fv tv av : Value) (cells loc : Int) (na : Nat) (hk : ¬ (1 ≤ a.op ∧ a.op ≤ 10)) : Sy.Meets Tryz.prog (ractC B a iv ev fv tv av cells loc na) := by
 obtain ⟨op, dst, base, size, ix, e, f, mode, to, line, col⟩ := a
 simp only at hk
 refine Sy.meets_ofB (ctxZ_holds op mode) mixed (L := rdOf B) (Sy.Ent.refl _) (rac0_run B op dst base size mode to line col iv ev fv tv av cells loc) fun hok ns => ?_
 have leaf : ∀ L, Sy.leafB (ractC B ⟨op, dst, base, size, ix, e, f, mode, to, line, col⟩ iv ev fv tv av cells loc na) (.bool false, L) := fun L => plainB_leaf (Sy.mS _) rfl (by simp [actR, hk])
 simp only [rac0_R, Sy.Res.holds]
 refine ⟨fun _ => leaf _, fun h => ?_⟩
 exfalso
 rw [Ex.ltQ_eq, Ex.ltQ_eq] at h
 simp at h
 omega
theorem ractC_met (B : List (Nat × Sy.Cont)) (a : ActD) (iv ev fv tv av : Value) (cells loc : Int) (na : Nat) : Sy.Meets Tryz.prog (ractC B a iv ev fv tv av cells loc na) := by
 by_cases hk : 1 ≤ a.op ∧ a.op ≤ 10
 ·have h : a.op = 1 ∨ a.op = 2 ∨ a.op = 3 ∨ a.op = 4 ∨ a.op = 5 ∨ a.op = 6 ∨ a.op = 7 ∨ a.op = 8 ∨ a.op = 9 ∨ a.op = 10 := by omega
  rcases h with h | h | h | h | h | h | h | h | h | h
  ·exact ract1_met _ _ _ _ _ _ _ _ _ _ h
  ·exact ract2_met _ _ _ _ _ _ _ _ _ _ h
  ·exact ract3_met _ _ _ _ _ _ _ _ _ _ h
  ·exact ract4_met _ _ _ _ _ _ _ _ _ _ h
  ·exact ract5_met _ _ _ _ _ _ _ _ _ _ h
  ·exact ract6_met _ _ _ _ _ _ _ _ _ _ h
  ·exact ract7_met _ _ _ _ _ _ _ _ _ _ h
  ·exact ract8_met _ _ _ _ _ _ _ _ _ _ h
  ·exact ract9_met _ _ _ _ _ _ _ _ _ _ h
  ·exact ract10_met _ _ _ _ _ _ _ _ _ _ h
 ·exact ract0_met _ _ _ _ _ _ _ _ _ _ hk
open Go Go.RowKit
open Sy (Let Blk HasL)
abbrev fRWhole : FuncId := 12
def bodyRT : Code := Sy.loopBody Tryz.f12 0
def bodyRA : Code := Sy.loopBody Tryz.f12 1
def ractBy (B : List (Nat × Sy.Cont)) (a : ActD) (cells loc : Int) (na : Nat) (args : Array Value) : Sy.CallC :=
 ⟨fRAct, args, ∃ iv ev fv tv av, args = #[actV a iv ev fv, progV cells tv, thrV loc av] ∧ OkW B iv ev fv av a na, ⟨[], [], 0, B⟩, [Sy.plainO (.bool (actR cells loc na a))]⟩
theorem ractBy_met (B : List (Nat × Sy.Cont)) (a : ActD) (cells loc : Int) (na : Nat) (args : Array Value) : Sy.Meets Tryz.prog (ractBy B a cells loc na args) := fun ⟨iv, ev, fv, tv, av, h, hok⟩ => by
 subst h
 exact ractC_met B a iv ev fv tv av cells loc na hok
def ctxRA (B : List (Nat × Sy.Cont)) (a : ActD) (cells loc : Int) (na : Nat) : Sy.Ctx := Sy.mkS [(fRAct, fun args _ => ractBy B a cells loc na args)] [] []
theorem ctxRA_holds (B : List (Nat × Sy.Cont)) (a : ActD) (cells loc : Int) (na : Nat) : (ctxRA B a cells loc na).holds Tryz.prog := Sy.mkS_holds (fun p hp args L => by
 rcases List.mem_singleton.1 hp with rfl
 exact ractBy_met _ _ _ _ _ _) (fun _ h => (by cases h)) (fun _ h => (by cases h))
def slRA (p1 p4 : Nat) (i k : Nat) : List (Nat × Value) := [(1, .pointer (some ⟨p1, 0, none⟩)), (2, .bool false), (3, .int .i64 (Int.ofNat i)), (4, .pointer (some ⟨p4, 0, none⟩)), (5, .int .i64 (Int.ofNat k))]
def ri_o : Sy.O := (bz 6 0x2d (fork (bz 104 0x805d65800ba5001b03c15136de (fork nil nil)) nil))
noncomputable def ri_R (B : List (Nat × Sy.Cont)) (a : ActD) (p1 p4 : Nat) (tv av : Value) (i k : Nat) (cells loc : Int) (f : Nat → Value) (ns : Nat → Sy.Let) : Sy.Res (Exit × Nat × List Value × List Blk) :=
 let z0 := Int.ofNat k
 let z1 := Sy.lenS av
 let z2 := Sy.ptrS av
 let z3 := rdOf B
 let z4 := Sy.offS av + Int.toNat z0 * 11
 let z5 := Sy.offS av + Int.toNat z0 * 11 + 1
 let z6 := Sy.offS av + Int.toNat z0 * 11 + 1 + 1
 let z7 := Sy.offS av + Int.toNat z0 * 11 + 1 + 1 + 1
 let z8 := Sy.offS av + Int.toNat z0 * 11 + 1 + 1 + 1 + 1
 let z9 := Sy.offS av + Int.toNat z0 * 11 + 1 + 1 + 1 + 1 + 1
 let z10 := Sy.offS av + Int.toNat z0 * 11 + 1 + 1 + 1 + 1 + 1 + 1
 let z11 := Sy.offS av + Int.toNat z0 * 11 + 1 + 1 + 1 + 1 + 1 + 1 + 1
 let z12 := Sy.offS av + Int.toNat z0 * 11 + 1 + 1 + 1 + 1 + 1 + 1 + 1 + 1
 let z13 := Sy.offS av + Int.toNat z0 * 11 + 1 + 1 + 1 + 1 + 1 + 1 + 1 + 1 + 1
 let z14 := Sy.offS av + Int.toNat z0 * 11 + 1 + 1 + 1 + 1 + 1 + 1 + 1 + 1 + 1 + 1
 let z15 := Array.mk [Value.int .i64 cells, tv]
 let z16 := Array.mk [Value.int .i64 loc, av]
 let z17 := some (Addr.mk p1 0 none)
 let z18 := some (Addr.mk p4 0 none)
 let z19 := Sy.Cont.obj (Obj.cells z15 24)
 let z20 := Sy.Cont.obj (Obj.cells z16 40)
 need (∃ (p : Option Addr), ∃ (n : Nat), ∃ (c : Nat), av = Value.slice p n c) (br (Ex.ltQ z0 (Int.ofNat z1)) (need ((∃ (n : Nat), ∃ (c : Nat), av = Value.slice (some (Addr.mk z2 (Sy.offS av) none)) n c) ∧ 0 ≤ Int.ofNat k ∧ Int.ofNat k < (↑z1 : Int)) (need (∃ (i : Int), HasL z3 z2 z4 (Value.int .i64 i)) (hyp (∀ (u : Value), HasL z3 z2 z4 u → u = Value.int .i64 (ns 0).i) (need (∃ (i : Int), HasL z3 z2 z5 (Value.int .i64 i)) (hyp (∀ (u : Value), HasL z3 z2 z5 u → u = Value.int .i64 (ns 1).i) (need (∃ (i : Int), HasL z3 z2 z6 (Value.int .i64 i)) (hyp (∀ (u : Value), HasL z3 z2 z6 u → u = Value.int .i64 (ns 2).i) (need (∃ (i : Int), HasL z3 z2 z7 (Value.int .i64 i)) (hyp (∀ (u : Value), HasL z3 z2 z7 u → u = Value.int .i64 (ns 3).i) (need (∃ (v : Value), HasL z3 z2 z8 v) (hyp (∀ (u : Value), HasL z3 z2 z8 u → u = (ns 4).v) (need (∃ (v : Value), HasL z3 z2 z9 v) (hyp (∀ (u : Value), HasL z3 z2 z9 u → u = (ns 5).v) (need (∃ (v : Value), HasL z3 z2 z10 v) (hyp (∀ (u : Value), HasL z3 z2 z10 u → u = (ns 6).v) (need (∃ (i : Int), HasL z3 z2 z11 (Value.int .i64 i)) (hyp (∀ (u : Value), HasL z3 z2 z11 u → u = Value.int .i64 (ns 7).i) (need (∃ (i : Int), HasL z3 z2 z12 (Value.int .i64 i)) (hyp (∀ (u : Value), HasL z3 z2 z12 u → u = Value.int .i64 (ns 8).i) (need (∃ (i : Int), HasL z3 z2 z13 (Value.int .i64 i)) (hyp (∀ (u : Value), HasL z3 z2 z13 u → u = Value.int .i64 (ns 9).i) (need (∃ (i : Int), HasL z3 z2 z14 (Value.int .i64 i)) (hyp (∀ (u : Value), HasL z3 z2 z14 u → u = Value.int .i64
 (ns 10).i) (need (∃ (iv : Value), ∃ (ev : Value), ∃ (fv : Value), ∃ (tv_1 : Value), ∃ (av_1 : Value), Array.mk [Value.agg (Array.mk [.int .i64 (ns 0).i, .int .i64 (ns 1).i, .int .i64 (ns 2).i, .int .i64 (ns 3).i, (ns 4).v, (ns 5).v, (ns 6).v, .int .i64 (ns 7).i, .int .i64 (ns 8).i, .int .i64 (ns 9).i, .int .i64 (ns 10).i]), Value.agg z15, Value.agg z16] = Array.mk [actV a iv ev fv, progV cells tv_1, thrV loc av_1] ∧ OkW B iv ev fv av_1 a z1) (need (Sy.GotL z3 B) (hyp True (br (!actR cells loc z1 a) (leaf (Exit.ret, 62, [Value.pointer z17, Value.bool false, Value.int .i64 (Int.ofNat i), Value.pointer z18, Value.int .i64 z0], Blk.mk p1 z19 true :: Blk.mk p4 z20 true :: rdOf B)) (leaf (Exit.normal, 62, [Value.pointer z17, Value.bool false, Value.int .i64 (Int.ofNat i), Value.pointer z18, Value.int .i64 (Ex.wrapQ .i64 (Ex.addQ z0 1))], Blk.mk p1 z19 true :: Blk.mk p4 z20 true :: rdOf B))))))))))))))))))))))))))))) (leaf (Exit.exit 2, 62, [Value.pointer z17, Value.bool false, Value.int .i64 (Int.ofNat i), Value.pointer z18, Value.int .i64 z0], Blk.mk p1 z19 true :: Blk.mk p4 z20 true :: rdOf B)))
theorem ri_run (B : List (Nat × Sy.Cont)) (a : ActD) (p1 p4 : Nat) (tv av : Value) (i k : Nat) (cells loc : Int) (f : Nat → Value) : Sy.Ran (Sy.pieceT Tryz.prog (ctxRA B a cells loc (Sy.lenS av)) 50 fRWhole bodyRA 62 (slRA p1 p4 i k) ((List.range 62).map f) ((memA2 p1 p4 cells loc tv av).map Sy.ownOf ++ rdOf B) [1, 2, 3, 4, 5]) ri_o (ri_R B a p1 p4 tv av i k cells loc f) := ⟨fun _ => by kernel_rfl, fun _ => by kernel_rfl⟩
def badRAct (cells loc : Int) (l : List ActD) : Prop := ∃ (i : Nat) (a : ActD), l[i]? = some a ∧ actR cells loc l.length a = false
def loopRAC (B : List (Nat × Sy.Cont)) (l : List ActD) (p1 p4 : Nat) (tv av : Value) (i : Nat) (cells loc : Int) : Sy.LoopC :=
 ⟨.loop bodyRA, 62, slRA p1 p4 i 0, ActsR B av l, ⟨[], memA2 p1 p4 cells loc tv av, 0, B⟩,
  [(⟨fun _ => badRAct cells loc l, fun _ => [], fun _ => []⟩, .ret, fun _ => [(2, .bool false)]),
   (⟨fun _ => ¬ badRAct cells loc l, fun _ => memA2 p1 p4 cells loc tv av, fun _ => []⟩, .exit 2, fun _ => [(1, .pointer (some ⟨p1, 0, none⟩)), (2, .bool false), (3, .int .i64 (Int.ofNat i)), (4, .pointer (some ⟨p4, 0, none⟩))])]⟩
theorem loopRAC_met (B : List (Nat × Sy.Cont)) (l : List ActD) (p1 p4 : Nat) (tv av : Value) (i : Nat) (cells loc : Int) : Sy.MeetsL Tryz.prog (loopRAC B l p1 p4 tv av i cells loc) := by
 refine Sy.loop_ofB (σ := Nat × ActD) (S := fun s => ctxRA B s.2 cells loc (Sy.lenS av)) (n := 50) (fn := fRWhole) (fun _ => ctxRA_holds _ _ _ _ _) mixed (body := bodyRA) rfl [1, 2, 3, 4, 5] (fun s => slRA p1 p4 i s.1)
  (fun _ => (memA2 p1 p4 cells loc tv av).map Sy.ownOf ++ rdOf B) (fun s => s.1 ≤ l.length ∧ ActsR B av l ∧ (∀ j a, j < s.1 → l[j]? = some a → actR cells loc l.length a = true) ∧ ∀ a, l[s.1]? = some a → s.2 = a) (fun s => l.length - s.1)
  (0, l.headD ⟨0, 0, 0, 0, [], [], [], 0, 0, 0, 0⟩) (fun h => ⟨Nat.zero_le _, h, fun i x hi => by simp at hi, fun a ha => by cases l <;> simp_all⟩) (fun p hp => hp) (Sy.Ent.refl _) (o := fun _ => ri_o) (R := fun s f => ri_R B s.2 p1 p4 tv av i s.1 cells loc f) (fun s f _ => ri_run B s.2 p1 p4 tv av i s.1 cells loc f) ?_
 rintro - ⟨k, a⟩ f ⟨hk, hR, hinv, ha⟩ ns
 simp only at hk hinv ha
 simp only [ri_R, Sy.Res.holds]
 refine ⟨hR.sl, fun hlt => ?_, fun hge => ?_⟩
 ·have hlt : k < l.length := by rw [Ex.ltQ_eq, hR.len] at hlt; simpa using hlt
  obtain ⟨a', hn⟩ : ∃ n, l[k]? = some n := ⟨_, List.getElem?_eq_getElem hlt⟩
  obtain rfl : a = a' := ha a' hn
  obtain ⟨iv, ev, fv, hA⟩ := hR.act k a hn
  refine ⟨⟨hR.at_ (fun h => by rw [h] at hlt; simp at hlt), by simp, by rw [hR.len]; simpa using hlt⟩, ⟨_, hA.op⟩, fun e0 => ⟨⟨_, hA.dst⟩, fun e1 => ⟨⟨_, hA.base⟩, fun e2 => ⟨⟨_, hA.size⟩, fun e3 => ⟨⟨_, hA.ivc⟩, fun e4 => ⟨⟨_, hA.evc⟩, fun e5 => ⟨⟨_, hA.fvc⟩, fun e6 => ⟨⟨_, hA.mode⟩, fun e7 => ⟨⟨_, hA.to⟩, fun e8 => ⟨⟨_, hA.line⟩, fun e9 => ⟨⟨_, hA.col⟩, fun e10 => ?_⟩⟩⟩⟩⟩⟩⟩⟩⟩⟩⟩
  have e0 := e0 _ hA.op
  have e1 := e1 _ hA.dst
  have e2 := e2 _ hA.base
  have e3 := e3 _ hA.size
  have e4 := e4 _ hA.ivc
  have e5 := e5 _ hA.evc
  have e6 := e6 _ hA.fvc
  have e7 := e7 _ hA.mode
  have e8 := e8 _ hA.to
  have e9 := e9 _ hA.line
  have e10 := e10 _ hA.col
  simp only [Value.int.injEq, true_and] at e0 e1 e2 e3 e7 e8 e9 e10
  rw [← e0, ← e1, ← e2, ← e3, ← e4, ← e5, ← e6, ← e7, ← e8, ← e9, ← e10]
  refine ⟨⟨iv, ev, fv, tv, av, rfl, hA.i, hA.e, hA.f, hR.sl, rfl⟩, gotL_of (fun p hp => hp), fun _ => ⟨fun hb => ?_, fun hb => ?_⟩⟩
  ·refine ⟨rfl, .inr ⟨by simp, _, Sy.mH, rfl, [], rfl, ⟨[1], rfl⟩, Sy.Ent.sub (List.nil_sublist _), k, a, hn, ?_⟩⟩
   rw [hR.len] at hb
   simpa using hb
  ·rw [hR.len] at hb
   refine ⟨rfl, .inl ⟨rfl, (k + 1, l.getD (k + 1) a), ⟨by show k + 1 ≤ l.length; omega, hR, fun j x hj hx => ?_, fun x hx => ?_⟩, by show l.length - (k + 1) < l.length - k; omega, ?_, Sy.Ent.refl _⟩⟩
   ·by_cases he : j = k
    ·subst he
     rw [hn] at hx
     injection hx with hx
     rw [← hx]
     simpa using hb
    ·exact hinv j x (by simp only at hj; omega) hx
   ·simp only at hx
    show l.getD (k + 1) a = x
    rw [List.getD_eq_getElem?_getD, hx]
    rfl
   ·rw [w_succ (by have := hR.lt; omega)]
    rfl
 ·have hge : k = l.length := by rw [Ex.ltQ_eq, hR.len] at hge; simp at hge; omega
  subst hge
  refine ⟨rfl, .inr ⟨by simp, _, Sy.mC _ (Sy.mS _), rfl, [], rfl, ⟨[0, 1, 2, 3], rfl⟩, ?_, ?_⟩⟩
  ·exact Sy.Ent.sub (by simp only [List.append_nil]; exact List.sublist_append_left _ _)
  ·rintro ⟨j, x, hx, hp⟩
   rw [hinv j x (List.getElem?_eq_some_iff.1 hx).1 hx] at hp
   cases hp
open Go Go.RowKit
open Sy (Let Blk HasL)
def Sy.avL (L : List Blk) : Value := match L with
 | ⟨_, .obj (.cells cs _ _), _⟩ :: _ => Sy.argV cs 1
 | _ => undef
def ctxRT (B : List (Nat × Sy.Cont)) (l : List ActD) (p1 : Nat) (tv : Value) (i : Nat) (cells : Int) : Sy.Ctx := Sy.mkS [] [(fRWhole, fun a L => loopRAC B l p1 (Sy.ptrN (a.get 4)) tv (Sy.avL L) i cells (Sy.locL L))] []
theorem ctxRT_holds (B : List (Nat × Sy.Cont)) (l : List ActD) (p1 : Nat) (tv : Value) (i : Nat) (cells : Int) : (ctxRT B l p1 tv i cells).holds Tryz.prog := Sy.mkS_holds (fun _ h => (by cases h)) (fun p hp a L => by
 rcases List.mem_singleton.1 hp with rfl
 exact loopRAC_met _ _ _ _ _ _ _ _ _) (fun _ h => (by cases h))
def slRT (p1 : Nat) (i : Nat) : List (Nat × Value) := [(1, .pointer (some ⟨p1, 0, none⟩)), (2, .bool false), (3, .int .i64 (Int.ofNat i))]
def rt_o : Sy.O := (bz 5 0x17 (fork (bz 28 0xbdef757 (fork nil (bz 11 0x6b5 (fork (steps [0, 1] nil) (steps [0, 1] nil))))) nil))
noncomputable def rt_R (B : List (Nat × Sy.Cont)) (l : List ActD) (p1 : Nat) (tv : Value) (i : Nat) (cells : Int) (f : Nat → Value) (ns : Nat → Sy.Let) : Sy.Res (Exit × Nat × List Value × List Blk) :=
 let z0 := Sy.ptrS tv
 let z1 := ns 0
 let z2 := Array.mk [Value.int .i64 z1.i, (ns 1).v]
 let z3 := some (Addr.mk p1 0 none)
 let z4 := Sy.Cont.obj (Obj.cells z2 40)
 let z5 := Sy.Cont.obj (Obj.cells (Array.mk [.int .i64 cells, tv]) 24)
 let z6 := [] ++ List.eraseIdx (Blk.mk p1 z5 true :: rdOf B) (nat_lit 0)
 let z7 := Value.tuple (Array.mk [])
 let z8 := Sy.argsW 0 (ns 3).l
 need (∃ (p : Option Addr), ∃ (n : Nat), ∃ (c : Nat), tv = Value.slice p n c) (br (Ex.ltQ (Int.ofNat i) (Int.ofNat (Sy.lenS tv))) (need ((∃ (n : Nat), ∃ (c : Nat), tv = Value.slice (some (Addr.mk z0 (Sy.offS tv) none)) n c) ∧ 0 ≤ Int.ofNat i ∧ Int.ofNat i < (↑(Sy.lenS tv) : Int)) (need (∃ (i_1 : Int), HasL (rdOf B) z0 (Sy.offS tv + Int.toNat (Int.ofNat i) * 2) (Value.int .i64 i_1)) (hyp (∀ (u : Value), HasL (rdOf B) z0 (Sy.offS tv + Int.toNat (Int.ofNat i) * 2) u → u = Value.int .i64 z1.i) (need (∃ (v : Value), HasL (rdOf B) z0 (Sy.offS tv + Int.toNat (Int.ofNat i) * 2 + 1) v) (hyp (∀ (u : Value), HasL (rdOf B) z0 (Sy.offS tv + Int.toNat (Int.ofNat i) * 2 + 1) u → u = (ns 1).v) (need ((2 : Nat) = 2 ∧ (2 : Nat) = 2 ∧ Array.all z2 (fun (x : Value) => Value.oneCell' x) 0 2 = true) (need (∃ (p : Option Addr), ∃ (n : Nat), ∃ (c : Nat), (ns 1).v = Value.slice p n c) (br (bif bif Ex.ltQ z1.i 0 then true else Ex.ltQ 24 z1.i then true else Ex.ltQ 65536 (Int.ofNat (Sy.lenS (ns 1).v))) (leaf (Exit.ret, 62, [Value.pointer z3, Value.bool false, Value.int .i64 (Int.ofNat i)], Blk.mk (ns 2).n z4 true :: Blk.mk p1 z5 true :: rdOf B)) (need (ActsR B (ns 1).v l) (need (Sy.GotL z6 B) (both (hyp (∃ (i : Nat), ∃ (a : ActD), l[i]? = some a ∧ actR cells z1.i (List.length l) a = false) (leaf (Exit.ret, 62, [List.rec z7 (fun (p : Nat × Value) (x : List (Nat × Value)) (ih : Value) => Bool.rec ih (Prod.snd p) (Nat.beq (Prod.fst p) 1)) z8, Value.bool false, List.rec z7 (fun (p : Nat × Value) (x : List
 (Nat × Value)) (ih : Value) => Bool.rec ih (Prod.snd p) (Nat.beq (Prod.fst p) 3)) z8], [] ++ z6))) (hyp (badRAct cells z1.i l → False) (leaf (Exit.normal, 62, [Value.pointer z3, Value.bool false, Value.int .i64 (Ex.wrapQ .i64 (Ex.addQ (Int.ofNat i) 1))], Blk.mk p1 z5 true :: Blk.mk (ns 2).n z4 true :: z6)))))))))))))) (leaf (Exit.exit 0, 62, [Value.pointer z3, Value.bool false, Value.int .i64 (Int.ofNat i)], Blk.mk p1 z5 true :: rdOf B)))
theorem rt_run (B : List (Nat × Sy.Cont)) (l : List ActD) (p1 : Nat) (tv : Value) (i : Nat) (cells : Int) (f : Nat → Value) : Sy.Ran (Sy.pieceT Tryz.prog (ctxRT B l p1 tv i cells) 50 fRWhole bodyRT 62 (slRT p1 i) ((List.range 62).map f) ((memT p1 cells tv).map Sy.ownOf ++ rdOf B) [1, 2, 3]) rt_o (rt_R B l p1 tv i cells f) := ⟨fun _ => by kernel_rfl, fun _ => by kernel_rfl⟩
def badRThr (cells : Int) (t : ThreadD) : Prop := out1 t = true ∨ badRAct cells t.locals t.acts
def badRThrs (cells : Int) (l : List ThreadD) : Prop := ∃ (i : Nat) (t : ThreadD), l[i]? = some t ∧ badRThr cells t
def loopRTC (B : List (Nat × Sy.Cont)) (l : List ThreadD) (p1 : Nat) (tv : Value) (cells : Int) : Sy.LoopC :=
 ⟨.loop bodyRT, 62, slRT p1 0, ThreadsR B tv l, ⟨[], memT p1 cells tv, 0, B⟩,
  [(⟨fun _ => badRThrs cells l, fun _ => [], fun _ => []⟩, .ret, fun _ => [(2, .bool false)]),
   (⟨fun _ => ¬ badRThrs cells l, fun _ => [], fun _ => []⟩, .exit 0, fun _ => [(2, .bool false)])]⟩
theorem loopRTC_met (B : List (Nat × Sy.Cont)) (l : List ThreadD) (p1 : Nat) (tv : Value) (cells : Int) : Sy.MeetsL Tryz.prog (loopRTC B l p1 tv cells) := by
 refine Sy.loop_ofB (σ := Nat × ThreadD) (S := fun s => ctxRT B s.2.acts p1 tv s.1 cells) (n := 50) (fn := fRWhole) (fun _ => ctxRT_holds _ _ _ _ _ _) mixed (body := bodyRT) rfl [1, 2, 3] (fun s => slRT p1 s.1)
  (fun _ => (memT p1 cells tv).map Sy.ownOf ++ rdOf B) (fun s => s.1 ≤ l.length ∧ ThreadsR B tv l ∧ (∀ j t, j < s.1 → l[j]? = some t → ¬ badRThr cells t) ∧ ∀ t, l[s.1]? = some t → s.2 = t) (fun s => l.length - s.1)
  (0, l.headD ⟨0, []⟩) (fun h => ⟨Nat.zero_le _, h, fun i x hi => by simp at hi, fun a ha => by cases l <;> simp_all⟩) (fun p hp => hp) (Sy.Ent.refl _) (o := fun _ => rt_o) (R := fun s f => rt_R B s.2.acts p1 tv s.1 cells f) (fun s f _ => rt_run B s.2.acts p1 tv s.1 cells f) ?_
 rintro - ⟨k, t⟩ f ⟨hk, hR, hinv, ha⟩ ns
 simp only at hk hinv ha
 simp only [rt_R, Sy.Res.holds]
 refine ⟨hR.sl, fun hlt => ?_, fun hge => ?_⟩
 ·have hlt : k < l.length := by rw [Ex.ltQ_eq, hR.len] at hlt; simpa using hlt
  obtain ⟨t', hn⟩ : ∃ n, l[k]? = some n := ⟨_, List.getElem?_eq_getElem hlt⟩
  obtain rfl : t = t' := ha t' hn
  obtain ⟨av, h0, h1, hA⟩ := hR.thr k t hn
  refine ⟨⟨hR.at_ (fun h => by rw [h] at hlt; simp at hlt), by simp, by rw [hR.len]; simpa using hlt⟩, ⟨_, h0⟩, fun e0 => ⟨⟨_, h1⟩, fun e1 => ?_⟩⟩
  have e0 := e0 _ h0
  have e1 := e1 _ h1
  simp only [Value.int.injEq, true_and] at e0
  rw [← e0, ← e1]
  obtain ⟨p, n, c, hav⟩ := hA.sl
  refine ⟨?_, hA.sl, fun hb => ?_, fun hb => ⟨hA, gotL_of (fun p hp => hp), fun hbad => ?_, fun hgood => ?_⟩⟩
  ·simp [hav, Value.oneCell']
  ·refine ⟨rfl, .inr ⟨by simp, _, Sy.mH, rfl, [], rfl, ⟨[1], rfl⟩, Sy.Ent.sub (List.nil_sublist _), k, t, hn, .inl ?_⟩⟩
   rw [hA.len] at hb
   exact hb
  ·exact ⟨rfl, .inr ⟨by simp, _, Sy.mH, rfl, [], rfl, ⟨[1], rfl⟩, Sy.Ent.sub (List.nil_sublist _), k, t, hn, .inr hbad⟩⟩
  ·refine ⟨rfl, .inl ⟨rfl, (k + 1, l.getD (k + 1) t), ⟨by show k + 1 ≤ l.length; omega, hR, fun j x hj hx => ?_, fun x hx => ?_⟩, by show l.length - (k + 1) < l.length - k; omega, ?_, Sy.Ent.sub ((List.sublist_cons_self _ _).cons_cons _)⟩⟩
   ·by_cases he : j = k
    ·subst he
     rw [hn] at hx
     injection hx with hx
     subst hx
     rw [hA.len] at hb
     rintro (h | h)
     ·exact absurd h (by unfold out1; rw [hb]; exact Bool.false_ne_true)
     ·exact hgood h
    ·exact hinv j x (by simp only at hj; omega) hx
   ·simp only at hx
    show l.getD (k + 1) t = x
    rw [List.getD_eq_getElem?_getD, hx]
    rfl
   ·rw [w_succ (by have := hR.lt; omega)]
    rfl
 ·have hge : k = l.length := by rw [Ex.ltQ_eq, hR.len] at hge; simp at hge; omega
  subst hge
  refine ⟨rfl, .inr ⟨by simp, _, Sy.mC _ (Sy.mS _), rfl, [], rfl, ⟨[1], rfl⟩, Sy.Ent.sub (List.nil_sublist _), ?_⟩⟩
  rintro ⟨j, x, hx, hp⟩
  exact hinv j x (List.getElem?_eq_some_iff.1 hx).1 hx hp
def ctxRG (B : List (Nat × Sy.Cont)) (l : List ThreadD) (tv : Value) (cells : Int) : Sy.Ctx := Sy.mkS [] [(fRWhole, fun a _ => loopRTC B l (Sy.ptrN (a.get 1)) tv cells)] []
theorem ctxRG_holds (B : List (Nat × Sy.Cont)) (l : List ThreadD) (tv : Value) (cells : Int) : (ctxRG B l tv cells).holds Tryz.prog := Sy.mkS_holds (fun _ h => (by cases h)) (fun p hp a L => by
 rcases List.mem_singleton.1 hp with rfl
 exact loopRTC_met _ _ _ _ _) (fun _ h => (by cases h))
open Go Go.RowKit
open Sy (Let Blk HasL)
def rg_o : Sy.O := (bz 15 0x5ef7 (fork nil (bz 7 0x6b (fork (steps [0, 1] nil) (steps [0, 1] nil)))))
noncomputable def rg_R (B : List (Nat × Sy.Cont)) (l : List ThreadD) (tv : Value) (cells : Int) (ns : Nat → Sy.Let) : Sy.Res (Value × List Blk) :=
 let z0 := [] ++ rdOf B
 need (∃ (p : Option Addr), ∃ (n : Nat), ∃ (c : Nat), tv = Value.slice p n c) (br (bif bif Ex.ltQ cells 0 then true else Ex.ltQ 4096 cells then true else Ex.ltQ 64 (Int.ofNat (Sy.lenS tv))) (leaf (Value.bool false, Blk.mk (ns 0).n (.obj (.cells (Array.mk [.int .i64 cells, tv]) 24)) true :: rdOf B)) (need (ThreadsR B tv l) (need (Sy.GotL z0 B) (both (hyp (∃ (i : Nat), ∃ (t : ThreadD), l[i]? = some t ∧ badRThr cells t) (leaf (Value.bool false, [] ++ z0))) (hyp (badRThrs cells l → False) (leaf (Value.bool true, [] ++ z0)))))))
theorem rg_run (B : List (Nat × Sy.Cont)) (l : List ThreadD) (tv : Value) (cells : Int) : Sy.Ran (Sy.inB Tryz.prog (ctxRG B l tv cells) 50 fRWhole #[progV cells tv] (rdOf B)) rg_o (rg_R B l tv cells) := ⟨fun _ => by kernel_rfl, fun _ => by kernel_rfl⟩
open Classical in

def wholeR (cells : Int) (l : List ThreadD) : Bool := decide (¬ (out0 cells l = true ∨ badRThrs cells l))
def rwholeC (B : List (Nat × Sy.Cont)) (tv : Value) (l : List ThreadD) (cells : Int) : Sy.CallC := ⟨fRWhole, #[progV cells tv], ThreadsR B tv l, ⟨[], [], 0, B⟩, [Sy.plainO (.bool (wholeR cells l))]⟩
open Classical in
theorem rwholeC_met (B : List (Nat × Sy.Cont)) (tv : Value) (l : List ThreadD) (cells : Int) : Sy.Meets Tryz.prog (rwholeC B tv l cells) := by
 refine Sy.meets_ofB (ctxRG_holds B l tv cells) mixed (L := rdOf B) (Sy.Ent.refl _) (rg_run B l tv cells) fun hR ns => ?_
 have leaf : ∀ (b : Bool) (L : List Blk), b = wholeR cells l → Sy.leafB (rwholeC B tv l cells) (.bool b, L) := fun b L h => plainB_leaf (Sy.mS _) rfl (by rw [h])
 replace hR : ThreadsR B tv l := hR
 simp only [rg_R, Sy.Res.holds]
 refine ⟨hR.sl, fun hb => leaf _ _ ?_, fun hb => ⟨hR, gotL_of (fun p hp => by simpa using hp), fun h => leaf _ _ ?_, fun h => leaf _ _ ?_⟩⟩
 ·rw [hR.len] at hb
  exact (decide_eq_false (fun h => h (.inl hb))).symm
 ·exact (decide_eq_false (fun h' => h' (.inr h))).symm
 ·rw [hR.len] at hb
  refine (decide_eq_true ?_).symm
  rintro (h' | h')
  ·exact absurd h' (by unfold out0; rw [hb]; exact Bool.false_ne_true)
  ·exact h h'
def okX (loc : Int) (i : Nat) (n : NodeD) : Prop := (n.op = 1 ∧ n.a = 0 ∧ n.b = 0) ∨ (n.op = 2 ∧ n.a = 0 ∧ n.b = 0 ∧ n.val < Ex.wrapQ .u64 loc)
 ∨ (3 ≤ n.op ∧ n.op ≤ 5 ∧ 0 ≤ n.a ∧ n.a < i ∧ n.b = 0 ∧ n.val = 0) ∨ (6 ≤ n.op ∧ n.op ≤ 19 ∧ 0 ≤ n.a ∧ n.a < i ∧ 0 ≤ n.b ∧ n.b < i ∧ n.val = 0)
theorem badX_iff (loc : Int) (i : Nat) (n : NodeD) : badX loc i n = false ↔ okX loc i n := by
 unfold badX okX
 generalize Ex.wrapQ .u64 loc = w
 simp only [Ex.eqQ_eq, Ex.leQ_eq, Ex.ltQ_eq]
 by_cases h1 : n.op = 1
 ·simp [h1]
 ·by_cases h2 : n.op = 2
  ·simp [h2]
   by_cases ha : n.a = 0 <;> by_cases hv : n.val < w <;> simp [ha, hv]
  ·by_cases h3 : 3 ≤ n.op
   ·by_cases h5 : n.op ≤ 5
    ·have h6 : ¬ 6 ≤ n.op := by omega
     simp [h1, h2, h3, h5, h6]
     by_cases h0 : 0 ≤ n.a <;> by_cases hi : n.a < i <;> by_cases hb : n.b = 0 <;> simp [h0, hi, hb]
    ·have h6 : 6 ≤ n.op := by omega
     simp [h1, h2, h3, h5, h6]
     by_cases h0 : 0 ≤ n.a <;> by_cases hi : n.a < i <;> by_cases g0 : 0 ≤ n.b <;> by_cases gi : n.b < i <;> by_cases h19 : n.op ≤ 19 <;> simp [h0, hi, g0, gi, h19]
   ·have h6 : ¬ 6 ≤ n.op := by omega
    simp [h1, h2, h3, h6]
theorem beq_no {a b : Int} (h : ¬ a = b) : (a == b) = false := beq_eq_false_iff_ne.2 h
theorem beq_yes {a b : Int} (h : a = b) : (a == b) = true := by simp [h]
theorem dec_no {p : Prop} [Decidable p] (h : ¬ p) : decide p = false := decide_eq_false h
theorem dec_yes {p : Prop} [Decidable p] (h : p) : decide p = true := decide_eq_true h
theorem stepE_leaf {loc : Int} {i : Nat} {n : NodeD} (h : okX loc i n) (h2 : n.op ≤ 2) (w : List Bool) : stepE loc i n w = some w := by
 rcases h with ⟨h1, ha, hb⟩ | ⟨h1, ha, hb, hv⟩ | ⟨h1, _⟩ | ⟨h1, _⟩
 ·unfold stepE
  simp [Ex.eqQ_eq, h1, ha, hb]
 ·unfold stepE
  have : ¬ Ex.wrapQ .u64 loc ≤ n.val := by omega
  simp [Ex.eqQ_eq, Ex.leQ_eq, h1, ha, hb, dec_no this]
 ·omega
 ·omega
theorem stepE_one {loc : Int} {i : Nat} {n : NodeD} (h : okX loc i n) (h3 : 3 ≤ n.op) (h5 : n.op ≤ 5) (w : List Bool) : stepE loc i n w = bif w.getD n.a.toNat false then none else some (w.set n.a.toNat true) := by
 rcases h with ⟨h1, _⟩ | ⟨h1, _⟩ | ⟨_, _, ha, hi, hb, hv⟩ | ⟨h1, _⟩
 ·omega
 ·omega
 ·unfold stepE
  simp only [Ex.eqQ_eq, Ex.leQ_eq, Ex.ltQ_eq]
  rw [beq_no (show ¬ n.op = 1 by omega), beq_no (show ¬ n.op = 2 by omega), dec_no (show ¬ n.op < 1 by omega), dec_no (show ¬ 19 < n.op by omega), beq_yes hv, dec_no (show ¬ n.a < 0 by omega), dec_no (show ¬ Int.ofNat i ≤ n.a by simp; omega), dec_yes h5, beq_yes hb]
  rfl
 ·omega
theorem stepE_two {loc : Int} {i : Nat} {n : NodeD} (h : okX loc i n) (h6 : 6 ≤ n.op) (w : List Bool) : stepE loc i n w = bif w.getD n.a.toNat false then none else bif (w.set n.a.toNat true).getD n.b.toNat false then none else some ((w.set n.a.toNat true).set n.b.toNat true) := by
 rcases h with ⟨h1, _⟩ | ⟨h1, _⟩ | ⟨_, _, _⟩ | ⟨_, h19, ha, hi, hb, hj, hv⟩
 ·omega
 ·omega
 ·omega
 ·unfold stepE
  simp only [Ex.eqQ_eq, Ex.leQ_eq, Ex.ltQ_eq]
  rw [beq_no (show ¬ n.op = 1 by omega), beq_no (show ¬ n.op = 2 by omega), dec_no (show ¬ n.op < 1 by omega), dec_no (show ¬ 19 < n.op by omega), beq_yes hv, dec_no (show ¬ n.a < 0 by omega), dec_no (show ¬ Int.ofNat i ≤ n.a by simp; omega), dec_no (show ¬ n.op ≤ 5 by omega), dec_no (show ¬ n.b < 0 by omega), dec_no (show ¬ Int.ofNat i ≤ n.b by simp; omega)]
  rfl
theorem stepE_bad {loc : Int} {i : Nat} {n : NodeD} (h : ¬ okX loc i n) (w : List Bool) : stepE loc i n w = none := by
 unfold stepE
 simp only [Ex.eqQ_eq, Ex.leQ_eq, Ex.ltQ_eq]
 by_cases h1 : n.op = 1
 ·rw [beq_yes h1, beq_no (show ¬ n.op = 2 by omega)]
  by_cases ha : n.a = 0
  ·by_cases hb : n.b = 0
   ·exact absurd (.inl ⟨h1, ha, hb⟩) h
   ·rw [beq_yes ha, beq_no hb]; rfl
  ·rw [beq_no ha]; rfl
 ·by_cases h2 : n.op = 2
  ·rw [beq_no h1, beq_yes h2]
   by_cases ha : n.a = 0
   ·by_cases hb : n.b = 0
    ·by_cases hv : n.val < Ex.wrapQ .u64 loc
     ·exact absurd (.inr (.inl ⟨h2, ha, hb, hv⟩)) h
     ·rw [beq_yes ha, beq_yes hb, dec_yes (show Ex.wrapQ .u64 loc ≤ n.val by omega)]; rfl
    ·rw [beq_yes ha, beq_no hb]; rfl
   ·rw [beq_no ha]; rfl
  ·rw [beq_no h1, beq_no h2]
   by_cases g1 : n.op < 1
   ·rw [dec_yes g1]; rfl
   by_cases g2 : 19 < n.op
   ·rw [dec_no g1, dec_yes g2]; rfl
   by_cases g3 : n.val = 0
   ·by_cases g4 : n.a < 0
    ·rw [dec_no g1, dec_no g2, beq_yes g3, dec_yes g4]; rfl
    by_cases g5 : Int.ofNat i ≤ n.a
    ·rw [dec_no g1, dec_no g2, beq_yes g3, dec_no g4, dec_yes g5]; rfl
    have g5' : n.a < i := by simp at g5; omega
    rw [dec_no g1, dec_no g2, beq_yes g3, dec_no g4, dec_no g5]
    cases w.getD n.a.toNat false with
    | true => rfl
    | false =>
      by_cases g6 : n.op ≤ 5
      ·by_cases hb : n.b = 0
       ·exact absurd (.inr (.inr (.inl ⟨by omega, g6, by omega, g5', hb, g3⟩))) h
       ·rw [dec_yes g6, beq_no hb]; rfl
      ·by_cases g7 : n.b < 0
       ·rw [dec_no g6, dec_yes g7]; rfl
       by_cases g8 : Int.ofNat i ≤ n.b
       ·rw [dec_no g6, dec_no g7, dec_yes g8]; rfl
       have g8' : n.b < i := by simp at g8; omega
       exact absurd (.inr (.inr (.inr ⟨by omega, by omega, by omega, g5', by omega, g8', g3⟩))) h
   ·rw [dec_no g1, dec_no g2, beq_no g3]; rfl
theorem getD_set' {α : Type} (l : List α) (i j : Nat) (x d : α) (h : i < l.length) : (l.set i x).getD j d = if i = j then x else l.getD j d := by
 rw [List.getD_eq_getElem?_getD, List.getElem?_set]
 by_cases hij : i = j
 ·subst hij
  simp [h]
 ·simp [hij, List.getD_eq_getElem?_getD]
def RelU (u : List Int) (w : List Bool) : Prop := u.length = w.length ∧ ∀ j, u.getD j 0 = bif w.getD j false then 1 else 0
theorem rel_bump {u : List Int} {w : List Bool} (h : RelU u w) {a : Int} (ha : a.toNat < w.length) (hf : w.getD a.toNat false = false) : RelU (bump u a) (w.set a.toNat true) := by
 refine ⟨by simp [bump, h.1], fun j => ?_⟩
 unfold bump
 rw [getD_set' _ _ _ _ _ (by rw [h.1]; exact ha), getD_set' _ _ _ _ _ ha]
 by_cases hj : a.toNat = j
 ·subst hj
  rw [if_pos rfl, if_pos rfl, h.2, hf]
  rfl
 ·rw [if_neg hj, if_neg hj]
  exact h.2 j
theorem rel_two {u : List Int} {w : List Bool} (h : RelU u w) {a : Int} (ha : a.toNat < w.length) (hf : w.getD a.toNat false = true) : (bump u a).getD a.toNat 0 = 2 := by
 unfold bump
 rw [getD_set' _ _ _ _ _ (by rw [h.1]; exact ha), if_pos rfl, h.2, hf]
 rfl
theorem bump_mono (u : List Int) (a : Int) (j : Nat) : u.getD j 0 ≤ (bump u a).getD j 0 := by
 unfold bump
 by_cases ha : a.toNat < u.length
 ·rw [getD_set' _ _ _ _ _ ha]
  split
  ·rename_i h
   subst h
   omega
  ·omega
 ·rw [List.set_eq_of_length_le (by omega)]
  omega
theorem usedS_mono (u : List Int) (n : NodeD) (j : Nat) : u.getD j 0 ≤ (usedS u n).getD j 0 := by
 unfold usedS
 cases Ex.leQ 6 n.op <;> cases Ex.leQ 3 n.op
 ·exact Int.le_refl _
 ·exact bump_mono _ _ _
 ·exact bump_mono _ _ _
 ·exact Int.le_trans (bump_mono _ _ _) (bump_mono _ _ _)
theorem usedL_mono : ∀ (l : List NodeD) (u : List Int) (j : Nat), u.getD j 0 ≤ (usedL l u).getD j 0
 | [], u, j => Int.le_refl _
 | n :: l, u, j => Int.le_trans (usedS_mono u n j) (usedL_mono l (usedS u n) j)
theorem leQ_no {a b : Int} (h : ¬ a ≤ b) : Ex.leQ a b = false := by rw [Ex.leQ_eq]; exact dec_no h
theorem leQ_yes {a b : Int} (h : a ≤ b) : Ex.leQ a b = true := by rw [Ex.leQ_eq]; exact dec_yes h
theorem step_rel {loc : Int} {i : Nat} {n : NodeD} {u : List Int} {w : List Bool} (h : RelU u w) (hk : okX loc i n) (hi : i ≤ w.length) :
  (∃ w', stepE loc i n w = some w' ∧ RelU (usedS u n) w') ∨ (stepE loc i n w = none ∧ ∃ j, 2 ≤ (usedS u n).getD j 0) := by
 by_cases h2 : n.op ≤ 2
 ·refine .inl ⟨w, stepE_leaf hk h2 w, ?_⟩
  unfold usedS
  rw [leQ_no (show ¬ 6 ≤ n.op by omega), leQ_no (show ¬ 3 ≤ n.op by omega)]
  exact h
 ·by_cases h5 : n.op ≤ 5
  ·have ha : n.a.toNat < w.length := by
    rcases hk with ⟨_, _⟩ | ⟨_, _⟩ | ⟨_, _, _, _, _⟩ | ⟨_, _⟩ <;> omega
   rw [stepE_one hk (by omega) h5]
   unfold usedS
   rw [leQ_no (show ¬ 6 ≤ n.op by omega), leQ_yes (show 3 ≤ n.op by omega)]
   cases hf : w.getD n.a.toNat false with
   | true => exact .inr ⟨rfl, n.a.toNat, by show 2 ≤ (bump u n.a).getD n.a.toNat 0; rw [rel_two h ha hf]; omega⟩
   | false => exact .inl ⟨_, rfl, rel_bump h ha hf⟩
  ·have hab : n.a.toNat < w.length ∧ n.b.toNat < w.length := by
    rcases hk with ⟨_, _⟩ | ⟨_, _⟩ | ⟨_, _, _, _, _⟩ | ⟨_, _, _, _, _, _, _⟩ <;> omega
   rw [stepE_two hk (by omega)]
   unfold usedS
   rw [leQ_yes (show 6 ≤ n.op by omega), leQ_yes (show 3 ≤ n.op by omega)]
   cases hf : w.getD n.a.toNat false with
   | true =>
     refine .inr ⟨rfl, n.a.toNat, Int.le_trans ?_ (bump_mono (bump u n.a) n.b _)⟩
     rw [rel_two h hab.1 hf]
     omega
   | false =>
     have h' := rel_bump h hab.1 hf
     have hb : n.b.toNat < (w.set n.a.toNat true).length := by simpa using hab.2
     cases hg : (w.set n.a.toNat true).getD n.b.toNat false with
     | true => exact .inr ⟨rfl, n.b.toNat, by show 2 ≤ (bump (bump u n.a) n.b).getD n.b.toNat 0; rw [rel_two h' hb hg]; omega⟩
     | false => exact .inl ⟨_, rfl, rel_bump h' hb hg⟩
theorem run_rel {loc : Int} : ∀ {l : List NodeD} {i : Nat} {u : List Int} {w : List Bool}, RelU u w → (∀ k n, l[k]? = some n → okX loc (i + k) n) → i + l.length ≤ w.length →
  (∃ w', runE loc i l w = some w' ∧ RelU (usedL l u) w') ∨ (runE loc i l w = none ∧ ∃ j, 2 ≤ (usedL l u).getD j 0)
 | [], i, u, w, h, _, _ => .inl ⟨w, rfl, h⟩
 | n :: l, i, u, w, h, hk, hi => by
   simp only [List.length_cons] at hi
   rcases step_rel h (hk 0 n rfl) (by omega) with ⟨w', h1, h2⟩ | ⟨h1, j, h2⟩
   ·have hw := stepE_len (show stepE loc i n w = some w' from h1)
    have := run_rel (loc := loc) (l := l) (i := i + 1) h2 (fun k m hm => by rw [show i + 1 + k = i + (k + 1) by omega]; exact hk (k + 1) m (by simpa using hm)) (by omega)
    have e : stepE loc i n w = some w' := h1
    simp only [runE, e]
    exact this
   ·have e : stepE loc i n w = none := h1
    simp only [runE, e]
    exact .inr ⟨trivial, j, Int.le_trans h2 (usedL_mono l (usedS u n) j)⟩
theorem run_bad {loc : Int} : ∀ {l : List NodeD} {i : Nat} {w : List Bool}, (∃ k n, l[k]? = some n ∧ ¬ okX loc (i + k) n) → runE loc i l w = none
 | [], i, w, ⟨k, n, h, _⟩ => by simp at h
 | m :: l, i, w, ⟨k, n, h, hb⟩ => by
   cases k with
   | zero =>
     simp only [List.getElem?_cons_zero, Option.some.injEq] at h
     subst h
     simp only [runE, stepE_bad (show ¬ okX loc i m from hb)]
   | succ k =>
     simp only [runE]
     split
     ·rfl
     ·exact run_bad ⟨k, n, by simpa using h, by rw [show i + 1 + k = i + (k + 1) by omega]; exact hb⟩
theorem set_keep {w : List Bool} {a j : Nat} (h : a ≠ j) : (w.set a true).getD j false = w.getD j false := by
 rw [List.getD_eq_getElem?_getD, List.getElem?_set_ne h, ← List.getD_eq_getElem?_getD]
theorem step_last {loc : Int} {i : Nat} {n : NodeD} {w w' : List Bool} (hk : okX loc i n) (h : stepE loc i n w = some w') {j : Nat} (hj : i ≤ j) : w'.getD j false = w.getD j false := by
 by_cases h2 : n.op ≤ 2
 ·rw [stepE_leaf hk h2] at h
  injection h with h
  rw [h]
 ·by_cases h5 : n.op ≤ 5
  ·have ha : n.a.toNat < i := by
    rcases hk with ⟨_, _⟩ | ⟨_, _⟩ | ⟨_, _, _, _, _⟩ | ⟨_, _⟩ <;> omega
   rw [stepE_one hk (by omega) h5] at h
   cases hf : w.getD n.a.toNat false <;> rw [hf] at h
   ·injection h with h
    rw [← h, set_keep (by omega)]
   ·cases h
  ·have hab : n.a.toNat < i ∧ n.b.toNat < i := by
    rcases hk with ⟨_, _⟩ | ⟨_, _⟩ | ⟨_, _, _, _, _⟩ | ⟨_, _, _, _, _, _, _⟩ <;> omega
   rw [stepE_two hk (by omega)] at h
   cases hf : w.getD n.a.toNat false <;> rw [hf] at h
   ·cases hg : (w.set n.a.toNat true).getD n.b.toNat false <;> rw [hg] at h
    ·injection h with h
     rw [← h, set_keep (by omega), set_keep (by omega)]
    ·cases h
   ·cases h
theorem run_last {loc : Int} : ∀ {l : List NodeD} {i : Nat} {w w' : List Bool}, (∀ k n, l[k]? = some n → okX loc (i + k) n) → runE loc i l w = some w' → ∀ {j : Nat}, i + l.length ≤ j + 1 → w'.getD j false = w.getD j false
 | [], i, w, w', _, h, j, _ => by
   injection h with h
   rw [h]
 | n :: l, i, w, w', hk, h, j, hj => by
   simp only [List.length_cons] at hj
   simp only [runE] at h
   split at h
   ·cases h
   ·rename_i x hx
    rw [run_last (fun k m hm => by rw [show i + 1 + k = i + (k + 1) by omega]; exact hk (k + 1) m (by simpa using hm)) h (by omega), step_last (hk 0 n rfl) hx (by omega)]
theorem expr_same (loc : Int) (l : List NodeD) : exprF loc l = exprR loc l := by
 rw [Bool.eq_iff_iff]
 unfold exprF exprR onceF
 simp only [Bool.and_eq_true, Bool.not_eq_true', decide_eq_true_eq]
 rw [← Bool.not_eq_true, ← Bool.not_eq_true (failsB _ _ _), ← anyBad_iff, ← failsU_iff]
 by_cases hbad : anyBad loc l
 ·constructor
  ·rintro ⟨h, _⟩
   exact absurd hbad h
  ·rintro ⟨_, _, u, hu, _⟩
   obtain ⟨k, n, hk, hb⟩ := hbad
   have : allE loc l = none := run_bad ⟨k, n, hk, by rw [Nat.zero_add]; intro h; rw [(badX_iff loc k n).2 h] at hb; cases hb⟩
   rw [this] at hu
   cases hu
 ·have hok : ∀ k n, l[k]? = some n → okX loc (0 + k) n := fun k n hk => by
   rw [Nat.zero_add]
   refine (badX_iff loc k n).1 ?_
   cases hb : badX loc k n with
   | false => rfl
   | true => exact absurd ⟨k, n, hk, hb⟩ hbad
  have h0 : RelU (List.replicate l.length 0) (List.replicate l.length false) := ⟨by simp, fun j => by simp [List.getD_eq_getElem?_getD, List.getElem?_replicate]; split <;> rfl⟩
  rcases run_rel (loc := loc) h0 hok (by simp) with ⟨w, hw, hR⟩ | ⟨hn, j, hj⟩
  ·have hlast : ∀ j, l.length ≤ j + 1 → w.getD j false = false := fun j hj => by
    rw [run_last hok hw (by omega)]
    simp [List.getD_eq_getElem?_getD, List.getElem?_replicate]
    split <;> rfl
   have hlw : w.length = l.length := allE_len hw
   have key : ¬ failsU l.length (usedL l (List.replicate l.length 0)) ↔ ¬ lacksU l.length w := by
    refine not_congr ⟨?_, ?_⟩
    ·rintro ⟨i, x, hx, hp⟩
     have hx' : x = bif w.getD i false then 1 else 0 := by rw [← hR.2 i, List.getD_eq_getElem?_getD, hx]; rfl
     have hi : i < l.length := by rw [← hlw, ← hR.1]; exact (List.getElem?_eq_some_iff.1 hx).1
     by_cases hl : i + 1 < l.length
     ·refine ⟨i, hl, ?_⟩
      cases hwi : w.getD i false with
      | false => rfl
      | true =>
        rw [hwi] at hx'
        simp only [cond_true] at hx'
        subst hx'
        have : (i : Int) < (l.length : Int) - 1 := by omega
        simp [passB, Ex.eqQ_eq, Ex.ltQ_eq, this] at hp
     ·rw [hlast i (by omega)] at hx'
      simp only [cond_false] at hx'
      subst hx'
      have : ¬ (i : Int) < (l.length : Int) - 1 := by omega
      simp [passB, Ex.eqQ_eq, Ex.ltQ_eq, this] at hp
    ·rintro ⟨i, hi, hwi⟩
     have hil : i < (usedL l (List.replicate l.length 0)).length := by rw [hR.1, hlw]; omega
     have hx : (usedL l (List.replicate l.length 0))[i]? = some ((usedL l (List.replicate l.length 0)).getD i 0) := by rw [List.getD_eq_getElem?_getD, List.getElem?_eq_getElem hil]; rfl
     refine ⟨i, _, hx, ?_⟩
     rw [hR.2 i, hwi]
     have : (i : Int) < (l.length : Int) - 1 := by omega
     simp [passB, Ex.eqQ_eq, Ex.ltQ_eq, this]
   rw [key]
   constructor
   ·rintro ⟨_, h1, h2, h3⟩
    exact ⟨h1, h2, w, hw, h3⟩
   ·rintro ⟨h1, h2, u, hu, h3⟩
    have : w = u := by
     rw [show allE loc l = some w from hw] at hu
     injection hu
    subst this
    exact ⟨hbad, h1, h2, h3⟩
  ·constructor
   ·rintro ⟨_, _, _, h⟩
    refine absurd ?_ h
    have hil : j < (usedL l (List.replicate l.length 0)).length := by
     refine Nat.lt_of_not_le fun hge => ?_
     rw [List.getD_eq_getElem?_getD, List.getElem?_eq_none hge] at hj
     simp at hj
    refine ⟨j, (usedL l (List.replicate l.length 0)).getD j 0, by rw [List.getD_eq_getElem?_getD, List.getElem?_eq_getElem hil]; rfl, ?_⟩
    generalize (usedL l (List.replicate l.length 0)).getD j 0 = x at hj
    unfold passB
    rw [show Ex.ltQ 1 x = true by rw [Ex.ltQ_eq]; exact dec_yes (by omega)]
    cases (!(Ex.eqQ x 1 == Ex.ltQ (Int.ofNat j) ((l.length : Int) - 1))) <;> rfl
   ·rintro ⟨_, _, u, hu, _⟩
    rw [show allE loc l = none from hn] at hu
    cases hu
theorem pow_all : ∀ n : Fin 1025, Ex.eqQ (Ex.andQ .i64 (Int.ofNat n.val) (Ex.wrapQ .i64 (Ex.subQ' (Int.ofNat n.val) 1))) 0 = (Ex.eqQ (Int.ofNat n.val) 0 || powF (Int.ofNat n.val)) := by decide +kernel
theorem pow_and {size : Int} (h0 : 0 ≤ size) (h1 : size ≤ 1024) : Ex.eqQ (Ex.andQ .i64 size (Ex.wrapQ .i64 (Ex.subQ' size 1))) 0 = (Ex.eqQ size 0 || powF size) := by
 obtain ⟨n, rfl⟩ := Int.eq_ofNat_of_zero_le h0
 exact pow_all ⟨n, by omega⟩
theorem powF_in {size : Int} (h : powF size = true) : 1 ≤ size ∧ size ≤ 1024 := by
 have := of_decide_eq_true h
 omega
theorem ltQ_no {a b : Int} (h : ¬ a < b) : Ex.ltQ a b = false := by rw [Ex.ltQ_eq]; exact dec_no h
theorem ltQ_yes {a b : Int} (h : a < b) : Ex.ltQ a b = true := by rw [Ex.ltQ_eq]; exact dec_yes h
theorem eqQ_no {a b : Int} (h : ¬ a = b) : Ex.eqQ a b = false := by rw [Ex.eqQ_eq]; exact beq_no h
theorem eqQ_yes {a b : Int} (h : a = b) : Ex.eqQ a b = true := by rw [Ex.eqQ_eq]; exact beq_yes h
theorem place_same (size base cells loc : Int) (ix : List NodeD) : placeF size base cells loc ix = placeR size base cells loc ix := by
 unfold placeF placeR
 rw [expr_same]
 by_cases h0 : size < 0
 ·rw [ltQ_yes h0, eqQ_no (show ¬ size = 0 by omega)]
  cases hp : powF size with
  | true => have := powF_in hp; omega
  | false => rfl
 by_cases h1 : 1024 < size
 ·rw [ltQ_no h0, ltQ_yes h1, eqQ_no (show ¬ size = 0 by omega)]
  cases hp : powF size with
  | true => have := powF_in hp; omega
  | false => rfl
 rw [ltQ_no h0, ltQ_no h1, pow_and (by omega) (by omega)]
 by_cases hz : size = 0
 ·subst hz
  rw [eqQ_yes rfl, ltQ_no (show ¬ (1 : Int) < 0 by omega)]
  simp only [cond_true, cond_false, Bool.true_or, Bool.not_true]
  cases Ex.ltQ base 0 <;> cases Ex.ltQ (Ex.wrapQ .i64 (Ex.subQ' cells 1)) base <;> rfl
 ·rw [eqQ_no hz]
  cases hp : powF size with
  | false => rfl
  | true =>
    have hs : (bif Ex.ltQ 1 size then size else 1) = size := by
     by_cases h : 1 < size
     ·rw [ltQ_yes h]; rfl
     ·rw [ltQ_no h]
      show (1 : Int) = size
      omega
    rw [hs]
    simp only [cond_false, Bool.false_or, Bool.not_true]
    cases Ex.ltQ base 0 <;> cases Ex.ltQ (Ex.wrapQ .i64 (Ex.subQ' cells size)) base <;> rfl
theorem exprR_pos {loc : Int} {l : List NodeD} (h : exprR loc l = true) : 0 < l.length := by
 simp only [exprR, decide_eq_true_eq] at h
 exact h.1
theorem act_same (cells loc : Int) (na : Nat) (a : ActD) : actF cells loc na a = actR cells loc na a := by
 have e1 : ∀ (b : Bool) (l : List NodeD), ((b == decide (0 < l.length)) && (bif b then exprR loc l else true)) = (bif b then exprR loc l else decide (l.length = 0)) := fun b l => by
  rw [len_zero]
  cases b with
  | false => cases decide (l.length = 0) <;> rfl
  | true =>
    cases h : exprR loc l with
    | false => simp
    | true =>
      have := exprR_pos h
      rw [dec_no (show ¬ l.length = 0 by omega)]
      rfl
 unfold actF actR
 rw [place_same, expr_same, expr_same, ← e1, ← e1]
 generalize (hasE a.op == decide (0 < a.e.length)) = x1
 generalize (hasF a.op == decide (0 < a.f.length)) = x2
 generalize (bif hasE a.op then exprR loc a.e else true) = x3
 generalize (bif hasF a.op then exprR loc a.f else true) = x4
 cases x1 <;> cases x2 <;> cases x3 <;> cases x4 <;> rfl
theorem whole_same (cells : Int) (l : List ThreadD) : wholeF cells l = wholeR cells l := by
 have h : badThrs cells l ↔ badRThrs cells l := by
  unfold badThrs badRThrs badThr badRThr badAct badRAct
  simp only [act_same]
 unfold wholeF wholeR
 exact decide_eq_decide.2 (not_congr (or_congr Iff.rfl h))
end Go.Proofs.YtlpcnaeknbmjdaaGreat
namespace Go.Proofs.YtlpcnaeknbmjdaaGreat.Gn
open Sy.O (bz fork nil pack step steps)
open Sy.Res (need hyp br leaf both)
open Go Go.RowKit
open Go.Proofs.YtlpcnaeknbmjdaaGreat.Sy (Let Blk HasL)
open Lw (I insCells tI)
theorem post_nb {c c' : Sy.MemC} {o : Sy.OutM} {f' : Value → Value} {X : List I} {W W' : World} {n : Let} (h : c.post o W W' [n]) (huse : c'.use = c.use) (hm : c'.m = 1) (hV : RowV (lv0 [n]) X) (hnb : o.nb [n] = rowB (lv0 [n]) X) :
  c'.post (rowU rowQ X f').1 W W' [n] := by
 refine ⟨hm.symm, hV, h.os, h.tape, h.output, h.size, fun k hk hu => h.old k hk (by rw [← huse]; exact hu), fun p hp => (by cases hp), List.nodup_nil, fun p hp => ?_, ?_, fun p hp => (by cases hp)⟩
 ·rw [huse]
  exact h.nb p (by rw [hnb]; exact hp)
 ·show ((rowB (lv0 [n]) X).map (·.1)).Nodup
  rw [← hnb]
  exact h.nodupB
open Classical in
def resI (b : Bool) (l : List ThreadD) (cells th : Int) : List I := if goodT cells l th ∧ faultF b 0 (actsOf l th) = none then doneI b (actsOf l th) else []
open Classical in
def resF (b : Bool) (l : List ThreadD) (cells th : Int) : Int × Int × Int := if goodT cells l th then (if faultF b 0 (actsOf l th) = none then (0, 0, 0) else fltV b (actsOf l th)) else (1, 0, 0)
def refF (b : Bool) (acts : List ActD) : Int × Int × Int := if faultF b 0 acts = none then (0, 0, 0) else fltV b acts
def refR (b : Bool) (acts : List ActD) : List I := if faultF b 0 acts = none then doneI b acts else []
def thrS (q : Rw) (f : FuncId) (b : Bool) (B : List (Nat × Sy.Cont)) (tv : Value) (l : List ThreadD) (cells th : Int) : Sy.CallC :=
 ⟨f, #[progV cells tv, .int .i64 th], OkOne B tv l cells, ⟨[], [], 1, B⟩, [rowU q (resI b l cells th) fun s => .tuple #[s, faultVal (resF b l cells th).1 (resF b l cells th).2.1 (resF b l cells th).2.2]]⟩
theorem thrS_of {f : FuncId} {b : Bool} {B : List (Nat × Sy.Cont)} {tv : Value} {l : List ThreadD} {cells th : Int} (h : Sy.Meets Tryz.prog (threadC rowQ f b B tv l cells th)) : Sy.Meets Tryz.prog (thrS rowQ f b B tv l cells th) := fun hok W hpre => by
 refine (h hok W hpre).mono ?_
 rintro e W' ⟨o, ho, ns, rfl, hpost⟩
 have hlen : ns.length = 1 := hpost.len
 obtain ⟨n, rfl⟩ : ∃ n, ns = [n] := by
  match ns, hlen with
  | [n], _ => exact ⟨n, rfl⟩
 rcases List.mem_cons.1 ho with rfl | ho
 ·have hg : ¬ goodT cells l th := hpost.hyp
  have hI : resI b l cells th = [] := if_neg fun h => hg h.1
  have hF : resF b l cells th = (1, 0, 0) := if_neg hg
  refine ⟨_, Sy.mS _, [letV (.slice none 0 0)], ?_, ?_⟩
  ·rw [hF]; rfl
  ·rw [hI]
   exact post_keep hpost rfl rfl rowV_nil (fun p hp => by cases hp)
 rcases List.mem_cons.1 ho with rfl | ho
 ·obtain ⟨hg, hf⟩ : goodT cells l th ∧ faultF b 0 (actsOf l th) ≠ none := hpost.hyp
  have hI : resI b l cells th = [] := if_neg fun h => hf h.2
  have hF : resF b l cells th = fltV b (actsOf l th) := by rw [resF, if_pos hg, if_neg hf]
  refine ⟨_, Sy.mS _, [letV (.slice none 0 0)], ?_, ?_⟩
  ·rw [hF]; rfl
  ·rw [hI]
   exact post_keep hpost rfl rfl rowV_nil (fun p hp => by cases hp)
 ·rcases List.mem_singleton.1 ho with rfl
  obtain ⟨hg, hf, hV⟩ : goodT cells l th ∧ faultF b 0 (actsOf l th) = none ∧ RowV (lv0 [n]) (doneI b (actsOf l th)) := hpost.hyp
  have hI : resI b l cells th = doneI b (actsOf l th) := if_pos ⟨hg, hf⟩
  have hF : resF b l cells th = (0, 0, 0) := by rw [resF, if_pos hg, if_pos hf]
  refine ⟨_, Sy.mS _, [n], ?_, ?_⟩
  ·rw [hF]; rfl
  ·rw [hI]
   exact post_nb hpost rfl rfl hV rfl
def rthS (q : Rw) (B : List (Nat × Sy.Cont)) (b : Bool) (acts : List ActD) (args : Array Value) : Sy.CallC :=
 ⟨fRThread, args, ∃ loc av, args = #[thrV loc av, .bool b] ∧ OkRT B av acts, ⟨[], [], 1, B⟩, [rowU q (refR b acts) fun s => .tuple #[s, faultVal (refF b acts).1 (refF b acts).2.1 (refF b acts).2.2]]⟩
theorem rthS_met (B : List (Nat × Sy.Cont)) (b : Bool) (acts : List ActD) (args : Array Value) : Sy.Meets Tryz.prog (rthS rowQ B b acts args) := by
 rintro ⟨loc, av, rfl, hok⟩ W hpre
 refine (rthC_met B loc av b acts hok W hpre).mono ?_
 rintro e W' ⟨o, ho, ns, rfl, hpost⟩
 have hlen : ns.length = 1 := hpost.len
 obtain ⟨n, rfl⟩ : ∃ n, ns = [n] := by
  match ns, hlen with
  | [n], _ => exact ⟨n, rfl⟩
 rcases List.mem_cons.1 ho with rfl | ho
 ·have hf : faultF b 0 acts ≠ none := hpost.hyp
  have hI : refR b acts = [] := if_neg hf
  have hF : refF b acts = fltV b acts := if_neg hf
  refine ⟨_, Sy.mS _, [letV (.slice none 0 0)], ?_, ?_⟩
  ·rw [hF]; rfl
  ·rw [hI]
   exact post_keep hpost rfl rfl rowV_nil (fun p hp => by cases hp)
 ·rcases List.mem_singleton.1 ho with rfl
  obtain ⟨hf, hV⟩ : faultF b 0 acts = none ∧ RowV (lv0 [n]) (refI b acts) := hpost.hyp
  have hI : refR b acts = refI b acts := by rw [ref_eq]; exact if_pos hf
  have hF : refF b acts = (0, 0, 0) := if_pos hf
  refine ⟨_, Sy.mS _, [n], ?_, ?_⟩
  ·rw [hF]; rfl
  ·rw [hI]
   exact post_nb hpost rfl rfl hV rfl
abbrev fSame7 : FuncId := 15
abbrev fFault : FuncId := 14
def sn_o : Sy.O := (bz 6 0x3f nil)
noncomputable def sn_R (TL : List Blk) (ns : Nat → Sy.Let) : Sy.Res (Value × List Blk) :=
 leaf (Value.bool true, TL)
theorem sn_run (TL : List Blk) : Sy.Ran (Sy.inY Tryz.prog Sy.S0 50 fSame7 #[.slice none 0 0, .slice none 0 0] TL 0) sn_o (sn_R TL) := ⟨fun _ => by kernel_rfl, fun _ => by kernel_rfl⟩
def fa_o : Sy.O := (bz 28 0x9f6fb7d nil)
noncomputable def fa_R (TL : List Blk) (c l o : Int) (c' : Int) (l' : Int) (o' : Int) (ns : Nat → Sy.Let) : Sy.Res (Value × List Blk) :=
 leaf (Value.bool (bif bif Ex.eqQ c c' then Ex.eqQ l l' else false then Ex.eqQ o o' else false), TL)
theorem fa_run (TL : List Blk) (c l o c' l' o' : Int) : Sy.Ran (Sy.inY Tryz.prog Sy.S0 50 fFault #[faultVal c l o, faultVal c' l' o'] TL 0) fa_o (fa_R TL c l o c' l' o') := ⟨fun _ => by kernel_rfl, fun _ => by kernel_rfl⟩
def smC (q : Rw) (v w : Value) (X Y : List I) : Sy.CallC :=
 ⟨fSame7, #[slV v, slV w], X = Y ∧ q.V v X ∧ q.V w Y ∧ X.length ≤ 1000000000, ⟨[], [], 0, q.B v X ++ q.B w Y⟩, [Sy.plainO (.bool true)]⟩
theorem smC_met (v w : Value) (X Y : List I) : Sy.Meets Tryz.prog (smC rowQ v w X Y) := fun hok => by
 obtain ⟨rfl, hV, hW, hl⟩ := id hok
 rcases hV.lit with ⟨rfl, h1, h2⟩ | ⟨g, cap, h1, h2, hc, hne⟩
 ·rcases hW.lit with ⟨-, k1, k2⟩ | ⟨g, cap, -, -, -, hne⟩
  ·have hargs : (smC rowQ v w [] []).args = #[.slice none 0 0, .slice none 0 0] := by
    show #[slV v, slV w] = _
    rw [h1, k1]
   refine Sy.meets_ofY (k := 0) (c := smC rowQ v w [] []) Sy.S0_holds mixed (L := []) ?_ (by rw [hargs]; exact sn_run []) (fun _ ns => ?_) hok
   ·show Sy.Ent (rdOf (rowB v [] ++ rowB w [])) []
    exact Sy.Ent.sub (List.nil_sublist _)
   ·simp only [sn_R, Sy.Res.holds]
    exact plainB_leaf (v := .bool true) (Sy.mS _) rfl rfl
  ·exact absurd rfl hne
 ·rcases hW.lit with ⟨rfl, k1, k2⟩ | ⟨g', cap', k1, k2, kc, -⟩
  ·exact absurd rfl hne
  ·intro W hpre
   have hargs : (smC rowQ v w X X).args = (Lw.sameC g g' cap cap' X X).args := by
    show #[slV v, slV w] = #[_, _]
    rw [h1, k1]
   have hpre : (⟨[], [], 0, rowB v X ++ rowB w X⟩ : Sy.MemC).pre W := hpre
   show Calls _ fSame7 (smC rowQ v w X X).args W _
   rw [hargs]
   rw [h2, k2] at hpre
   refine (Lw.sameC_met g g' cap cap' X X hl W ⟨fun p hp => ?_, fun p hp => (by cases hp), List.nodup_nil, fun p _ q hq => (by cases hq), fun p hp => (by cases hp), fun p hp => (by cases hp)⟩).mono ?_
   ·rcases List.mem_cons.1 hp with rfl | hp
    ·exact Sy.Cont.sat_seg (hpre.rb _ Sy.mH)
    ·rcases List.mem_singleton.1 hp with rfl
     exact Sy.Cont.sat_seg (hpre.rb _ (Sy.mC _ (Sy.mS _)))
   ·rintro e W' ⟨o, ho, ns, rfl, hpost⟩
    rcases List.mem_singleton.1 ho with rfl
    refine ⟨_, Sy.mS _, [], ?_, ⟨rfl, trivial, hpost.os, hpost.tape, hpost.output, hpost.size, hpost.old, fun p hp => (by cases hp), List.nodup_nil, fun p hp => (by cases hp), List.nodup_nil, fun p hp => (by cases hp)⟩⟩
    show _ = Ending.returned (.bool true)
    simp [Sy.plainO]
def faC (c l o c' l' o' : Int) : Sy.CallC := ⟨fFault, #[faultVal c l o, faultVal c' l' o'], c = c' ∧ l = l' ∧ o = o', ⟨[], [], 0, []⟩, [Sy.plainO (.bool true)]⟩
theorem faC_met (c l o c' l' o' : Int) : Sy.Meets Tryz.prog (faC c l o c' l' o') := fun hok => by
 obtain ⟨rfl, rfl, rfl⟩ := id hok
 refine Sy.meets_ofY (k := 0) (c := faC c l o c l o) Sy.S0_holds mixed (L := []) (Sy.Ent.refl _) (fa_run [] c l o c l o) (fun _ ns => ?_) hok
 simp only [fa_R, Sy.Res.holds]
 have e : ∀ x : Int, Ex.eqQ x x = true := fun x => by rw [Ex.eqQ_eq]; simp
 simp only [e]
 exact plainB_leaf (v := .bool true) (Sy.mS _) rfl rfl
end Go.Proofs.YtlpcnaeknbmjdaaGreat.Gn
--@way 3
namespace Go.Proofs.YtlpcnaeknbmjdaaGreat.Gn
open Go Go.RowKit
open Go.Proofs.YtlpcnaeknbmjdaaGreat.Sy (Let Blk HasL)
open Lw (I insCells tI)
def Sy.aggI (v : Value) (i : Nat) : Int := match v with
 | .agg cs => Sy.argI cs i
 | _ => 0
end Go.Proofs.YtlpcnaeknbmjdaaGreat.Gn
namespace Go.Proofs.YtlpcnaeknbmjdaaGreat.Gn
open Go Go.RowKit
open Go.Proofs.YtlpcnaeknbmjdaaGreat.Sy (Let Blk HasL)
open Lw (I)
theorem acts_at {l : List ThreadD} {th : Int} {t : ThreadD} (h : l[th.toNat]? = some t) : actsOf l th = t.acts := by
 rw [actsOf, List.getD_eq_getElem?_getD, h]
 rfl
theorem preI_few {a : ActD} {na : Nat} (h : ActS a na) : (preI a).length ≤ 800000 := by
 unfold preI
 split
 ·rename_i e
  have := exprI_le (h.e (by omega) (by omega) (by omega)) 0
  omega
 split
 ·rename_i e
  have := placeI_le (h.p (by omega) (by omega) 0 (by omega) (by omega))
  omega
 split
 ·rename_i e
  have := exprI_le (h.e (by omega) (by omega) (by omega)) 0
  have := placeI_le (h.p (by omega) (by omega) 1 (by omega) (by omega))
  simp only [List.length_append]
  omega
 split
 ·rename_i e
  have := exprI_le (h.e (by omega) (by omega) (by omega)) 0
  have := exprI_le (h.f e) 1
  have := placeI_le (h.p (by omega) (by omega) 2 (by omega) (by omega))
  simp only [List.length_append]
  omega
 ·simp
theorem res_ref {cells th : Int} {l : List ThreadD} (h : goodT cells l th) (b : Bool) : resF b l cells th = refF b (actsOf l th) ∧ resI b l cells th = refR b (actsOf l th) := by
 refine ⟨?_, ?_⟩
 ·rw [resF, if_pos h]
  rfl
 ·unfold resI refR
  by_cases hf : faultF b 0 (actsOf l th) = none
  ·rw [if_pos ⟨h, hf⟩, if_pos hf]
  ·rw [if_neg fun x => hf x.2, if_neg hf]
theorem refR_few (b : Bool) (acts : List ActD) : (refR b acts).length ≤ 1000000000 := by
 unfold refR
 split
 ·rename_i h
  have h1 := layL_few (b := b) (n := 0) (by omega) h
  have h2 := layR_len b (begAll b acts) 0 acts
  rw [← ref_eq, refI, List.length_append, h2]
  simp only [List.length_cons, List.length_nil]
  omega
 ·simp
theorem got_all {L : List Blk} {C : List (Nat × Sy.Cont)} (h : ∀ x ∈ C.map (fun p : Nat × Sy.Cont => (⟨p.1, p.2, true⟩ : Blk)), x ∈ L) : Sy.GotL L C := fun p hp =>
 ⟨⟨p.1, p.2, true⟩, h _ (List.mem_map.2 ⟨p, hp, rfl⟩), rfl, fun _ h => h⟩
theorem got_two {L : List Blk} {C D : List (Nat × Sy.Cont)} (h : Sy.GotL L C) (k : Sy.GotL L D) : Sy.GotL L (C ++ D) := fun p hp => (List.mem_append.1 hp).elim (h p) (k p)
theorem okRT_of {B : List (Nat × Sy.Cont)} {tv : Value} {l : List ThreadD} {cells th : Int} (hg : goodT3 l) (h : goodT cells l th) {t : ThreadD} (ht : l[th.toNat]? = some t) {av : Value} (hA : ActsR B av t.acts) : OkRT B av (actsOf l th) := by
 have hm := List.mem_of_getElem? ht
 have ha := whole_acts h.1 hg hm
 rw [acts_at ht]
 exact ⟨okL_of hA ha (hg t hm), fun a hx => preI_few (ha a hx), fun a hx => (ha a hx).all⟩
end Go.Proofs.YtlpcnaeknbmjdaaGreat.Gn
--@way 3
namespace Go.Proofs.YtlpcnaeknbmjdaaGreat.Gn
open Sy.O (bz fork nil pack step steps)
open Sy.Res (need hyp br leaf both)
open Go Go.RowKit
open Go.Proofs.YtlpcnaeknbmjdaaGreat.Sy (Let Blk HasL)
open Lw (I insCells tI)
abbrev fGL : FuncId := 5
def bodyLo : Code := Sy.loopBody Tryz.f5 0
def actX (a : ActD) (iv ev fv : Value) : List Value := [.int .i64 a.op, .int .i64 a.dst, .int .i64 a.base, .int .i64 a.size, iv, ev, fv, .int .i64 a.mode, .int .i64 a.to, .int .i64 a.line, .int .i64 a.col]
def actB (a : ActD) (iv ev fv : Value) : Sy.Cont := .obj (.cells (actX a iv ev fv).toArray 46 (0, 0))
def tB (v : Value) : Sy.Cont := .obj (.cells #[.int .i64 24, v] 40 (0, 0))
def slLo (p3 p4 p7 : Nat) (n : Int) (k : Nat) : List (Nat × Value) := [(2, .int .i64 n), (3, .pointer (some ⟨p3, 0, none⟩)), (4, .pointer (some ⟨p4, 0, none⟩)), (6, .bool false), (7, .pointer (some ⟨p7, 0, none⟩)), (8, .int .i64 (Int.ofNat k))]
def lo0_o : Sy.O := (fork (bz 24 0xe3fffd nil) nil)
noncomputable def lo0_R (p3 p4 p7 : Nat) (a : ActD) (pi pe pf : Option Addr) (ni ci ne ce nf cf : Nat) (n : Int) (k : Nat) (f : Nat → Value) (ns : Nat → Sy.Let) : Sy.Res (Exit × Nat × List Value × List Blk) :=
 let z0 := Int.ofNat k
 let z1 := some (Addr.mk p3 0 none)
 let z2 := some (Addr.mk p4 0 none)
 let z3 := some (Addr.mk p7 0 none)
 let z4 := [Value.int .i64 (ActD.op a), Value.int .i64 (ActD.dst a), Value.int .i64 (ActD.base a), Value.int .i64 (ActD.size a), Value.slice pi ni ci, Value.slice pe ne ce, Value.slice pf nf cf, Value.int .i64 (ActD.mode a), Value.int .i64 (ActD.to a), Value.int .i64 (ActD.line a), Value.int .i64 (ActD.col a)]
 let z5 := actB a (Value.slice pi ni ci) (Value.slice pe ne ce) (Value.slice pf nf cf)
 br (Ex.ltQ z0 n) (hyp (Nat.le 1 (ns 2).n) (leaf (Exit.normal, 112, [Value.int .i64 n, Value.pointer z1, Value.pointer z2, Value.bool false, Value.pointer z3, Value.int .i64 (Ex.wrapQ .i64 (Ex.addQ z0 1))], [Blk.mk (ns 1).n (Sy.Cont.row 46 11 1 (ns 2).n z4) true, Blk.mk (ns 0).n (.obj (.cells (Array.mk z4) 46)) true, Blk.mk p3 z5 false, Blk.mk p7 (.obj (.cells (Array.mk [.int .i64 24, .slice (some ⟨(ns 1).n, 0, none⟩) 1 (ns 2).n]) 40)) true]))) (leaf (Exit.exit 0, 112, [Value.int .i64 n, Value.pointer z1, Value.pointer z2, Value.bool false, Value.pointer z3, Value.int .i64 z0], [Blk.mk p3 z5 false, Blk.mk p7 (tB (Value.slice none 0 0)) true]))
theorem lo0_run (p3 p4 p7 : Nat) (a : ActD) (pi pe pf : Option Addr) (ni ci ne ce nf cf : Nat) (n : Int) (k : Nat) (f : Nat → Value) : Sy.Ran (Sy.pieceT Tryz.prog Sy.S0 50 fGL bodyLo 112 (slLo p3 p4 p7 n k) ((List.range 112).map f) [⟨p3, actB a (.slice pi ni ci) (.slice pe ne ce) (.slice pf nf cf), false⟩, ⟨p7, tB (.slice none 0 0), true⟩] [2, 3, 4, 6, 7, 8]) lo0_o (lo0_R p3 p4 p7 a pi pe pf ni ci ne ce nf cf n k f) := ⟨fun _ => by kernel_rfl, fun _ => by kernel_rfl⟩
def lo1_o : Sy.O := (fork (bz 34 0x38f9d63fd nil) nil)
noncomputable def lo1_R (p3 p4 p7 g m cap : Nat) (a : ActD) (pi pe pf : Option Addr) (ni ci ne ce nf cf : Nat) (n : Int) (k : Nat) (xs : List Value) (f : Nat → Value) (ns : Nat → Sy.Let) : Sy.Res (Exit × Nat × List Value × List Blk) :=
 let z0 := Int.ofNat k
 let z1 := m + 1
 let z2 := some (Addr.mk p3 0 none)
 let z3 := some (Addr.mk p4 0 none)
 let z4 := some (Addr.mk p7 0 none)
 let z5 := [Value.int .i64 (ActD.op a), Value.int .i64 (ActD.dst a), Value.int .i64 (ActD.base a), Value.int .i64 (ActD.size a), Value.slice pi ni ci, Value.slice pe ne ce, Value.slice pf nf cf, Value.int .i64 (ActD.mode a), Value.int .i64 (ActD.to a), Value.int .i64 (ActD.line a), Value.int .i64 (ActD.col a)]
 let z6 := actB a (Value.slice pi ni ci) (Value.slice pe ne ce) (Value.slice pf nf cf)
 br (Ex.ltQ z0 n) (need (m + (1 : Nat) ≤ 9223372036854775807) (need (z1 * (136 : Nat) ≤ 140737488355328) (hyp (Nat.le z1 (ns 2).n) (leaf (Exit.normal, 112, [Value.int .i64 n, Value.pointer z2, Value.pointer z3, Value.bool false, Value.pointer z4, Value.int .i64 (Ex.wrapQ .i64 (Ex.addQ z0 1))], [Blk.mk (ns 1).n (Sy.Cont.row 46 11 z1 (ns 2).n (xs.append z5)) true, Blk.mk (ns 0).n (.obj (.cells (Array.mk z5) 46)) true, Blk.mk p3 z6 false, Blk.mk p7 (.obj (.cells (Array.mk [.int .i64 24, .slice (some ⟨(ns 1).n, 0, none⟩) z1 (ns 2).n]) 40)) true]))))) (leaf (Exit.exit 0, 112, [Value.int .i64 n, Value.pointer z2, Value.pointer z3, Value.bool false, Value.pointer z4, Value.int .i64 z0], [Blk.mk p3 z6 false, Blk.mk p7 (tB (Value.slice (some ⟨g, 0, none⟩) m cap)) true, Blk.mk g (Sy.Cont.row 46 11 m cap xs) true]))
theorem lo1_run (p3 p4 p7 g m cap : Nat) (a : ActD) (pi pe pf : Option Addr) (ni ci ne ce nf cf : Nat) (n : Int) (k : Nat) (xs : List Value) (f : Nat → Value) : Sy.Ran (Sy.pieceT Tryz.prog Sy.S0 50 fGL bodyLo 112 (slLo p3 p4 p7 n k) ((List.range 112).map f) [⟨p3, actB a (.slice pi ni ci) (.slice pe ne ce) (.slice pf nf cf), false⟩, ⟨p7, tB (.slice (some ⟨g, 0, none⟩) m cap), true⟩, ⟨g, .row 46 11 m cap xs, true⟩] [2, 3, 4, 6, 7, 8]) lo1_o (lo1_R p3 p4 p7 g m cap a pi pe pf ni ci ne ce nf cf n k xs f) := ⟨fun _ => by kernel_rfl, fun _ => by kernel_rfl⟩
end Go.Proofs.YtlpcnaeknbmjdaaGreat.Gn
namespace Go.Proofs.YtlpcnaeknbmjdaaGreat.Gn
open Go Go.RowKit
open Go.Proofs.YtlpcnaeknbmjdaaGreat.Sy (Let Blk HasL)
open Lw (I)
def repX (cs : List Value) : Nat → List Value
 | 0 => []
 | n + 1 => repX cs n ++ cs
structure SlP where
 p : Option Addr
 n : Nat
 c : Nat
abbrev SlP.v (s : SlP) : Value := .slice s.p s.n s.c
def loC (p3 p4 p7 : Nat) (a : ActD) (i e f : SlP) (n : Int) : Sy.LoopC :=
 ⟨.loop bodyLo, 112, slLo p3 p4 p7 n 0, 0 ≤ n ∧ n ≤ 6000, ⟨[(p3, actB a i.v e.v f.v)], [(p7, tB (.slice none 0 0))], 2, []⟩,
  [(⟨fun _ => n = 0, fun _ => [(p7, tB (.slice none 0 0))], fun _ => []⟩, .exit 0, fun _ => [(3, .pointer (some ⟨p3, 0, none⟩)), (4, .pointer (some ⟨p4, 0, none⟩)), (6, .bool false), (7, .pointer (some ⟨p7, 0, none⟩))]),
   (⟨fun ns => 0 < n ∧ n.toNat ≤ Sy.num ns 1, fun ns => [(p7, tB (.slice (some ⟨Sy.num ns 0, 0, none⟩) n.toNat (Sy.num ns 1))), (Sy.num ns 0, .row 46 11 n.toNat (Sy.num ns 1) (repX (actX a i.v e.v f.v) n.toNat))], fun _ => []⟩, .exit 0,
    fun _ => [(3, .pointer (some ⟨p3, 0, none⟩)), (4, .pointer (some ⟨p4, 0, none⟩)), (6, .bool false), (7, .pointer (some ⟨p7, 0, none⟩))])]⟩
structure StLo where
 r : Option (Nat × Nat)
 k : Nat
def memLo (p3 p7 : Nat) (a : ActD) (i e f : SlP) (s : StLo) : List Blk := match s.r with
 | none => [⟨p3, actB a i.v e.v f.v, false⟩, ⟨p7, tB (.slice none 0 0), true⟩]
 | some (g, cap) => [⟨p3, actB a i.v e.v f.v, false⟩, ⟨p7, tB (.slice (some ⟨g, 0, none⟩) s.k cap), true⟩, ⟨g, .row 46 11 s.k cap (repX (actX a i.v e.v f.v) s.k), true⟩]
structure OkLo (n : Int) (s : StLo) : Prop where
 bd : 0 ≤ n ∧ n ≤ 6000
 k : (s.k : Int) ≤ n
 nil : s.r = none → s.k = 0
 row : ∀ g cap, s.r = some (g, cap) → 0 < s.k ∧ s.k ≤ cap
theorem loC_met (p3 p4 p7 : Nat) (a : ActD) (i e f : SlP) (n : Int) : Sy.MeetsL Tryz.prog (loC p3 p4 p7 a i e f n) := by
 refine Sy.loop_ofB (σ := StLo) (S := fun _ => Sy.S0) (n := 50) (fn := fGL) (fun _ => Sy.S0_holds) mixed (body := bodyLo) rfl [2, 3, 4, 6, 7, 8] (fun s => slLo p3 p4 p7 n s.k)
  (fun s => memLo p3 p7 a i e f s) (fun s => OkLo n s) (fun s => n.toNat - s.k)
  ⟨none, 0⟩ (fun h => ⟨h, h.1, fun _ => rfl, fun _ _ h => (by cases h)⟩) (fun p hp => hp) (Sy.Ent.refl _)
  (o := fun s => match s.r with
   | none => lo0_o
   | some _ => lo1_o)
  (R := fun s fr => match s.r with
   | none => lo0_R p3 p4 p7 a i.p e.p f.p i.n i.c e.n e.c f.n f.c n s.k fr
   | some (g, cap) => lo1_R p3 p4 p7 g s.k cap a i.p e.p f.p i.n i.c e.n e.c f.n f.c n s.k (repX (actX a i.v e.v f.v) s.k) fr) ?_ ?_
 ·rintro ⟨r, k⟩ fr -
  cases r with
  | none => exact lo0_run p3 p4 p7 a i.p e.p f.p i.n i.c e.n e.c f.n f.c n k fr
  | some x => exact lo1_run p3 p4 p7 x.1 k x.2 a i.p e.p f.p i.n i.c e.n e.c f.n f.c n k (repX (actX a i.v e.v f.v) k) fr
 rintro - ⟨r, k⟩ fr ⟨⟨h0, h6⟩, hk, hnil, hrow⟩ ns
 simp only at hk hnil hrow
 cases r with
 | none =>
   have hk0 := hnil rfl
   subst hk0
   simp only [lo0_R, Sy.Res.holds]
   refine ⟨fun hlt hc => ?_, fun hge => ?_⟩
   ·have hlt : 0 < n := by rw [Ex.ltQ_eq] at hlt; have := of_decide_eq_true hlt; simp only [Int.ofNat_eq_natCast] at this; omega
    refine ⟨rfl, .inl ⟨rfl, ⟨some ((ns 1).n, (ns 2).n), 1⟩, ⟨⟨h0, h6⟩, by show ((1 : Nat) : Int) ≤ n; omega, fun h => (by cases h), fun g cap h => ?_⟩, by show n.toNat - 1 < n.toNat - 0; omega, ?_, ?_⟩⟩
    ·injection h with h
     injection h with h1 h2
     subst h1 h2
     exact ⟨Nat.succ_pos _, hc⟩
    ·rw [w_succ (by omega)]
     rfl
    ·exact Sy.Ent.trans (Sy.Ent.perm ((List.Perm.swap _ _ _).trans (List.Perm.cons _ ((List.Perm.swap _ _ _).trans (.cons _ (List.Perm.swap _ _ _)))))) (Sy.Ent.sub (.cons _ (.cons_cons _ (.cons_cons _ (.cons_cons _ (List.nil_sublist _))))))
   ·have hge : n = 0 := by rw [Ex.ltQ_eq] at hge; have := of_decide_eq_false hge; simp only [Int.ofNat_eq_natCast] at this; omega
    exact ⟨rfl, .inr ⟨by simp, _, Sy.mH, rfl, [Let.none, Let.none], rfl, ⟨[1, 2, 3, 4], rfl⟩, Sy.Ent.sub (.cons _ (.cons_cons _ (List.nil_sublist _))), hge⟩⟩
 | some x =>
   obtain ⟨g, cap⟩ := x
   obtain ⟨hp, hc0⟩ := hrow g cap rfl
   simp only [lo1_R, Sy.Res.holds]
   refine ⟨fun hlt => ⟨by omega, by omega, fun hc => ?_⟩, fun hge => ?_⟩
   ·have hlt : (k : Int) < n := by rw [Ex.ltQ_eq] at hlt; have := of_decide_eq_true hlt; simp only [Int.ofNat_eq_natCast] at this; omega
    refine ⟨rfl, .inl ⟨rfl, ⟨some ((ns 1).n, (ns 2).n), k + 1⟩, ⟨⟨h0, h6⟩, by show ((k + 1 : Nat) : Int) ≤ n; omega, fun h => (by cases h), fun g' cap' h => ?_⟩, by show n.toNat - (k + 1) < n.toNat - k; omega, ?_, ?_⟩⟩
    ·injection h with h
     injection h with h1 h2
     subst h1 h2
     exact ⟨Nat.succ_pos _, hc⟩
    ·rw [w_succ (by omega)]
     rfl
    ·exact Sy.Ent.trans (Sy.Ent.perm ((List.Perm.swap _ _ _).trans (List.Perm.cons _ ((List.Perm.swap _ _ _).trans (.cons _ (List.Perm.swap _ _ _)))))) (Sy.Ent.sub (.cons _ (.cons_cons _ (.cons_cons _ (.cons_cons _ (List.nil_sublist _))))))
   ·have hge : n = (k : Int) := by rw [Ex.ltQ_eq] at hge; have := of_decide_eq_false hge; simp only [Int.ofNat_eq_natCast] at this; omega
    subst hge
    refine ⟨rfl, .inr ⟨by simp, _, Sy.mC _ (Sy.mS _), rfl, [⟨g, 0, false, undef, []⟩, ⟨cap, 0, false, undef, []⟩], rfl, ⟨[1, 2, 3, 4], rfl⟩, ?_, by omega, by show (k : Int).toNat ≤ cap; omega⟩⟩
    show Sy.Ent _ [⟨p7, tB (.slice (some ⟨g, 0, none⟩) (k : Int).toNat cap), true⟩, ⟨g, .row 46 11 (k : Int).toNat cap (repX (actX a i.v e.v f.v) (k : Int).toNat), true⟩]
    rw [Int.toNat_natCast]
    exact Sy.Ent.sub (.cons _ (List.Sublist.refl _))
end Go.Proofs.YtlpcnaeknbmjdaaGreat.Gn
--@way 3
--@tail 0
namespace Go.Proofs.YtlpcnaeknbmjdaaGreat.Gn
open Sy.O (bz fork nil pack step steps)
open Sy.Res (need hyp br leaf both)
open Go Go.RowKit
open Go.Proofs.YtlpcnaeknbmjdaaGreat.Sy (Let Blk HasL)
open Lw (I insCells tI)
def allB (L : List Blk) : List (Nat × Sy.Cont) := Classical.choose (p := fun x => x = L.map fun b => (b.nm, b.ct)) ⟨_, rfl⟩
theorem allB_eq (L : List Blk) : allB L = L.map fun b => (b.nm, b.ct) := Classical.choose_spec (p := fun x => x = L.map fun b => (b.nm, b.ct)) ⟨_, rfl⟩
def Sy.aggV (v : Value) (i : Nat) : Value := match v with
 | .agg cs => Sy.argV cs i
 | _ => undef
def pickY (q : Rw) (v w : Value) (L : List Blk) : List I := Classical.epsilon fun X : List I => (q.V v X ∧ q.V w X ∧ X.length ≤ 1000000000) ∧ Sy.GotL L (q.B v X ++ q.B w X)
def ctxGL (q : Rw) (a : ActD) (i e f : SlP) (n : Int) (acts : List ActD) : Sy.Ctx :=
 Sy.mkS [(fAwake, fun _ _ => awC), (fThread, fun x L => thrS q fThread false (allB L) (Sy.aggV (Sy.argV x 0) 1) [⟨24, acts⟩] 4096 0), (fLseThread, fun x L => thrS q fLseThread true (allB L) (Sy.aggV (Sy.argV x 0) 1) [⟨24, acts⟩] 4096 0), (fRWhole, fun x L => rwholeC (allB L) (Sy.aggV (Sy.argV x 0) 1) [⟨24, acts⟩] 4096),
  (fRThread, fun x L => rthS q (allB L) (Sy.boolV (Sy.argV x 1)) acts x),
  (fSame7, fun x L => smC q (Sy.argV x 0) (Sy.argV x 1) (pickY q (Sy.argV x 0) (Sy.argV x 1) L) (pickY q (Sy.argV x 0) (Sy.argV x 1) L)),
  (fFault, fun x _ => faC (Sy.aggI (Sy.argV x 0) 0) (Sy.aggI (Sy.argV x 0) 1) (Sy.aggI (Sy.argV x 0) 2) (Sy.aggI (Sy.argV x 1) 0) (Sy.aggI (Sy.argV x 1) 1) (Sy.aggI (Sy.argV x 1) 2))]
  [(fGL, fun x _ => loC (Sy.ptrN (x.get 3)) (Sy.ptrN (x.get 4)) (Sy.ptrN (x.get 7)) a i e f n)] []
def gl_o : Sy.O := (bz 25 0x1def6b7 (fork nil (bz 13 0x1b4f (fork (bz 72 0xbbbeb7fcf2eff9fce5 (fork (bz 6 0x37 nil) (bz 107 0x5df7fe777df71f5b80fadc0fadd nil))) (bz 84 0xbbbeb7fcf2ead67c7f1c5 (fork (bz 6 0x37 nil) (bz 107 0x5df7fe777df71f5b80fadc0fadd nil)))))))
noncomputable def gl_R (q : Rw) (B : List (Nat × Sy.Cont)) (a b : ActD) (i e f bi be bf : SlP) (n : Int) (acts : List ActD) (ns : Nat → Sy.Let) : Sy.Res (Value × List Blk) :=
 let z0 := ns 1
 let z1 := ns 0
 let z2 := Sy.Cont.obj (Obj.cells (Array.mk [.int .i64 (ActD.op a), .int .i64 (ActD.dst a), .int .i64 (ActD.base a), .int .i64 (ActD.size a), .slice (SlP.p i) (SlP.n i) (SlP.c i), .slice (SlP.p e) (SlP.n e) (SlP.c e), .slice (SlP.p f) (SlP.n f) (SlP.c f), .int .i64 (ActD.mode a), .int .i64 (ActD.to a), .int .i64 (ActD.line a), .int .i64 (ActD.col a)]) 46)
 let z3 := ns 8
 let z4 := ns 10
 let z5 := ns 9
 let z6 := some (Addr.mk z5.n 0 none)
 let z7 := Sy.Cont.obj (Obj.cells (Array.mk [.int .i64 4096, .slice z6 1 1]) 24)
 let z8 := ns 7
 let z9 := some (Addr.mk z8.n 0 none)
 let z10 := Array.mk [Value.int .i64 24, Value.slice z9 1 z3.n]
 let z11 := Sy.Cont.obj (Obj.cells z10 40)
 let z12 := [Value.int .i64 (ActD.op b), Value.int .i64 (ActD.dst b), Value.int .i64 (ActD.base b), Value.int .i64 (ActD.size b), Value.slice (SlP.p bi) (SlP.n bi) (SlP.c bi), Value.slice (SlP.p be) (SlP.n be) (SlP.c be), Value.slice (SlP.p bf) (SlP.n bf) (SlP.c bf), Value.int .i64 (ActD.mode b), Value.int .i64 (ActD.to b), Value.int .i64 7, Value.int .i64 8]
 let z13 := Sy.Cont.row 46 11 1 z3.n z12
 let z14 := ns 6
 let z15 := Sy.Cont.obj (Obj.cells (Array.mk z12) 46)
 let z16 := ns 2
 let z17 := Blk.mk z4.n z7 true :: Blk.mk z5.n z11 true :: Blk.mk z8.n z13 true :: Blk.mk z14.n z15 true :: Blk.mk z16.n z11 true :: Blk.mk z1.n z2 true :: Blk.mk z0.n z15 true :: rdOf B
 let z18 := Value.slice z6 1 1
 let z19 := [ThreadD.mk 24 acts]
 let z20 := lv0 [ns 11]
 let z21 := resI false z19 4096 0
 let z22 := ns 12
 let z23 := resF false z19 4096 0
 let z24 := Prod.snd z23
 let z25 := Sy.Cont.obj (Obj.cells (Array.mk [.int .i64 (Prod.fst z23), .int .i64 (Prod.fst z24), .int .i64 (Prod.snd z24)]) 31)
 let z26 := rdOf B
 let z27 := List.map Sy.ownOf (q.1 z20 z21)
 let z28 := Blk.mk z22.n z25 true :: Blk.mk z4.n z7 true :: Blk.mk z5.n z11 true :: Blk.mk z8.n z13 true :: Blk.mk z14.n z15 true :: Blk.mk z16.n z11 true :: Blk.mk z1.n z2 true :: Blk.mk z0.n z15 true :: z26.append z27
 let z29 := !wholeR 4096 z19
 let z30 := bif Ex.eqQ (Prod.fst z23) 1 && (Ex.eqQ (Prod.fst z24) 0 && (Ex.eqQ (Prod.snd z24) 0 && true)) then Ex.eqQ (Int.ofNat (Sy.lenS z20)) 0 else false
 let z31 := fun (p : Nat × Sy.Cont) => Blk.mk (Prod.fst p) (Prod.snd p) true
 let z32 := List.map z31 (q.1 z20 z21)
 let z33 := lv0 [ns 13]
 let z34 := resI true z19 4096 0
 let z35 := ns 14
 let z36 := resF true z19 4096 0
 let z37 := Prod.snd z36
 let z38 := Sy.Cont.obj (Obj.cells (Array.mk [.int .i64 (Prod.fst z36), .int .i64 (Prod.fst z37), .int .i64 (Prod.snd z37)]) 31)
 let z39 := z26.append z32
 let z40 := List.map z31 (q.1 z33 z34)
 let z41 := Blk.mk z35.n z38 true :: Blk.mk z22.n z25 true :: Blk.mk z4.n z7 true :: Blk.mk z5.n z11 true :: Blk.mk z8.n z13 true :: Blk.mk z14.n z15 true :: Blk.mk z16.n z11 true :: Blk.mk z1.n z2 true :: Blk.mk z0.n z15 true :: z39.append z40
 let z42 := lv0 [ns 15]
 let z43 := q.2 z42 (refR false acts)
 let z44 := ns 16
 let z45 := refF false acts
 let z46 := Prod.snd z45
 let z47 := Sy.Cont.obj (Obj.cells (Array.mk [.int .i64 (Prod.fst z45), .int .i64 (Prod.fst z46), .int .i64 (Prod.snd z46)]) 35)
 let z48 := z39.append z40
 let z49 := List.map z31 (q.1 z42 (refR false acts))
 let z50 := Blk.mk z44.n z47 true :: Blk.mk z35.n z38 true :: Blk.mk z22.n z25 true :: Blk.mk z4.n z7 true :: Blk.mk z5.n z11 true :: Blk.mk z8.n z13 true :: Blk.mk z14.n z15 true :: Blk.mk z16.n z11 true :: Blk.mk z1.n z2 true :: Blk.mk z0.n z15 true :: z48.append z49
 let z51 := lv0 [ns 17]
 let z52 := q.2 z51 (refR true acts)
 let z53 := Prod.fst z23 = Prod.fst z45 ∧ Prod.fst z24 = Prod.fst z46 ∧ Prod.snd z24 = Prod.snd z46
 let z54 := Value.slice (slP z20) (Sy.lenS z20) (slC z20)
 let z55 := Value.slice (slP z42) (Sy.lenS z42) (slC z42)
 let z56 := ns 18
 let z57 := refF true acts
 let z58 := Prod.snd z57
 let z59 := Sy.Cont.obj (Obj.cells (Array.mk [.int .i64 (Prod.fst z57), .int .i64 (Prod.fst z58), .int .i64 (Prod.snd z58)]) 35)
 let z60 := z48.append z49
 let z61 := List.map z31 (q.1 z51 (refR true acts))
 let z62 := Blk.mk z56.n z59 true :: Blk.mk z44.n z47 true :: Blk.mk z35.n z38 true :: Blk.mk z22.n z25 true :: Blk.mk z4.n z7 true :: Blk.mk z5.n z11 true :: Blk.mk z8.n z13 true :: Blk.mk z14.n z15 true :: Blk.mk z16.n z11 true :: Blk.mk z1.n z2 true :: Blk.mk z0.n z15 true :: z60.append z61
 let z63 := pickY q z54 z55 z62
 let z64 := Prod.fst z36 = Prod.fst z57 ∧ Prod.fst z37 = Prod.fst z58 ∧ Prod.snd z37 = Prod.snd z58
 let z65 := Value.slice (slP z33) (Sy.lenS z33) (slC z33)
 let z66 := Value.slice (slP z51) (Sy.lenS z51) (slC z51)
 let z67 := some (Addr.mk (Let.n z8) 0 none)
 let z68 := Let.n z3
 let z69 := Sy.Cont.obj (Obj.cells (Array.mk [.int .i64 24, .slice z67 1 z68]) 40)
 let z70 := Blk.mk z56.n z59 true :: Blk.mk z44.n z47 true :: Blk.mk z35.n z38 true :: Blk.mk z22.n z25 true :: Blk.mk z4.n z7 true :: Blk.mk z5.n z11 true :: Blk.mk z8.n z13 true :: Blk.mk z14.n z15 true :: Blk.mk z16.n z69 true :: Blk.mk z1.n z2 true :: Blk.mk z0.n z15 true :: z60.append z61
 let z71 := some (Addr.mk (Let.n (ns 7)) 0 none)
 let z72 := Sy.Cont.obj (Obj.cells (Array.mk [.int .i64 24, .slice z71 1 z68]) 40)
 let z73 := Sy.Cont.obj (Obj.cells (Array.mk [.int .i64 24, .slice z67 1 z3.n]) 40)
 let z74 := Let.n (ns 8)
 let z75 := Sy.Cont.obj (Obj.cells (Array.mk [.int .i64 24, .slice z71 1 z74]) 40)
 let z76 := pickY q z65 z66 (Blk.mk z56.n z59 true :: Blk.mk z44.n z47 true :: Blk.mk z35.n z38 true :: Blk.mk z22.n z25 true :: Blk.mk z4.n z7 true :: Blk.mk z5.n z73 true :: Blk.mk z8.n z13 true :: Blk.mk z14.n z15 true :: Blk.mk z16.n z75 true :: Blk.mk z1.n z2 true :: Blk.mk z0.n z15 true :: z60.append z61)
 let z77 := Sy.Cont.obj (Obj.cells (Array.mk [.int .i64 4096, .slice (some (Addr.mk (Let.n z5) 0 none)) 1 1]) 24)
 let z78 := Int.toNat n + 1
 let z79 := Array.mk [Value.int .i64 24, Value.slice z9 z78 z3.n]
 let z80 := Sy.Cont.obj (Obj.cells z79 40)
 let z81 := Sy.Cont.row 46 11 z78 z3.n (List.append (repX (actX a (Value.slice (SlP.p i) (SlP.n i) (SlP.c i)) (Value.slice (SlP.p e) (SlP.n e) (SlP.c e)) (Value.slice (SlP.p f) (SlP.n f) (SlP.c f))) (Int.toNat n)) z12)
 let z82 := Blk.mk z4.n z7 true :: Blk.mk z5.n z80 true :: Blk.mk z8.n z81 true :: Blk.mk z14.n z15 true :: Blk.mk z16.n z80 true :: Blk.mk z1.n z2 true :: Blk.mk z0.n z15 true :: rdOf B
 let z83 := Blk.mk z22.n z25 true :: Blk.mk z4.n z7 true :: Blk.mk z5.n z80 true :: Blk.mk z8.n z81 true :: Blk.mk z14.n z15 true :: Blk.mk z16.n z80 true :: Blk.mk z1.n z2 true :: Blk.mk z0.n z15 true :: z26.append z27
 let z84 := Blk.mk z22.n z25 true :: Blk.mk z4.n z7 true :: Blk.mk z5.n z80 true :: Blk.mk z8.n z81 true :: Blk.mk z14.n z15 true :: Blk.mk z16.n z80 true :: Blk.mk z1.n z2 true :: Blk.mk z0.n z15 true :: z26.append z32
 let z85 := Blk.mk z35.n z38 true :: Blk.mk z22.n z25 true :: Blk.mk z4.n z7 true :: Blk.mk z5.n z80 true :: Blk.mk z8.n z81 true :: Blk.mk z14.n z15 true :: Blk.mk z16.n z80 true :: Blk.mk z1.n z2 true :: Blk.mk z0.n z15 true :: z39.append z40
 let z86 := Blk.mk z44.n z47 true :: Blk.mk z35.n z38 true :: Blk.mk z22.n z25 true :: Blk.mk z4.n z7 true :: Blk.mk z5.n z80 true :: Blk.mk z8.n z81 true :: Blk.mk z14.n z15 true :: Blk.mk z16.n z80 true :: Blk.mk z1.n z2 true :: Blk.mk z0.n z15 true :: z48.append z49
 let z87 := Blk.mk z56.n z59 true :: Blk.mk z44.n z47 true :: Blk.mk z35.n z38 true :: Blk.mk z22.n z25 true :: Blk.mk z4.n z7 true :: Blk.mk z5.n z80 true :: Blk.mk z8.n z81 true :: Blk.mk z14.n z15 true :: Blk.mk z16.n z80 true :: Blk.mk z1.n z2 true :: Blk.mk z0.n z15 true :: z60.append z61
 let z88 := Sy.Cont.obj (Obj.cells (Array.mk [.int .i64 24, .slice z67 z78 z3.n]) 40)
 let z89 := pickY q z54 z55 (Blk.mk z56.n z59 true :: Blk.mk z44.n z47 true :: Blk.mk z35.n z38 true :: Blk.mk z22.n z25 true :: Blk.mk z4.n z7 true :: Blk.mk z5.n z80 true :: Blk.mk z8.n z81 true :: Blk.mk z14.n z15 true :: Blk.mk z16.n z88 true :: Blk.mk z1.n z2 true :: Blk.mk z0.n z15 true :: z60.append z61)
 let z90 := Sy.Cont.obj (Obj.cells (Array.mk [.int .i64 24, .slice z67 z78 z68]) 40)
 let z91 := Sy.Cont.obj (Obj.cells (Array.mk [.int .i64 24, .slice z71 z78 z74]) 40)
 let z92 := Blk.mk z56.n z59 true :: Blk.mk z44.n z47 true :: Blk.mk z35.n z38 true :: Blk.mk z22.n z25 true :: Blk.mk z4.n z7 true :: Blk.mk z5.n z88 true :: Blk.mk z8.n z81 true :: Blk.mk z14.n z15 true :: Blk.mk z16.n z91 true :: Blk.mk z1.n z2 true :: Blk.mk z0.n z15 true :: z60.append z61
 let z93 := Sy.Cont.obj (Obj.cells (Array.mk [.int .i64 24, .slice z71 z78 z68]) 40)
 let z94 := pickY q z65 z66 (Blk.mk z56.n z59 true :: Blk.mk z44.n z47 true :: Blk.mk z35.n z38 true :: Blk.mk z22.n z25 true :: Blk.mk z4.n z77 true :: Blk.mk z5.n z93 true :: Blk.mk z8.n z81 true :: Blk.mk z14.n z15 true :: Blk.mk z16.n z91 true :: Blk.mk z1.n z2 true :: Blk.mk (Let.n z0) z15 true :: z60.append z61)
 need True (hyp True (br (bif bif Ex.ltQ n 0 then true else Ex.ltQ 6000 n then true else Ex.ltQ 40 (Ex.wrapQ .i64 (Ex.addQ (Ex.wrapQ .i64 (Ex.addQ (Int.ofNat (SlP.n e)) (Int.ofNat (SlP.n f)))) (Int.ofNat (SlP.n i))))) (leaf (Value.bool true, Blk.mk z0.n (Sy.Cont.obj (Obj.cells (Array.mk [.int .i64 (ActD.op b), .int .i64 (ActD.dst b), .int .i64 (ActD.base b), .int .i64 (ActD.size b), .slice (SlP.p bi) (SlP.n bi) (SlP.c bi), .slice (SlP.p be) (SlP.n be) (SlP.c be), .slice (SlP.p bf) (SlP.n bf) (SlP.c bf), .int .i64 (ActD.mode b), .int .i64 (ActD.to b), .int .i64 (ActD.line b), .int .i64 (ActD.col b)]) 46)) true :: Blk.mk z1.n z2 true :: rdOf B)) (need (0 ≤ n ∧ n ≤ 6000) (both (hyp (n = 0) (hyp (Nat.le 1 z3.n) (need (OkOne (allB z17) z18 z19 4096) (need (Sy.GotL z17 (Sy.MemC.rb (Sy.MemC.mk [] [] 1 (allB z17)))) (hyp (q.2 z20 z21) (need (ThreadsR (allB z28) z18 z19) (need (Sy.GotL z28 (Sy.MemC.rb (Sy.MemC.mk [] [] 0 (allB z28)))) (hyp True (br z29 (leaf (Value.bool z30, Blk.mk z22.n z25 true :: Blk.mk z4.n z7 true :: Blk.mk z5.n z11 true :: Blk.mk z8.n z13 true :: Blk.mk z14.n z15 true :: Blk.mk z16.n z11 true :: Blk.mk z1.n z2 true :: Blk.mk z0.n z15 true :: z26.append z27)) (need (OkOne (allB z28) z18 z19 4096) (need (Sy.GotL z28 (Sy.MemC.rb (Sy.MemC.mk [] [] 1 (allB (Blk.mk z22.n z25 true :: Blk.mk z4.n z7 true :: Blk.mk z5.n z11 true :: Blk.mk z8.n z13 true :: Blk.mk z14.n z15 true :: Blk.mk z16.n z11 true :: Blk.mk z1.n z2 true :: Blk.mk z0.n z15 true :: z26.append z32)))))
 (hyp (q.2 z33 z34) (need (∃ (loc : Int), ∃ (av : Value), Array.mk [Value.agg z10, Value.bool false] = Array.mk [thrV loc av, Value.bool false] ∧ OkRT (allB z41) av acts) (need (Sy.GotL z41 (Sy.MemC.rb (Sy.MemC.mk [] [] 1 (allB z41)))) (hyp z43 (need (∃ (loc : Int), ∃ (av : Value), Array.mk [Value.agg z10, Value.bool true] = Array.mk [thrV loc av, Value.bool true] ∧ OkRT (allB z50) av acts) (need (Sy.GotL z50 (Sy.MemC.rb (Sy.MemC.mk [] [] 1 (allB z50)))) (hyp z52 (need z53 (hyp True (need (pickY q z54 z55 z62 = pickY q z54 z55 z62 ∧ q.2 z54 z63 ∧ q.2 z55 z63 ∧ List.length z63 ≤ 1000000000) (need (Sy.GotL z62 ((q.1 z54 z63).append (q.1 z55 z63))) (hyp True (need z64 (hyp True (need (pickY q z65 z66 z70 = pickY q z65 z66 z70 ∧ q.2 z65 (pickY q z65 z66 (Blk.mk z56.n z59 true :: Blk.mk z44.n z47 true :: Blk.mk z35.n z38 true :: Blk.mk z22.n z25 true :: Blk.mk z4.n z7 true :: Blk.mk z5.n z11 true :: Blk.mk z8.n z13 true :: Blk.mk z14.n z15 true :: Blk.mk z16.n z72 true :: Blk.mk z1.n z2 true :: Blk.mk z0.n z15 true :: z60.append z61)) ∧ q.2 z66 z76 ∧ List.length (pickY q z65 z66 (Blk.mk z56.n z59 true :: Blk.mk z44.n z47 true :: Blk.mk z35.n z38 true :: Blk.mk z22.n z25 true :: Blk.mk z4.n z77 true :: Blk.mk z5.n z69 true :: Blk.mk z8.n z13 true :: Blk.mk z14.n z15 true :: Blk.mk z16.n z75 true :: Blk.mk z1.n z2 true :: Blk.mk z0.n z15 true :: z60.append z61)) ≤ 1000000000) (need (Sy.GotL (Blk.mk z56.n z59 true :: Blk.mk z44.n z47 true :: Blk.mk z35.n z38 true :: Blk.mk z22.n z25
 true :: Blk.mk z4.n z7 true :: Blk.mk z5.n z11 true :: Blk.mk z8.n z13 true :: Blk.mk z14.n z15 true :: Blk.mk z16.n z73 true :: Blk.mk z1.n z2 true :: Blk.mk z0.n z15 true :: z60.append z61) ((q.1 z65 z76).append (q.1 z66 z76))) (hyp True (leaf (Value.bool true, Blk.mk z56.n z59 true :: Blk.mk z44.n z47 true :: Blk.mk z35.n z38 true :: Blk.mk z22.n z25 true :: Blk.mk z4.n z7 true :: Blk.mk z5.n z11 true :: Blk.mk z8.n z13 true :: Blk.mk z14.n z15 true :: Blk.mk z16.n z72 true :: Blk.mk z1.n z2 true :: Blk.mk z0.n z15 true :: z60.append z61)))))))))))))))))))))))))))))) (hyp (0 < n ∧ Int.toNat n ≤ (ns 4).n) (need (Int.toNat n + (1 : Nat) ≤ 9223372036854775807) (need (z78 * (136 : Nat) ≤ 140737488355328) (hyp (Nat.le z78 z3.n) (need (OkOne (allB z82) z18 z19 4096) (need (Sy.GotL z82 (Sy.MemC.rb (Sy.MemC.mk [] [] 1 (allB z82)))) (hyp (q.2 z20 z21) (need (ThreadsR (allB z83) z18 z19) (need (Sy.GotL z83 (Sy.MemC.rb (Sy.MemC.mk [] [] 0 (allB z84)))) (hyp True (br z29 (leaf (Value.bool z30, Blk.mk z22.n z25 true :: Blk.mk z4.n z7 true :: Blk.mk z5.n z80 true :: Blk.mk z8.n z81 true :: Blk.mk z14.n z15 true :: Blk.mk z16.n z80 true :: Blk.mk z1.n z2 true :: Blk.mk z0.n z15 true :: z26.append z32)) (need (OkOne (allB z84) z18 z19 4096) (need (Sy.GotL z84 (Sy.MemC.rb (Sy.MemC.mk [] [] 1 (allB z84)))) (hyp (q.2 z33 z34) (need (∃ (loc : Int), ∃ (av : Value), Array.mk [Value.agg z79, Value.bool false] = Array.mk [thrV loc av, Value.bool false] ∧ OkRT (allB z85) av acts) (need (Sy.GotL z85
 (Sy.MemC.rb (Sy.MemC.mk [] [] 1 (allB z85)))) (hyp z43 (need (∃ (loc : Int), ∃ (av : Value), Array.mk [Value.agg z79, Value.bool true] = Array.mk [thrV loc av, Value.bool true] ∧ OkRT (allB z86) av acts) (need (Sy.GotL z86 (Sy.MemC.rb (Sy.MemC.mk [] [] 1 (allB z86)))) (hyp z52 (need z53 (hyp True (need (pickY q z54 z55 z87 = pickY q z54 z55 z87 ∧ q.2 z54 (pickY q z54 z55 z87) ∧ q.2 z55 z89 ∧ List.length (pickY q z54 z55 (Blk.mk z56.n z59 true :: Blk.mk z44.n z47 true :: Blk.mk z35.n z38 true :: Blk.mk z22.n z25 true :: Blk.mk z4.n z7 true :: Blk.mk z5.n z80 true :: Blk.mk z8.n z81 true :: Blk.mk z14.n z15 true :: Blk.mk z16.n z90 true :: Blk.mk z1.n z2 true :: Blk.mk z0.n z15 true :: z60.append z61)) ≤ 1000000000) (need (Sy.GotL z87 ((q.1 z54 z89).append (q.1 z55 z89))) (hyp True (need z64 (hyp True (need (pickY q z65 z66 z92 = pickY q z65 z66 z92 ∧ q.2 z65 (pickY q z65 z66 (Blk.mk z56.n z59 true :: Blk.mk z44.n z47 true :: Blk.mk z35.n z38 true :: Blk.mk z22.n z25 true :: Blk.mk z4.n z77 true :: Blk.mk z5.n z90 true :: Blk.mk z8.n z81 true :: Blk.mk z14.n z15 true :: Blk.mk z16.n z91 true :: Blk.mk z1.n z2 true :: Blk.mk z0.n z15 true :: z60.append z61)) ∧ q.2 z66 z94 ∧ List.length (pickY q z65 z66 (Blk.mk z56.n z59 true :: Blk.mk z44.n z47 true :: Blk.mk z35.n z38 true :: Blk.mk z22.n z25 true :: Blk.mk z4.n (Sy.Cont.obj (Obj.cells (Array.mk [.int .i64 4096, .slice (some (Addr.mk (Let.n (ns 9)) 0 none)) 1 1]) 24)) true :: Blk.mk z5.n z91 true :: Blk.mk z8.n z81 true ::
 Blk.mk z14.n z15 true :: Blk.mk z16.n z91 true :: Blk.mk (Let.n z1) z2 true :: Blk.mk (Let.n z0) z15 true :: z60.append z61)) ≤ 1000000000) (need (Sy.GotL (Blk.mk z56.n z59 true :: Blk.mk z44.n z47 true :: Blk.mk z35.n z38 true :: Blk.mk z22.n z25 true :: Blk.mk z4.n z7 true :: Blk.mk z5.n z80 true :: Blk.mk z8.n z81 true :: Blk.mk z14.n z15 true :: Blk.mk z16.n z93 true :: Blk.mk z1.n z2 true :: Blk.mk z0.n z15 true :: z60.append z61) ((q.1 z65 z94).append (q.1 z66 z94))) (hyp True (leaf (Value.bool true, Blk.mk z56.n z59 true :: Blk.mk z44.n z47 true :: Blk.mk z35.n z38 true :: Blk.mk z22.n z25 true :: Blk.mk z4.n z77 true :: Blk.mk z5.n z90 true :: Blk.mk z8.n z81 true :: Blk.mk z14.n z15 true :: Blk.mk z16.n z91 true :: Blk.mk z1.n z2 true :: Blk.mk z0.n z15 true :: z60.append z61))))))))))))))))))))))))))))))))))))
theorem gl_run (q : Rw) (B : List (Nat × Sy.Cont)) (a b : ActD) (i e f bi be bf : SlP) (n : Int) (acts : List ActD) : Sy.Ran (Sy.inB Tryz.prog (ctxGL q a i e f n acts) 50 fGL #[actV a i.v e.v f.v, actV b bi.v be.v bf.v, .int .i64 n] (rdOf B)) gl_o (gl_R q B a b i e f bi be bf n acts) := ⟨fun _ => by kernel_rfl, fun _ => by kernel_rfl⟩
end Go.Proofs.YtlpcnaeknbmjdaaGreat.Gn
namespace Go.Proofs.YtlpcnaeknbmjdaaGreat.Gn
open Go Go.RowKit
open Go.Proofs.YtlpcnaeknbmjdaaGreat.Sy (Let Blk HasL)
open Lw (I)
theorem pickY_spec {q : Rw} {v w : Value} {L : List Blk} (X : List I) (h1 : q.V v X) (h2 : q.V w X) (h3 : X.length ≤ 1000000000) (h4 : Sy.GotL L (q.B v X ++ q.B w X)) :
  (q.V v (pickY q v w L) ∧ q.V w (pickY q v w L) ∧ (pickY q v w L).length ≤ 1000000000) ∧ Sy.GotL L (q.B v (pickY q v w L) ++ q.B w (pickY q v w L)) :=
 Classical.epsilon_spec (p := fun X : List I => (q.V v X ∧ q.V w X ∧ X.length ≤ 1000000000) ∧ Sy.GotL L (q.B v X ++ q.B w X)) ⟨X, ⟨h1, h2, h3⟩, h4⟩
theorem got_allB (L : List Blk) : Sy.GotL L (allB L) := fun p hp => by
 rw [allB_eq] at hp
 obtain ⟨q, hq, rfl⟩ := List.mem_map.1 hp
 exact ⟨q, hq, rfl, fun _ h => h⟩
theorem has_allB {L : List Blk} {q : Blk} (hq : q ∈ L) {o : Nat} {v : Value} (h : q.ct.at o = some v) : HasL (rdOf (allB L)) q.nm o v := by
 rw [allB_eq]
 exact ⟨⟨q.nm, q.ct, false⟩, List.mem_map.2 ⟨(q.nm, q.ct), List.mem_map.2 ⟨q, hq, rfl⟩, rfl⟩, rfl, h⟩
theorem leB_allB {B : List (Nat × Sy.Cont)} {L : List Blk} (h : ∀ q ∈ rdOf B, q ∈ L) : LeB B (allB L) := fun _ _ _ ⟨q, hq, hn, hv⟩ => by
 subst hn
 exact has_allB (h q hq) hv
theorem M {x y : Blk} {l : List Blk} (h : x ∈ l) : x ∈ y :: l := Sy.mC _ h
def longA (a b : ActD) (N : Nat) : List ActD := List.replicate N a ++ [⟨b.op, b.dst, b.base, b.size, b.ix, b.e, b.f, b.mode, b.to, 7, 8⟩]
theorem longA_len (a b : ActD) (N : Nat) : (longA a b N).length = N + 1 := by simp [longA]
theorem repX_len {cs : List Value} (h : cs.length = 11) : ∀ N, (repX cs N).length = N * 11
 | 0 => rfl
 | N + 1 => by simp only [repX, List.length_append, repX_len h N, h]; omega
theorem repX_get {cs : List Value} (h : cs.length = 11) {j : Nat} (hj : j < 11) : ∀ {N k : Nat}, k < N → (repX cs N)[k * 11 + j]? = cs[j]?
 | 0, k, hk => absurd hk (Nat.not_lt_zero k)
 | N + 1, k, hk => by
   have hl := repX_len h N
   simp only [repX]
   by_cases hkN : k < N
   ·rw [List.getElem?_append_left (by omega)]
    exact repX_get h hj hkN
   ·rw [List.getElem?_append_right (by omega)]
    congr 1
    omega
def Okc (B : List (Nat × Sy.Cont)) (a : ActD) (i e f : SlP) : Prop := OkX B i.v a.ix ∧ OkX B e.v a.e ∧ OkX B f.v a.f
theorem long_at {L : List Blk} {B : List (Nat × Sy.Cont)} {a b : ActD} {i e f bi be bf : SlP} {N m cap g g2 : Nat} {xs : List Value} (hB : ∀ q ∈ rdOf B, q ∈ L) (hr : (⟨g, .row 46 11 m cap xs, true⟩ : Blk) ∈ L)
  (h2 : (⟨g2, .obj (.cells #[.int .i64 24, .slice (some ⟨g, 0, none⟩) m cap] 40 (0, 0)), true⟩ : Blk) ∈ L) (hx : xs = repX (actX a i.v e.v f.v) N ++ [.int .i64 b.op, .int .i64 b.dst, .int .i64 b.base, .int .i64 b.size, bi.v, be.v, bf.v, .int .i64 b.mode, .int .i64 b.to, .int .i64 7, .int .i64 8]) (hm : m = N + 1) (hN : N ≤ 6000)
  (ha : Okc B a i e f) (hb : Okc B b bi be bf) : ThreadsR (allB L) (.slice (some ⟨g2, 0, none⟩) 1 1) [⟨24, longA a b N⟩] ∧ ActsR (allB L) (.slice (some ⟨g, 0, none⟩) m cap) (longA a b N) := by
 have hle := leB_allB hB
 have hA : ActsR (allB L) (.slice (some ⟨g, 0, none⟩) m cap) (longA a b N) := by
  refine ⟨⟨_, _, _, rfl⟩, by rw [longA_len]; exact hm, fun _ => ⟨_, _, rfl⟩, fun k x hk => ?_, by rw [longA_len]; omega⟩
  have hl : (repX (actX a i.v e.v f.v) N).length = N * 11 := repX_len rfl N
  rcases Nat.lt_or_ge k N with hlt | hge
  ·have hxa : x = a := by
    unfold longA at hk
    rw [List.getElem?_append_left (by simpa using hlt)] at hk
    rw [List.getElem?_replicate, if_pos hlt] at hk
    exact (Option.some.inj hk).symm
   subst hxa
   have hc : ∀ (j : Nat) (u : Value), j < 11 → (actX x i.v e.v f.v)[j]? = some u → HasL (rdOf (allB L)) g (0 + k * 11 + j) u := fun j u hj hu => has_allB hr (by
    show xs[0 + k * 11 + j]? = some u
    rw [hx, Nat.zero_add, List.getElem?_append_left (by omega), repX_get rfl hj hlt]
    exact hu)
   exact ⟨i.v, e.v, f.v, hc 0 _ (by omega) rfl, hc 1 _ (by omega) rfl, hc 2 _ (by omega) rfl, hc 3 _ (by omega) rfl, hc 4 _ (by omega) rfl, hc 5 _ (by omega) rfl, hc 6 _ (by omega) rfl, hc 7 _ (by omega) rfl, hc 8 _ (by omega) rfl, hc 9 _ (by omega) rfl, hc 10 _ (by omega) rfl, okX_mono hle ha.1, okX_mono hle ha.2.1, okX_mono hle ha.2.2⟩
  ·have hkN : k = N := by
    have := (List.getElem?_eq_some_iff.1 hk).1
    rw [longA_len] at this
    omega
   subst hkN
   have hxb : x = ⟨b.op, b.dst, b.base, b.size, b.ix, b.e, b.f, b.mode, b.to, 7, 8⟩ := by
    unfold longA at hk
    rw [List.getElem?_append_right (by simp)] at hk
    simpa using hk.symm
   subst hxb
   have hc : ∀ (j : Nat) (u : Value), ([.int .i64 b.op, .int .i64 b.dst, .int .i64 b.base, .int .i64 b.size, bi.v, be.v, bf.v, .int .i64 b.mode, .int .i64 b.to, .int .i64 7, .int .i64 8] : List Value)[j]? = some u → HasL (rdOf (allB L)) g (0 + k * 11 + j) u := fun j u hu => has_allB hr (by
    show xs[0 + k * 11 + j]? = some u
    rw [hx, Nat.zero_add, List.getElem?_append_right (by omega), hl, Nat.add_sub_cancel_left]
    exact hu)
   exact ⟨bi.v, be.v, bf.v, hc 0 _ rfl, hc 1 _ rfl, hc 2 _ rfl, hc 3 _ rfl, hc 4 _ rfl, hc 5 _ rfl, hc 6 _ rfl, hc 7 _ rfl, hc 8 _ rfl, hc 9 _ rfl, hc 10 _ rfl, okX_mono hle hb.1, okX_mono hle hb.2.1, okX_mono hle hb.2.2⟩
 refine ⟨⟨⟨_, _, _, rfl⟩, rfl, fun _ => ⟨_, _, rfl⟩, fun k t hk => ?_, by show 1 < 4398046511104; omega⟩, hA⟩
 have hk0 : k = 0 := by
  have := (List.getElem?_eq_some_iff.1 hk).1
  simp at this
  omega
 subst hk0
 simp only [List.getElem?_cons_zero, Option.some.injEq] at hk
 subst hk
 exact ⟨_, has_allB h2 rfl, has_allB h2 rfl, hA⟩
theorem bad_one {cells th : Int} {l : List ThreadD} {n1 : Let} (h : ¬ goodT cells l th) (h1 : RowV (lv0 [n1]) (resI false l cells th)) :
  (bif Ex.eqQ (resF false l cells th).1 1 && (Ex.eqQ (resF false l cells th).2.1 0 && (Ex.eqQ (resF false l cells th).2.2 0 && true)) then Ex.eqQ (Int.ofNat (Sy.lenS (lv0 [n1]))) 0 else false) = true := by
 have f1 : resF false l cells th = (1, 0, 0) := if_neg h
 have i1 : resI false l cells th = [] := if_neg fun x => h x.1
 rw [f1, h1.len, i1]
 rfl
theorem good_long {a b : ActD} (ha : goodA a) (hb : goodA b) (N : Nat) : goodT3 [⟨24, longA a b N⟩] := fun t ht x hx => by
 rcases List.mem_singleton.1 ht with rfl
 rcases List.mem_append.1 hx with hx | hx
 ·rw [(List.mem_replicate.1 hx).2]
  exact ha
 ·rcases List.mem_singleton.1 hx with rfl
  exact hb
abbrev tlo (v : Value) (X : List I) : List Blk := List.map (fun p : Nat × Sy.Cont => (⟨p.1, p.2, true⟩ : Blk)) (rowB v X)
noncomputable abbrev tl4 (B : List (Nat × Sy.Cont)) (ns : Nat → Let) (acts : List ActD) : List Blk := List.append (List.append (List.append (List.append (rdOf B) (tlo (lv0 [ns 11]) (refR false acts))) (tlo (lv0 [ns 13]) (refR true acts))) (tlo (lv0 [ns 15]) (refR false acts))) (tlo (lv0 [ns 17]) (refR true acts))
def glC (B : List (Nat × Sy.Cont)) (a b : ActD) (i e f bi be bf : SlP) (n : Int) : Sy.CallC := ⟨fGL, #[actV a i.v e.v f.v, actV b bi.v be.v bf.v, .int .i64 n], (Okc B a i e f ∧ Okc B b bi be bf) ∧ goodA a ∧ goodA b, ⟨[], [], 0, B⟩, [Sy.plainO (.bool true)]⟩
theorem glC_met (B : List (Nat × Sy.Cont)) (a b : ActD) (i e f bi be bf : SlP) (n : Int) : Sy.Meets Tryz.prog (glC B a b i e f bi be bf n) := fun hok => by
 obtain ⟨⟨ha, hb⟩, ga, gb⟩ := id hok
 have hS : (ctxGL rowQ a i e f n (longA a b n.toNat)).holds Tryz.prog := Sy.mkS_holds (fun p hp x L => by
  rcases List.mem_cons.1 hp with rfl | hp
  ·exact aw_met
  rcases List.mem_cons.1 hp with rfl | hp
  ·exact thrS_of (thread_met _ _ _ _ _)
  rcases List.mem_cons.1 hp with rfl | hp
  ·exact thrS_of (lseThread_met _ _ _ _ _)
  rcases List.mem_cons.1 hp with rfl | hp
  ·exact rwholeC_met _ _ _ _
  rcases List.mem_cons.1 hp with rfl | hp
  ·exact rthS_met _ _ _ _
  rcases List.mem_cons.1 hp with rfl | hp
  ·exact smC_met _ _ _ _
  rcases List.mem_singleton.1 hp with rfl
  exact faC_met _ _ _ _ _ _) (fun p hp x L => by
  rcases List.mem_singleton.1 hp with rfl
  exact loC_met _ _ _ _ _ _ _ _) (fun _ h => (by cases h))
 refine Sy.meets_ofB hS mixed (L := rdOf B) (Sy.Ent.refl _) (gl_run rowQ B a b i e f bi be bf n (longA a b n.toNat)) (fun _ ns => ?_) hok
 have yes : ∀ L : List Blk, Sy.leafB (glC B a b i e f bi be bf n) (.bool true, L) := fun L => plainB_leaf (v := .bool true) (Sy.mS _) rfl rfl
 have hgT := good_long ga gb n.toNat
 simp only [gl_R, Sy.Res.holds]
 refine ⟨trivial, fun _ => ⟨fun _ => yes _, fun hr => ?_⟩⟩
 have hn : 0 ≤ n ∧ n ≤ 6000 := by
  simp only [Ex.ltQ_eq] at hr
  by_cases h0 : n < 0
  ·rw [dec1 h0] at hr; simp at hr
  ·by_cases h1 : 6000 < n
   ·rw [dec0 h0, dec1 h1] at hr; simp at hr
   ·omega
 refine ⟨hn, fun h0 hc => ?_, fun h0 => ⟨by omega, by omega, fun hc => ?_⟩⟩
 ·subst h0
  refine ⟨okOne_of (long_at (N := (Int.toNat 0)) (fun q hq => (M (M (M (M (M (M (M hq)))))))) (M (M Sy.mH)) (M Sy.mH) rfl rfl (by first | decide | omega) ha hb).1 hgT 4096, got_allB _, fun k1 => ⟨(long_at (N := (Int.toNat 0)) (fun q hq => (M (M (M (M (M (M (M (M (Sy.mL _ hq)))))))))) (M (M (M Sy.mH))) (M (M Sy.mH)) rfl rfl (by first | decide | omega) ha hb).1, got_allB _, fun _ => ⟨fun hw => ?_, fun hw => ?_⟩⟩⟩
  ·have hng : ¬ goodT 4096 [⟨24, longA a b (Int.toNat 0)⟩] 0 := fun h => by
    have := h.1
    rw [whole_same] at this
    rw [this] at hw
    cases hw
   exact plainB_leaf (v := .bool true) (Sy.mS _) rfl (by rw [bad_one hng k1])
  ·have hgood : goodT 4096 [⟨24, longA a b (Int.toNat 0)⟩] 0 := ⟨by rw [whole_same]; simpa using hw, by omega, by show (0 : Int) < 1; omega⟩
   have rt : ∀ {L : List Blk} {av : Value}, ActsR (allB L) av (longA a b (Int.toNat 0)) → OkRT (allB L) av (longA a b (Int.toNat 0)) := fun hA => okRT_of (tv := undef) hgT hgood (t := ⟨24, longA a b (Int.toNat 0)⟩) rfl hA
   obtain ⟨rF, rI⟩ : resF false [⟨24, longA a b (Int.toNat 0)⟩] 4096 0 = refF false (longA a b (Int.toNat 0)) ∧ resI false [⟨24, longA a b (Int.toNat 0)⟩] 4096 0 = refR false (longA a b (Int.toNat 0)) := res_ref hgood false
   obtain ⟨rF', rI'⟩ : resF true [⟨24, longA a b (Int.toNat 0)⟩] 4096 0 = refF true (longA a b (Int.toNat 0)) ∧ resI true [⟨24, longA a b (Int.toNat 0)⟩] 4096 0 = refR true (longA a b (Int.toNat 0)) := res_ref hgood true
   have k1 : RowV (lv0 [ns 11]) (resI false [⟨24, longA a b (Int.toNat 0)⟩] 4096 0) := k1
   refine ⟨okOne_of (long_at (N := (Int.toNat 0)) (fun q hq => (M (M (M (M (M (M (M (M (Sy.mL _ hq)))))))))) (M (M (M Sy.mH))) (M (M Sy.mH)) rfl rfl (by first | decide | omega) ha hb).1 hgT 4096, got_allB _, fun k2 => ⟨⟨24, _, rfl, rt (long_at (N := (Int.toNat 0)) (fun q hq => (M (M (M (M (M (M (M (M (M (Sy.mL _ (Sy.mL _ hq)))))))))))) (M (M (M (M Sy.mH)))) (M (M (M Sy.mH))) rfl rfl (by first | decide | omega) ha hb).2⟩, got_allB _, fun k3 => ⟨⟨24, _, rfl, rt (long_at (N := (Int.toNat 0)) (fun q hq => (M (M (M (M (M (M (M (M (M (M (Sy.mL _ (Sy.mL _ (Sy.mL _ hq)))))))))))))) (M (M (M (M (M Sy.mH))))) (M (M (M (M Sy.mH)))) rfl rfl (by first | decide | omega) ha hb).2⟩, got_allB _, fun k4 => ?_⟩⟩⟩
   have k2 : RowV (lv0 [ns 13]) (resI true [⟨24, longA a b (Int.toNat 0)⟩] 4096 0) := k2
   have k3 : RowV (lv0 [ns 15]) (refR false (longA a b (Int.toNat 0))) := k3
   have k4 : RowV (lv0 [ns 17]) (refR true (longA a b (Int.toNat 0))) := k4
   rw [rI] at k1
   rw [rI'] at k2
   refine ⟨by rw [rF]; exact ⟨rfl, rfl, rfl⟩, fun _ => ?_⟩
   rw [rI, rI', rF, rF']
   have s1 := fun x1 x2 x3 x4 x5 x6 x7 x8 x9 x10 x11 : Blk => pickY_spec (q := rowQ) (v := slV (lv0 [ns 11])) (w := slV (lv0 [ns 15])) (L := x1 :: x2 :: x3 :: x4 :: x5 :: x6 :: x7 :: x8 :: x9 :: x10 :: x11 :: tl4 B ns (longA a b (Int.toNat 0))) (refR false (longA a b (Int.toNat 0))) (rowV_of k1 rfl) (rowV_of k3 rfl) (refR_few _ _)
    (got_two (got_all fun x hx => (M (M (M (M (M (M (M (M (M (M (M (Sy.mL _ (Sy.mL _ (Sy.mL _ (Sy.mR _ hx)))))))))))))))) (got_all fun x hx => (M (M (M (M (M (M (M (M (M (M (M (Sy.mL _ (Sy.mR _ hx)))))))))))))))
   have s2 := fun x1 x2 x3 x4 x5 x6 x7 x8 x9 x10 x11 : Blk => pickY_spec (q := rowQ) (v := slV (lv0 [ns 13])) (w := slV (lv0 [ns 17])) (L := x1 :: x2 :: x3 :: x4 :: x5 :: x6 :: x7 :: x8 :: x9 :: x10 :: x11 :: tl4 B ns (longA a b (Int.toNat 0))) (refR true (longA a b (Int.toNat 0))) (rowV_of k2 rfl) (rowV_of k4 rfl) (refR_few _ _)
    (got_two (got_all fun x hx => (M (M (M (M (M (M (M (M (M (M (M (Sy.mL _ (Sy.mL _ (Sy.mR _ hx))))))))))))))) (got_all fun x hx => (M (M (M (M (M (M (M (M (M (M (M (Sy.mR _ hx))))))))))))))
   exact ⟨⟨trivial, (s1 _ _ _ _ _ _ _ _ _ _ _).1⟩, (s1 _ _ _ _ _ _ _ _ _ _ _).2, fun _ => ⟨⟨rfl, rfl, rfl⟩, fun _ => ⟨⟨trivial, (s2 _ _ _ _ _ _ _ _ _ _ _).1⟩, (s2 _ _ _ _ _ _ _ _ _ _ _).2, fun _ => yes _⟩⟩⟩
 ·refine ⟨okOne_of (long_at (N := n.toNat) (fun q hq => (M (M (M (M (M (M (M hq)))))))) (M (M Sy.mH)) (M Sy.mH) rfl rfl (by first | decide | omega) ha hb).1 hgT 4096, got_allB _, fun k1 => ⟨(long_at (N := n.toNat) (fun q hq => (M (M (M (M (M (M (M (M (Sy.mL _ hq)))))))))) (M (M (M Sy.mH))) (M (M Sy.mH)) rfl rfl (by first | decide | omega) ha hb).1, got_allB _, fun _ => ⟨fun hw => ?_, fun hw => ?_⟩⟩⟩
  ·have hng : ¬ goodT 4096 [⟨24, longA a b n.toNat⟩] 0 := fun h => by
    have := h.1
    rw [whole_same] at this
    rw [this] at hw
    cases hw
   exact plainB_leaf (v := .bool true) (Sy.mS _) rfl (by rw [bad_one hng k1])
  ·have hgood : goodT 4096 [⟨24, longA a b n.toNat⟩] 0 := ⟨by rw [whole_same]; simpa using hw, by omega, by show (0 : Int) < 1; omega⟩
   have rt : ∀ {L : List Blk} {av : Value}, ActsR (allB L) av (longA a b n.toNat) → OkRT (allB L) av (longA a b n.toNat) := fun hA => okRT_of (tv := undef) hgT hgood (t := ⟨24, longA a b n.toNat⟩) rfl hA
   obtain ⟨rF, rI⟩ : resF false [⟨24, longA a b n.toNat⟩] 4096 0 = refF false (longA a b n.toNat) ∧ resI false [⟨24, longA a b n.toNat⟩] 4096 0 = refR false (longA a b n.toNat) := res_ref hgood false
   obtain ⟨rF', rI'⟩ : resF true [⟨24, longA a b n.toNat⟩] 4096 0 = refF true (longA a b n.toNat) ∧ resI true [⟨24, longA a b n.toNat⟩] 4096 0 = refR true (longA a b n.toNat) := res_ref hgood true
   have k1 : RowV (lv0 [ns 11]) (resI false [⟨24, longA a b n.toNat⟩] 4096 0) := k1
   refine ⟨okOne_of (long_at (N := n.toNat) (fun q hq => (M (M (M (M (M (M (M (M (Sy.mL _ hq)))))))))) (M (M (M Sy.mH))) (M (M Sy.mH)) rfl rfl (by first | decide | omega) ha hb).1 hgT 4096, got_allB _, fun k2 => ⟨⟨24, _, rfl, rt (long_at (N := n.toNat) (fun q hq => (M (M (M (M (M (M (M (M (M (Sy.mL _ (Sy.mL _ hq)))))))))))) (M (M (M (M Sy.mH)))) (M (M (M Sy.mH))) rfl rfl (by first | decide | omega) ha hb).2⟩, got_allB _, fun k3 => ⟨⟨24, _, rfl, rt (long_at (N := n.toNat) (fun q hq => (M (M (M (M (M (M (M (M (M (M (Sy.mL _ (Sy.mL _ (Sy.mL _ hq)))))))))))))) (M (M (M (M (M Sy.mH))))) (M (M (M (M Sy.mH)))) rfl rfl (by first | decide | omega) ha hb).2⟩, got_allB _, fun k4 => ?_⟩⟩⟩
   have k2 : RowV (lv0 [ns 13]) (resI true [⟨24, longA a b n.toNat⟩] 4096 0) := k2
   have k3 : RowV (lv0 [ns 15]) (refR false (longA a b n.toNat)) := k3
   have k4 : RowV (lv0 [ns 17]) (refR true (longA a b n.toNat)) := k4
   rw [rI] at k1
   rw [rI'] at k2
   refine ⟨by rw [rF]; exact ⟨rfl, rfl, rfl⟩, fun _ => ?_⟩
   rw [rI, rI', rF, rF']
   have s1 := fun x1 x2 x3 x4 x5 x6 x7 x8 x9 x10 x11 : Blk => pickY_spec (q := rowQ) (v := slV (lv0 [ns 11])) (w := slV (lv0 [ns 15])) (L := x1 :: x2 :: x3 :: x4 :: x5 :: x6 :: x7 :: x8 :: x9 :: x10 :: x11 :: tl4 B ns (longA a b n.toNat)) (refR false (longA a b n.toNat)) (rowV_of k1 rfl) (rowV_of k3 rfl) (refR_few _ _)
    (got_two (got_all fun x hx => (M (M (M (M (M (M (M (M (M (M (M (Sy.mL _ (Sy.mL _ (Sy.mL _ (Sy.mR _ hx)))))))))))))))) (got_all fun x hx => (M (M (M (M (M (M (M (M (M (M (M (Sy.mL _ (Sy.mR _ hx)))))))))))))))
   have s2 := fun x1 x2 x3 x4 x5 x6 x7 x8 x9 x10 x11 : Blk => pickY_spec (q := rowQ) (v := slV (lv0 [ns 13])) (w := slV (lv0 [ns 17])) (L := x1 :: x2 :: x3 :: x4 :: x5 :: x6 :: x7 :: x8 :: x9 :: x10 :: x11 :: tl4 B ns (longA a b n.toNat)) (refR true (longA a b n.toNat)) (rowV_of k2 rfl) (rowV_of k4 rfl) (refR_few _ _)
    (got_two (got_all fun x hx => (M (M (M (M (M (M (M (M (M (M (M (Sy.mL _ (Sy.mL _ (Sy.mR _ hx))))))))))))))) (got_all fun x hx => (M (M (M (M (M (M (M (M (M (M (M (Sy.mR _ hx))))))))))))))
   exact ⟨⟨trivial, (s1 _ _ _ _ _ _ _ _ _ _ _).1⟩, (s1 _ _ _ _ _ _ _ _ _ _ _).2, fun _ => ⟨⟨rfl, rfl, rfl⟩, fun _ => ⟨⟨trivial, (s2 _ _ _ _ _ _ _ _ _ _ _).1⟩, (s2 _ _ _ _ _ _ _ _ _ _ _).2, fun _ => yes _⟩⟩⟩
open Go Go.Joins Go.ChangeShapes Go.WideShapes Go.RowKit Go.Deep
open Go.Proofs.YtlpcnaeknbmjdaaGreat.Sy (Let Blk HasL Cont)
open Lw (goodN goodU)
section
variable {H : Type} {enc : TypeId × Value → H} {w : World} {base : Nat} {spare : Nat → Bool} {held : Bool}
theorem agg_eleven {cs : Array Value} (h : cs.size = 11) : ∃ c0 c1 c2 c3 c4 c5 c6 c7 c8 c9 c10, Value.agg cs = .agg #[c0, c1, c2, c3, c4, c5, c6, c7, c8, c9, c10] := by
 obtain ⟨l⟩ := cs
 match l, h with
 | [c0, c1, c2, c3, c4, c5, c6, c7, c8, c9, c10], _ => exact ⟨c0, c1, c2, c3, c4, c5, c6, c7, c8, c9, c10, rfl⟩
set_option maxRecDepth 100000 in

theorem open_act {v : Value} {d : DataW H} {p : List MemPlace} (hv : ∃ c0 c1 c2 c3 c4 c5 c6 c7 c8 c9 c10, v = .agg #[c0, c1, c2, c3, c4, c5, c6, c7, c8, c9, c10]) (h : DataW.Trod enc Tryz.prog w base spare held 46 v d p) (hw : Small Tryz.prog 46 d) :
  ∃ (a : ActD) (i e f : SlP), v = actV a i.v e.v f.v ∧ Okc (heapB w) a i e f ∧ goodA a := by
 obtain ⟨c0, c1, c2, c3, c4, c5, c6, c7, c8, c9, c10, rfl⟩ := hv
 obtain ⟨n, hn⟩ := h
 obtain ⟨n2, hf⟩ := open_fl (cs := [c0, c1, c2, c3, c4, c5, c6, c7, c8, c9, c10]) Tryz.underlying46 (by kernel_rfl) (by rfl) hn hw
 obtain ⟨y0, h0, -⟩ := hf 0 _ c0 rfl rfl
 obtain ⟨y1, h1, -⟩ := hf 1 _ c1 rfl rfl
 obtain ⟨y2, h2, -⟩ := hf 2 _ c2 rfl rfl
 obtain ⟨y3, h3, -⟩ := hf 3 _ c3 rfl rfl
 obtain ⟨y4, h4, s4⟩ := hf 4 _ c4 rfl rfl
 obtain ⟨y5, h5, s5⟩ := hf 5 _ c5 rfl rfl
 obtain ⟨y6, h6, s6⟩ := hf 6 _ c6 rfl rfl
 obtain ⟨y7, h7, -⟩ := hf 7 _ c7 rfl rfl
 obtain ⟨y8, h8, -⟩ := hf 8 _ c8 rfl rfl
 obtain ⟨y9, h9, -⟩ := hf 9 _ c9 rfl rfl
 obtain ⟨y10, h10, -⟩ := hf 10 _ c10 rfl rfl
 obtain ⟨x0, rfl⟩ := cell_num Tryz.underlying3 h0
 obtain ⟨x1, rfl⟩ := cell_num Tryz.underlying3 h1
 obtain ⟨x2, rfl⟩ := cell_num Tryz.underlying3 h2
 obtain ⟨x3, rfl⟩ := cell_num Tryz.underlying3 h3
 obtain ⟨l4, r4, q4⟩ := open_nodesR h4 s4
 obtain ⟨l5, r5, q5⟩ := open_nodesR h5 s5
 obtain ⟨l6, r6, q6⟩ := open_nodesR h6 s6
 obtain ⟨x7, rfl⟩ := cell_num Tryz.underlying3 h7
 obtain ⟨x8, rfl⟩ := cell_num Tryz.underlying3 h8
 obtain ⟨x9, rfl⟩ := cell_num Tryz.underlying3 h9
 obtain ⟨x10, rfl⟩ := cell_num Tryz.underlying3 h10
 obtain ⟨p4, n4, k4, rfl⟩ := r4.1.sl
 obtain ⟨p5, n5, k5, rfl⟩ := r5.1.sl
 obtain ⟨p6, n6, k6, rfl⟩ := r6.1.sl
 exact ⟨⟨x0, x1, x2, x3, l4, l5, l6, x7, x8, x9, x10⟩, ⟨p4, n4, k4⟩, ⟨p5, n5, k5⟩, ⟨p6, n6, k6⟩, rfl, ⟨r4, r5, r6⟩, q4, q5, q6⟩
end
end Go.Proofs.YtlpcnaeknbmjdaaGreat.Gn
end
