/-
  The reference's parser: what comes next.
-/
import Derived.Test.YtlpcnaeknbmjdaaGreatSyI
import Derived.Test.YtlpcnaeknbmjdaaGreatSyM
import Derived.Test.YtlpcnaeknbmjdaaGreatMix
namespace Go.Proofs.YtlpcnaeknbmjdaaGreat
set_option linter.unusedVariables false
set_option linter.unusedSimpArgs false
open Go Go.RowKit
open Sy (Let Blk)

abbrev fIs : FuncId := 44
abbrev fMust : FuncId := 47
abbrev fToken : FuncId := 46
abbrev fOpen : FuncId := 79
abbrev fBad : FuncId := 45

def stV (g n cap at_ : Nat) (deep code line col : Int) : Value := .agg #[.slice (some ⟨g, 0, none⟩) n cap, .int .i64 (Int.ofNat at_), .int .i64 deep, .int .i64 code, .int .i64 line, .int .i64 col]

def is0_o : Sy.O := (Sy.O.pack 21 0x10000100001084210842100000 (Sy.O.fork (Sy.O.pack 6 0x100020 (Sy.O.fork (Sy.O.pack 9 0x2000000 Sy.O.nil) (Sy.O.pack 6 0x100020 (Sy.O.fork (Sy.O.pack 5 0x20 Sy.O.nil) (Sy.O.pack 3 0x0 Sy.O.nil))))) (Sy.O.pack 8 0x0 Sy.O.nil)))
noncomputable def is0_R (g : Nat) (n : Nat) (cap : Nat) (at_ : Nat) (deep : Int) (code : Int) (line : Int) (col : Int) (text : ByteArray) (xs : List Value) (ns : Nat → Sy.Let) : Sy.Res (Value × List Blk) := Sy.Res.need ((0 : Int) ≤ Int.ofNat at_ ∧ Int.ofNat at_ < (↑n : Int))
 (Sy.Res.need
 (∃ (i : Int),
 Sy.Cont.at (Sy.Cont.seg (0 : Nat) xs) ((0 : Nat) + Int.toNat (Int.ofNat at_) * (5 : Nat)) =
 some (Value.int IntKind.i64 i))
 (Sy.Res.hyp
 (Sy.Cont.at (Sy.Cont.seg (0 : Nat) xs) ((0 : Nat) + Int.toNat (Int.ofNat at_) * (5 : Nat)) =
 some (Value.int IntKind.i64 (Let.i (ns (1 : Nat)))))
 (Sy.Res.need
 (∃ (s : ByteArray),
 Sy.Cont.at (Sy.Cont.seg (0 : Nat) xs) ((0 : Nat) + Int.toNat (Int.ofNat at_) * (5 : Nat) + (1 : Nat)) =
 some (Value.string s))
 (Sy.Res.hyp
 (Sy.Cont.at (Sy.Cont.seg (0 : Nat) xs) ((0 : Nat) + Int.toNat (Int.ofNat at_) * (5 : Nat) + (1 : Nat)) =
 some (Value.string (Sy.strV (Let.v (ns (2 : Nat))))))
 (Sy.Res.need
 (∃ (i : Int),
 Sy.Cont.at (Sy.Cont.seg (0 : Nat) xs)
 ((0 : Nat) + Int.toNat (Int.ofNat at_) * (5 : Nat) + (1 : Nat) + (1 : Nat)) =
 some (Value.int IntKind.u64 i))
 (Sy.Res.hyp
 (Sy.Cont.at (Sy.Cont.seg (0 : Nat) xs)
 ((0 : Nat) + Int.toNat (Int.ofNat at_) * (5 : Nat) + (1 : Nat) + (1 : Nat)) =
 some (Value.int IntKind.u64 (Let.i (ns (3 : Nat)))))
 (Sy.Res.need
 (∃ (i : Int),
 Sy.Cont.at (Sy.Cont.seg (0 : Nat) xs)
 ((0 : Nat) + Int.toNat (Int.ofNat at_) * (5 : Nat) + (1 : Nat) + (1 : Nat) + (1 : Nat)) =
 some (Value.int IntKind.i64 i))
 (Sy.Res.hyp
 (Sy.Cont.at (Sy.Cont.seg (0 : Nat) xs)
 ((0 : Nat) + Int.toNat (Int.ofNat at_) * (5 : Nat) + (1 : Nat) + (1 : Nat) + (1 : Nat)) =
 some (Value.int IntKind.i64 (Let.i (ns (4 : Nat)))))
 (Sy.Res.need
 (∃ (i : Int),
 Sy.Cont.at (Sy.Cont.seg (0 : Nat) xs)
 ((0 : Nat) + Int.toNat (Int.ofNat at_) * (5 : Nat) + (1 : Nat) + (1 : Nat) + (1 : Nat) +
 (1 : Nat)) =
 some (Value.int IntKind.i64 i))
 (Sy.Res.hyp
 (Sy.Cont.at (Sy.Cont.seg (0 : Nat) xs)
 ((0 : Nat) + Int.toNat (Int.ofNat at_) * (5 : Nat) + (1 : Nat) + (1 : Nat) + (1 : Nat) +
 (1 : Nat)) =
 some (Value.int IntKind.i64 (Let.i (ns (5 : Nat)))))
 (Sy.Res.br (!!Ex.eqQ code (0 : Int))
 (Sy.Res.br (Ex.eqQ (Let.i (ns (1 : Nat))) (3 : Int))
 (Sy.Res.leaf
 (Value.bool (bif true then Sy.eqS (Sy.strV (Let.v (ns (2 : Nat)))) text else false), []))
 (Sy.Res.br
 (bif true then bif false then true else Ex.eqQ (Let.i (ns (1 : Nat))) (4 : Int) else false)
 (Sy.Res.leaf
 (Value.bool (bif true then Sy.eqS (Sy.strV (Let.v (ns (2 : Nat)))) text else false), []))
 (Sy.Res.leaf (Value.bool false, []))))
 (Sy.Res.leaf (Value.bool false, [])))))))))))))
theorem is0_run (g n cap at_ : Nat) (deep code line col : Int) (text : ByteArray) (xs : List Value) : Sy.Ran (Sy.inC Tryz.prog Sy.S0 50 fIs #[stV g n cap at_ deep code line col, .string text] [⟨g, .seg 0 xs, false⟩] Sy.noB) is0_o (is0_R g n cap at_ deep code line col text xs) := ⟨fun ns => by kernel_rfl, fun ns => by kernel_rfl⟩
def bad0_o : Sy.O := (Sy.O.pack 3 0x400 Sy.O.nil)
noncomputable def bad0_R (g : Nat) (n : Nat) (cap : Nat) (at_ : Nat) (deep : Int) (code : Int) (line : Int) (col : Int) (ns : Nat → Sy.Let) : Sy.Res (Value × List Blk) := Sy.Res.leaf (Value.bool !Ex.eqQ code (0 : Int), [])
theorem bad0_run (g n cap at_ : Nat) (deep code line col : Int) : Sy.Ran (Sy.inC Tryz.prog Sy.S0 50 fBad #[stV g n cap at_ deep code line col] [] Sy.noB) bad0_o (bad0_R g n cap at_ deep code line col) := ⟨fun ns => by kernel_rfl, fun ns => by kernel_rfl⟩
def open0_o : Sy.O := (Sy.O.pack 8 0x80000001 (Sy.O.fork (Sy.O.pack 50 0x5014001004000c001800300061000000000108421084c1008020000000402 Sy.O.nil) (Sy.O.pack 17 0x8020008001004000802 Sy.O.nil)))
noncomputable def open0_R (g : Nat) (n : Nat) (cap : Nat) (at_ : Nat) (deep : Int) (line : Int) (col : Int) (xs : List Value) (ns : Nat → Sy.Let) : Sy.Res (Value × List Blk) := Sy.Res.br (Ex.leQ (100 : Int) deep)
 (Sy.Res.need ((0 : Int) ≤ Int.ofNat at_ ∧ Int.ofNat at_ < (↑n : Int))
 (Sy.Res.need
 (∃ (i : Int),
 Sy.Cont.at (Sy.Cont.seg (0 : Nat) xs) ((0 : Nat) + Int.toNat (Int.ofNat at_) * (5 : Nat)) =
 some (Value.int IntKind.i64 i))
 (Sy.Res.hyp
 (Sy.Cont.at (Sy.Cont.seg (0 : Nat) xs) ((0 : Nat) + Int.toNat (Int.ofNat at_) * (5 : Nat)) =
 some (Value.int IntKind.i64 (Let.i (ns (6 : Nat)))))
 (Sy.Res.need
 (∃ (s : ByteArray),
 Sy.Cont.at (Sy.Cont.seg (0 : Nat) xs) ((0 : Nat) + Int.toNat (Int.ofNat at_) * (5 : Nat) + (1 : Nat)) =
 some (Value.string s))
 (Sy.Res.hyp
 (Sy.Cont.at (Sy.Cont.seg (0 : Nat) xs) ((0 : Nat) + Int.toNat (Int.ofNat at_) * (5 : Nat) + (1 : Nat)) =
 some (Value.string (Sy.strV (Let.v (ns (7 : Nat))))))
 (Sy.Res.need
 (∃ (i : Int),
 Sy.Cont.at (Sy.Cont.seg (0 : Nat) xs)
 ((0 : Nat) + Int.toNat (Int.ofNat at_) * (5 : Nat) + (1 : Nat) + (1 : Nat)) =
 some (Value.int IntKind.u64 i))
 (Sy.Res.hyp
 (Sy.Cont.at (Sy.Cont.seg (0 : Nat) xs)
 ((0 : Nat) + Int.toNat (Int.ofNat at_) * (5 : Nat) + (1 : Nat) + (1 : Nat)) =
 some (Value.int IntKind.u64 (Let.i (ns (8 : Nat)))))
 (Sy.Res.need
 (∃ (i : Int),
 Sy.Cont.at (Sy.Cont.seg (0 : Nat) xs)
 ((0 : Nat) + Int.toNat (Int.ofNat at_) * (5 : Nat) + (1 : Nat) + (1 : Nat) + (1 : Nat)) =
 some (Value.int IntKind.i64 i))
 (Sy.Res.hyp
 (Sy.Cont.at (Sy.Cont.seg (0 : Nat) xs)
 ((0 : Nat) + Int.toNat (Int.ofNat at_) * (5 : Nat) + (1 : Nat) + (1 : Nat) + (1 : Nat)) =
 some (Value.int IntKind.i64 (Let.i (ns (9 : Nat)))))
 (Sy.Res.need
 (∃ (i : Int),
 Sy.Cont.at (Sy.Cont.seg (0 : Nat) xs)
 ((0 : Nat) + Int.toNat (Int.ofNat at_) * (5 : Nat) + (1 : Nat) + (1 : Nat) + (1 : Nat) +
 (1 : Nat)) =
 some (Value.int IntKind.i64 i))
 (Sy.Res.hyp
 (Sy.Cont.at (Sy.Cont.seg (0 : Nat) xs)
 ((0 : Nat) + Int.toNat (Int.ofNat at_) * (5 : Nat) + (1 : Nat) + (1 : Nat) + (1 : Nat) +
 (1 : Nat)) =
 some (Value.int IntKind.i64 (Let.i (ns (10 : Nat)))))
 (Sy.Res.leaf
 (Value.agg
 (Array.mk
 [Value.slice (some (Addr.mk g (0 : Nat) none)) n cap,
 Value.int IntKind.i64 (Int.ofNat at_), Value.int IntKind.i64 deep,
 Value.int IntKind.i64 (22 : Int), Value.int IntKind.i64 (Let.i (ns (9 : Nat))),
 Value.int IntKind.i64 (Let.i (ns (10 : Nat)))]),
 [])))))))))))))
 (Sy.Res.leaf
 (Value.agg
 (Array.mk
 [Value.slice (some (Addr.mk g (0 : Nat) none)) n cap,
 Value.int IntKind.i64 (Ex.wrapQ IntKind.i64 (Ex.addQ (Int.ofNat at_) (1 : Int))),
 Value.int IntKind.i64 (Ex.wrapQ IntKind.i64 (Ex.addQ deep (1 : Int))), Value.int IntKind.i64 (0 : Int),
 Value.int IntKind.i64 line, Value.int IntKind.i64 col]),
 []))
theorem open0_run (g n cap at_ : Nat) (deep line col : Int) (xs : List Value) : Sy.Ran (Sy.inC Tryz.prog Sy.S0 50 fOpen #[stV g n cap at_ deep 0 line col] [⟨g, .seg 0 xs, false⟩] Sy.noB) open0_o (open0_R g n cap at_ deep line col xs) := ⟨fun ns => by kernel_rfl, fun ns => by kernel_rfl⟩
def tok0_o : Sy.O := (Sy.O.pack 24 0x80010848000400180001800000002 (Sy.O.fork (Sy.O.pack 55 0xa0300a0018001004000c001800300061000000000108421084e1008020000000403 Sy.O.nil) (Sy.O.pack 48 0x80301020100c0204030180108000010200100400001084210848100c03 Sy.O.nil)))
noncomputable def tok0_R (g : Nat) (n : Nat) (cap : Nat) (at_ : Nat) (deep : Int) (line : Int) (col : Int) (kind : Int) (xs : List Value) (ns : Nat → Sy.Let) : Sy.Res (Value × List Blk) := Sy.Res.need ((0 : Int) ≤ Int.ofNat at_ ∧ Int.ofNat at_ < (↑n : Int))
 (Sy.Res.need
 (∃ (i : Int),
 Sy.Cont.at (Sy.Cont.seg (0 : Nat) xs) (Nat.add ((0 : Nat) + Int.toNat (Int.ofNat at_) * (5 : Nat)) (0 : Nat)) =
 some (Value.int IntKind.i64 i))
 (Sy.Res.hyp
 (Sy.Cont.at (Sy.Cont.seg (0 : Nat) xs) (Nat.add ((0 : Nat) + Int.toNat (Int.ofNat at_) * (5 : Nat)) (0 : Nat)) =
 some (Value.int IntKind.i64 (Let.i (ns (4 : Nat)))))
 (Sy.Res.br (bif false then true else !Ex.eqQ (Let.i (ns (4 : Nat))) kind)
 (Sy.Res.need ((0 : Int) ≤ Int.ofNat at_ ∧ Int.ofNat at_ < (↑n : Int))
 (Sy.Res.need
 (∃ (i : Int),
 Sy.Cont.at (Sy.Cont.seg (0 : Nat) xs) ((0 : Nat) + Int.toNat (Int.ofNat at_) * (5 : Nat)) =
 some (Value.int IntKind.i64 i))
 (Sy.Res.hyp
 (Sy.Cont.at (Sy.Cont.seg (0 : Nat) xs) ((0 : Nat) + Int.toNat (Int.ofNat at_) * (5 : Nat)) =
 some (Value.int IntKind.i64 (Let.i (ns (8 : Nat)))))
 (Sy.Res.need
 (∃ (s : ByteArray),
 Sy.Cont.at (Sy.Cont.seg (0 : Nat) xs)
 ((0 : Nat) + Int.toNat (Int.ofNat at_) * (5 : Nat) + (1 : Nat)) =
 some (Value.string s))
 (Sy.Res.hyp
 (Sy.Cont.at (Sy.Cont.seg (0 : Nat) xs)
 ((0 : Nat) + Int.toNat (Int.ofNat at_) * (5 : Nat) + (1 : Nat)) =
 some (Value.string (Sy.strV (Let.v (ns (9 : Nat))))))
 (Sy.Res.need
 (∃ (i : Int),
 Sy.Cont.at (Sy.Cont.seg (0 : Nat) xs)
 ((0 : Nat) + Int.toNat (Int.ofNat at_) * (5 : Nat) + (1 : Nat) + (1 : Nat)) =
 some (Value.int IntKind.u64 i))
 (Sy.Res.hyp
 (Sy.Cont.at (Sy.Cont.seg (0 : Nat) xs)
 ((0 : Nat) + Int.toNat (Int.ofNat at_) * (5 : Nat) + (1 : Nat) + (1 : Nat)) =
 some (Value.int IntKind.u64 (Let.i (ns (10 : Nat)))))
 (Sy.Res.need
 (∃ (i : Int),
 Sy.Cont.at (Sy.Cont.seg (0 : Nat) xs)
 ((0 : Nat) + Int.toNat (Int.ofNat at_) * (5 : Nat) + (1 : Nat) + (1 : Nat) + (1 : Nat)) =
 some (Value.int IntKind.i64 i))
 (Sy.Res.hyp
 (Sy.Cont.at (Sy.Cont.seg (0 : Nat) xs)
 ((0 : Nat) + Int.toNat (Int.ofNat at_) * (5 : Nat) + (1 : Nat) + (1 : Nat) + (1 : Nat)) =
 some (Value.int IntKind.i64 (Let.i (ns (11 : Nat)))))
 (Sy.Res.need
 (∃ (i : Int),
 Sy.Cont.at (Sy.Cont.seg (0 : Nat) xs)
 ((0 : Nat) + Int.toNat (Int.ofNat at_) * (5 : Nat) + (1 : Nat) + (1 : Nat) +
 (1 : Nat) +
 (1 : Nat)) =
 some (Value.int IntKind.i64 i))
 (Sy.Res.hyp
 (Sy.Cont.at (Sy.Cont.seg (0 : Nat) xs)
 ((0 : Nat) + Int.toNat (Int.ofNat at_) * (5 : Nat) + (1 : Nat) + (1 : Nat) +
 (1 : Nat) +
 (1 : Nat)) =
 some (Value.int IntKind.i64 (Let.i (ns (12 : Nat)))))
 (Sy.Res.leaf
 (Value.tuple
 (Array.mk
 [Value.agg
 (Array.mk
 [Value.slice (some (Addr.mk g (0 : Nat) none)) n cap,
 Value.int IntKind.i64 (Int.ofNat at_), Value.int IntKind.i64 deep,
 Value.int IntKind.i64 (21 : Int),
 Value.int IntKind.i64 (Let.i (ns (11 : Nat))),
 Value.int IntKind.i64 (Let.i (ns (12 : Nat)))]),
 Value.agg
 (Array.mk
 [Value.int IntKind.i64 (0 : Int), Value.string (ByteArray.mk (Array.mk [])),
 Value.int IntKind.u64 (0 : Int), Value.int IntKind.i64 (0 : Int),
 Value.int IntKind.i64 (0 : Int)])]),
 [])))))))))))))
 (Sy.Res.need ((0 : Int) ≤ Int.ofNat at_ ∧ Int.ofNat at_ < (↑n : Int))
 (Sy.Res.need
 (∃ (i : Int),
 Sy.Cont.at (Sy.Cont.seg (0 : Nat) xs) ((0 : Nat) + Int.toNat (Int.ofNat at_) * (5 : Nat)) =
 some (Value.int IntKind.i64 i))
 (Sy.Res.hyp
 (Sy.Cont.at (Sy.Cont.seg (0 : Nat) xs) ((0 : Nat) + Int.toNat (Int.ofNat at_) * (5 : Nat)) =
 some (Value.int IntKind.i64 (Let.i (ns (5 : Nat)))))
 (Sy.Res.need
 (∃ (s : ByteArray),
 Sy.Cont.at (Sy.Cont.seg (0 : Nat) xs)
 ((0 : Nat) + Int.toNat (Int.ofNat at_) * (5 : Nat) + (1 : Nat)) =
 some (Value.string s))
 (Sy.Res.hyp
 (Sy.Cont.at (Sy.Cont.seg (0 : Nat) xs)
 ((0 : Nat) + Int.toNat (Int.ofNat at_) * (5 : Nat) + (1 : Nat)) =
 some (Value.string (Sy.strV (Let.v (ns (6 : Nat))))))
 (Sy.Res.need
 (∃ (i : Int),
 Sy.Cont.at (Sy.Cont.seg (0 : Nat) xs)
 ((0 : Nat) + Int.toNat (Int.ofNat at_) * (5 : Nat) + (1 : Nat) + (1 : Nat)) =
 some (Value.int IntKind.u64 i))
 (Sy.Res.hyp
 (Sy.Cont.at (Sy.Cont.seg (0 : Nat) xs)
 ((0 : Nat) + Int.toNat (Int.ofNat at_) * (5 : Nat) + (1 : Nat) + (1 : Nat)) =
 some (Value.int IntKind.u64 (Let.i (ns (7 : Nat)))))
 (Sy.Res.need
 (∃ (i : Int),
 Sy.Cont.at (Sy.Cont.seg (0 : Nat) xs)
 ((0 : Nat) + Int.toNat (Int.ofNat at_) * (5 : Nat) + (1 : Nat) + (1 : Nat) + (1 : Nat)) =
 some (Value.int IntKind.i64 i))
 (Sy.Res.hyp
 (Sy.Cont.at (Sy.Cont.seg (0 : Nat) xs)
 ((0 : Nat) + Int.toNat (Int.ofNat at_) * (5 : Nat) + (1 : Nat) + (1 : Nat) + (1 : Nat)) =
 some (Value.int IntKind.i64 (Let.i (ns (8 : Nat)))))
 (Sy.Res.need
 (∃ (i : Int),
 Sy.Cont.at (Sy.Cont.seg (0 : Nat) xs)
 ((0 : Nat) + Int.toNat (Int.ofNat at_) * (5 : Nat) + (1 : Nat) + (1 : Nat) +
 (1 : Nat) +
 (1 : Nat)) =
 some (Value.int IntKind.i64 i))
 (Sy.Res.hyp
 (Sy.Cont.at (Sy.Cont.seg (0 : Nat) xs)
 ((0 : Nat) + Int.toNat (Int.ofNat at_) * (5 : Nat) + (1 : Nat) + (1 : Nat) +
 (1 : Nat) +
 (1 : Nat)) =
 some (Value.int IntKind.i64 (Let.i (ns (9 : Nat)))))
 (Sy.Res.leaf
 (Value.tuple
 (Array.mk
 [Value.agg
 (Array.mk
 [Value.slice (some (Addr.mk g (0 : Nat) none)) n cap,
 Value.int IntKind.i64
 (Ex.wrapQ IntKind.i64 (Ex.addQ (Int.ofNat at_) (1 : Int))),
 Value.int IntKind.i64 deep, Value.int IntKind.i64 (0 : Int),
 Value.int IntKind.i64 line, Value.int IntKind.i64 col]),
 Value.agg
 (Array.mk
 [Value.int IntKind.i64 (Let.i (ns (5 : Nat))),
 Value.string (Sy.strV (Let.v (ns (6 : Nat)))),
 Value.int IntKind.u64 (Let.i (ns (7 : Nat))),
 Value.int IntKind.i64 (Let.i (ns (8 : Nat))),
 Value.int IntKind.i64 (Let.i (ns (9 : Nat)))])]),
 []))))))))))))))))
theorem tok0_run (g n cap at_ : Nat) (deep line col kind : Int) (xs : List Value) : Sy.Ran (Sy.inC Tryz.prog Sy.S0 50 fToken #[stV g n cap at_ deep 0 line col, .int .i64 kind] [⟨g, .seg 0 xs, false⟩] Sy.noB) tok0_o (tok0_R g n cap at_ deep line col kind xs) := ⟨fun ns => by kernel_rfl, fun ns => by kernel_rfl⟩

end Go.Proofs.YtlpcnaeknbmjdaaGreat
