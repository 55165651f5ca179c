/-
  The reference's parser: what comes next. And what follows it.
-/
import Derived.Test.YtbgmkefehfjicaaSyI
import Derived.Test.YtbgmkefehfjicaaSyM
import Derived.Test.YtbgmkefehfjicaaMix
import Derived.Test.YtbgmkefehfjicaaMa

/-
  The reference's parser: what comes next.
-/
namespace Go.Proofs.Ytbgmkefehfjicaa
set_option linter.unusedVariables false
set_option linter.unusedSimpArgs false
open Go Go.RowKit
open Sy (Let Blk)

abbrev fIs : FuncId := 23
abbrev fMust : FuncId := 26
abbrev fToken : FuncId := 25
abbrev fOpen : FuncId := 58
abbrev fBad : FuncId := 24

def stV (g n cap at_ : Nat) (deep code line col : Int) : Value := .agg #[.slice (some ⟨g, 0, none⟩) n cap, .int .i64 (Int.ofNat at_), .int .i64 deep, .int .i64 code, .int .i64 line, .int .i64 col]

def is0_o : Sy.O := (Sy.O.pack 27 0x400000200000108421084200800000000 (Sy.O.fork (Sy.O.pack 7 0x2000400 (Sy.O.fork (Sy.O.pack 10 0x40000000 Sy.O.nil) (Sy.O.pack 7 0x2000400 (Sy.O.fork (Sy.O.pack 6 0x400 Sy.O.nil) (Sy.O.pack 3 0x0 Sy.O.nil))))) (Sy.O.pack 8 0x0 Sy.O.nil)))
noncomputable def is0_R (g : Nat) (n : Nat) (cap : Nat) (at_ : Nat) (deep : Int) (code : Int) (line : Int) (col : Int) (text : ByteArray) (xs : List Value) (ns : Nat → Sy.Let) : Sy.Res (Value × List Blk) := .need ((0 : Int) ≤ Int.ofNat at_ ∧ Int.ofNat at_ < (↑n : Int)) (.need (∃ (i : Int), Sy.Cont.at (.seg (0 : Nat) xs) ((0 : Nat) + Int.toNat (Int.ofNat at_) * (5 : Nat)) = some (.int .i64 i)) (.hyp (Sy.Cont.at (.seg (0 : Nat) xs) ((0 : Nat) + Int.toNat (Int.ofNat at_) * (5 : Nat)) = some (.int .i64 (Let.i (ns 1)))) (.need (∃ (s : ByteArray), Sy.Cont.at (.seg (0 : Nat) xs) ((0 : Nat) + Int.toNat (Int.ofNat at_) * (5 : Nat) + (1 : Nat)) = some (Value.string s)) (.hyp (Sy.Cont.at (.seg (0 : Nat) xs) ((0 : Nat) + Int.toNat (Int.ofNat at_) * (5 : Nat) + (1 : Nat)) = some (Value.string (Sy.strV (Let.v (ns 2))))) (.need (∃ (i : Int), Sy.Cont.at (.seg (0 : Nat) xs) ((0 : Nat) + Int.toNat (Int.ofNat at_) * (5 : Nat) + (1 : Nat) + (1 : Nat)) = some (.int .u64 i)) (.hyp (Sy.Cont.at (.seg (0 : Nat) xs) ((0 : Nat) + Int.toNat (Int.ofNat at_) * (5 : Nat) + (1 : Nat) + (1 : Nat)) = some (.int .u64 (Let.i (ns 3)))) (.need (∃ (i : Int), Sy.Cont.at (.seg (0 : Nat) xs) ((0 : Nat) + Int.toNat (Int.ofNat at_)
 * (5 : Nat) + (1 : Nat) + (1 : Nat) + (1 : Nat)) = some (.int .i64 i)) (.hyp (Sy.Cont.at (.seg (0 : Nat) xs) ((0 : Nat) + Int.toNat (Int.ofNat at_) * (5 : Nat) + (1 : Nat) + (1 : Nat) + (1 : Nat)) = some (.int .i64 (Let.i (ns 4)))) (.need (∃ (i : Int), Sy.Cont.at (.seg (0 : Nat) xs) ((0 : Nat) + Int.toNat (Int.ofNat at_) * (5 : Nat) + (1 : Nat) + (1 : Nat) + (1 : Nat) + (1 : Nat)) = some (.int .i64 i)) (.hyp (Sy.Cont.at (.seg (0 : Nat) xs) ((0 : Nat) + Int.toNat (Int.ofNat at_) * (5 : Nat) + (1 : Nat) + (1 : Nat) + (1 : Nat) + (1 : Nat)) = some (.int .i64 (Let.i (ns 5)))) (.br (!!Ex.eqQ code (0 : Int)) (.br (Ex.eqQ (Let.i (ns 1)) (3 : Int)) (.leaf (Value.bool (bif true then Sy.eqS (Sy.strV (Let.v (ns 2))) text else false), [])) (.br (bif true then bif false then true else Ex.eqQ (Let.i (ns 1)) (4 : Int) else false) (.leaf (Value.bool (bif true then Sy.eqS (Sy.strV (Let.v (ns 2))) text else false), [])) (.leaf (Value.bool false, [])))) (.leaf (Value.bool false, [])))))))))))))

theorem is0_run (g n cap at_ : Nat) (deep code line col : Int) (text : ByteArray) (xs : List Value) : Sy.Ran (Sy.inC Try.prog Sy.S0 50 fIs #[stV g n cap at_ deep code line col, .string text] [⟨g, .seg 0 xs, false⟩] Sy.noB) is0_o (is0_R g n cap at_ deep code line col text xs) := ⟨fun ns => by kernel_rfl, fun ns => by kernel_rfl⟩
def bad0_o : Sy.O := (Sy.O.pack 4 0x8000 Sy.O.nil)
noncomputable def bad0_R (g : Nat) (n : Nat) (cap : Nat) (at_ : Nat) (deep : Int) (code : Int) (line : Int) (col : Int) (ns : Nat → Sy.Let) : Sy.Res (Value × List Blk) := .leaf (Value.bool !Ex.eqQ code (0 : Int), [])

theorem bad0_run (g n cap at_ : Nat) (deep code line col : Int) : Sy.Ran (Sy.inC Try.prog Sy.S0 50 fBad #[stV g n cap at_ deep code line col] [] Sy.noB) bad0_o (bad0_R g n cap at_ deep code line col) := ⟨fun ns => by kernel_rfl, fun ns => by kernel_rfl⟩
def open0_o : Sy.O := (Sy.O.pack 11 0x400000000020 (Sy.O.fork (Sy.O.pack 62 0x5000a00080010003000030006000c20000000000008421084260040010002000000000100040 Sy.O.nil) (Sy.O.pack 21 0x800100040000401000010040 Sy.O.nil)))
noncomputable def open0_R (g : Nat) (n : Nat) (cap : Nat) (at_ : Nat) (deep : Int) (line : Int) (col : Int) (xs : List Value) (ns : Nat → Sy.Let) : Sy.Res (Value × List Blk) := .br (Ex.leQ (100 : Int) deep) (.need ((0 : Int) ≤ Int.ofNat at_ ∧ Int.ofNat at_ < (↑n : Int)) (.need (∃ (i : Int), Sy.Cont.at (.seg (0 : Nat) xs) ((0 : Nat) + Int.toNat (Int.ofNat at_) * (5 : Nat)) = some (.int .i64 i)) (.hyp (Sy.Cont.at (.seg (0 : Nat) xs) ((0 : Nat) + Int.toNat (Int.ofNat at_) * (5 : Nat)) = some (.int .i64 (Let.i (ns 6)))) (.need (∃ (s : ByteArray), Sy.Cont.at (.seg (0 : Nat) xs) ((0 : Nat) + Int.toNat (Int.ofNat at_) * (5 : Nat) + (1 : Nat)) = some (Value.string s)) (.hyp (Sy.Cont.at (.seg (0 : Nat) xs) ((0 : Nat) + Int.toNat (Int.ofNat at_) * (5 : Nat) + (1 : Nat)) = some (Value.string (Sy.strV (Let.v (ns 7))))) (.need (∃ (i : Int), Sy.Cont.at (.seg (0 : Nat) xs) ((0 : Nat) + Int.toNat (Int.ofNat at_) * (5 : Nat) + (1 : Nat) + (1 : Nat)) = some (.int .u64 i)) (.hyp (Sy.Cont.at (.seg (0 : Nat) xs) ((0 : Nat) + Int.toNat (Int.ofNat at_) * (5 : Nat) + (1 : Nat) + (1 : Nat)) = some (.int .u64 (Let.i (ns 8)))) (.need (∃ (i : Int), Sy.Cont.at (.seg (0 : Nat) xs) ((0 :
 Nat) + Int.toNat (Int.ofNat at_) * (5 : Nat) + (1 : Nat) + (1 : Nat) + (1 : Nat)) = some (.int .i64 i)) (.hyp (Sy.Cont.at (.seg (0 : Nat) xs) ((0 : Nat) + Int.toNat (Int.ofNat at_) * (5 : Nat) + (1 : Nat) + (1 : Nat) + (1 : Nat)) = some (.int .i64 (Let.i (ns 9)))) (.need (∃ (i : Int), Sy.Cont.at (.seg (0 : Nat) xs) ((0 : Nat) + Int.toNat (Int.ofNat at_) * (5 : Nat) + (1 : Nat) + (1 : Nat) + (1 : Nat) + (1 : Nat)) = some (.int .i64 i)) (.hyp (Sy.Cont.at (.seg (0 : Nat) xs) ((0 : Nat) + Int.toNat (Int.ofNat at_) * (5 : Nat) + (1 : Nat) + (1 : Nat) + (1 : Nat) + (1 : Nat)) = some (.int .i64 (Let.i (ns 10)))) (.leaf (Value.agg (Array.mk [.slice (some (Addr.mk g 0 none)) n cap, .int .i64 (Int.ofNat at_), .int .i64 deep, .int .i64 (22 : Int), .int .i64 (Let.i (ns 9)), .int .i64 (Let.i (ns 10))]), []))))))))))))) (.leaf (Value.agg (Array.mk [.slice (some (Addr.mk g 0 none)) n cap, .int .i64 (Ex.wrapQ .i64 (Ex.addQ (Int.ofNat at_) (1 : Int))), .int .i64 (Ex.wrapQ .i64 (Ex.addQ deep (1 : Int))),
 .int .i64 (0 : Int), .int .i64 line, .int .i64 col]), []))

theorem open0_run (g n cap at_ : Nat) (deep line col : Int) (xs : List Value) : Sy.Ran (Sy.inC Try.prog Sy.S0 50 fOpen #[stV g n cap at_ deep 0 line col] [⟨g, .seg 0 xs, false⟩] Sy.noB) open0_o (open0_R g n cap at_ deep line col xs) := ⟨fun ns => by kernel_rfl, fun ns => by kernel_rfl⟩
def tok0_o : Sy.O := (Sy.O.pack 30 0x200042120000080001800000c000000000040 (Sy.O.fork (Sy.O.pack 68 0x140030005000c00080010003000030006000c20000000000008421084270040010002000000000100060 Sy.O.nil) (Sy.O.pack 61 0x100030008008040300800806030020080000000400400200800000108421084800800300060 Sy.O.nil)))
noncomputable def tok0_R (g : Nat) (n : Nat) (cap : Nat) (at_ : Nat) (deep : Int) (line : Int) (col : Int) (kind : Int) (xs : List Value) (ns : Nat → Sy.Let) : Sy.Res (Value × List Blk) := .need ((0 : Int) ≤ Int.ofNat at_ ∧ Int.ofNat at_ < (↑n : Int)) (.need (∃ (i : Int), Sy.Cont.at (.seg (0 : Nat) xs) (Nat.add ((0 : Nat) + Int.toNat (Int.ofNat at_) * (5 : Nat)) (0 : Nat)) = some (.int .i64 i)) (.hyp (Sy.Cont.at (.seg (0 : Nat) xs) (Nat.add ((0 : Nat) + Int.toNat (Int.ofNat at_) * (5 : Nat)) (0 : Nat)) = some (.int .i64 (Let.i (ns 4)))) (.br (bif false then true else !Ex.eqQ (Let.i (ns 4)) kind) (.need ((0 : Int) ≤ Int.ofNat at_ ∧ Int.ofNat at_ < (↑n : Int)) (.need (∃ (i : Int), Sy.Cont.at (.seg (0 : Nat) xs) ((0 : Nat) + Int.toNat (Int.ofNat at_) * (5 : Nat)) = some (.int .i64 i)) (.hyp (Sy.Cont.at (.seg (0 : Nat) xs) ((0 : Nat) + Int.toNat (Int.ofNat at_) * (5 : Nat)) = some (.int .i64 (Let.i (ns 8)))) (.need (∃ (s : ByteArray), Sy.Cont.at (.seg (0 : Nat) xs) ((0 : Nat) + Int.toNat (Int.ofNat at_) * (5 : Nat) + (1 : Nat)) = some (Value.string s)) (.hyp (Sy.Cont.at (.seg (0 : Nat) xs) ((0 : Nat) + Int.toNat (Int.ofNat at_) * (5 : Nat) + (1 : Nat)) = some (Value.string
 (Sy.strV (Let.v (ns 9))))) (.need (∃ (i : Int), Sy.Cont.at (.seg (0 : Nat) xs) ((0 : Nat) + Int.toNat (Int.ofNat at_) * (5 : Nat) + (1 : Nat) + (1 : Nat)) = some (.int .u64 i)) (.hyp (Sy.Cont.at (.seg (0 : Nat) xs) ((0 : Nat) + Int.toNat (Int.ofNat at_) * (5 : Nat) + (1 : Nat) + (1 : Nat)) = some (.int .u64 (Let.i (ns 10)))) (.need (∃ (i : Int), Sy.Cont.at (.seg (0 : Nat) xs) ((0 : Nat) + Int.toNat (Int.ofNat at_) * (5 : Nat) + (1 : Nat) + (1 : Nat) + (1 : Nat)) = some (.int .i64 i)) (.hyp (Sy.Cont.at (.seg (0 : Nat) xs) ((0 : Nat) + Int.toNat (Int.ofNat at_) * (5 : Nat) + (1 : Nat) + (1 : Nat) + (1 : Nat)) = some (.int .i64 (Let.i (ns 11)))) (.need (∃ (i : Int), Sy.Cont.at (.seg (0 : Nat) xs) ((0 : Nat) + Int.toNat (Int.ofNat at_) * (5 : Nat) + (1 : Nat) + (1 : Nat) + (1 : Nat) + (1 : Nat)) = some (.int .i64 i)) (.hyp (Sy.Cont.at (.seg (0 : Nat) xs) ((0 : Nat) + Int.toNat (Int.ofNat at_) * (5 : Nat) + (1 : Nat) + (1 : Nat) + (1 : Nat) + (1 : Nat)) = some (.int .i64 (Let.i (ns 12))))
 (.leaf (Value.tuple (Array.mk [Value.agg (Array.mk [.slice (some (Addr.mk g 0 none)) n cap, .int .i64 (Int.ofNat at_), .int .i64 deep, .int .i64 (21 : Int), .int .i64 (Let.i (ns 11)), .int .i64 (Let.i (ns 12))]), Value.agg (Array.mk [.int .i64 (0 : Int), Value.string (ByteArray.mk (Array.mk [])), .int .u64 (0 : Int), .int .i64 (0 : Int), .int .i64 (0 : Int)])]), []))))))))))))) (.need ((0 : Int) ≤ Int.ofNat at_ ∧ Int.ofNat at_ < (↑n : Int)) (.need (∃ (i : Int), Sy.Cont.at (.seg (0 : Nat) xs) ((0 : Nat) + Int.toNat (Int.ofNat at_) * (5 : Nat)) = some (.int .i64 i)) (.hyp (Sy.Cont.at (.seg (0 : Nat) xs) ((0 : Nat) + Int.toNat (Int.ofNat at_) * (5 : Nat)) = some (.int .i64 (Let.i (ns 5)))) (.need (∃ (s : ByteArray), Sy.Cont.at (.seg (0 : Nat) xs) ((0 : Nat) + Int.toNat (Int.ofNat at_) * (5 : Nat) + (1 : Nat)) = some (Value.string s)) (.hyp (Sy.Cont.at (.seg (0 : Nat) xs) ((0 : Nat) + Int.toNat (Int.ofNat at_) * (5 : Nat) + (1 : Nat)) = some (Value.string (Sy.strV (Let.v (ns 6))))) (.need
 (∃ (i : Int), Sy.Cont.at (.seg (0 : Nat) xs) ((0 : Nat) + Int.toNat (Int.ofNat at_) * (5 : Nat) + (1 : Nat) + (1 : Nat)) = some (.int .u64 i)) (.hyp (Sy.Cont.at (.seg (0 : Nat) xs) ((0 : Nat) + Int.toNat (Int.ofNat at_) * (5 : Nat) + (1 : Nat) + (1 : Nat)) = some (.int .u64 (Let.i (ns 7)))) (.need (∃ (i : Int), Sy.Cont.at (.seg (0 : Nat) xs) ((0 : Nat) + Int.toNat (Int.ofNat at_) * (5 : Nat) + (1 : Nat) + (1 : Nat) + (1 : Nat)) = some (.int .i64 i)) (.hyp (Sy.Cont.at (.seg (0 : Nat) xs) ((0 : Nat) + Int.toNat (Int.ofNat at_) * (5 : Nat) + (1 : Nat) + (1 : Nat) + (1 : Nat)) = some (.int .i64 (Let.i (ns 8)))) (.need (∃ (i : Int), Sy.Cont.at (.seg (0 : Nat) xs) ((0 : Nat) + Int.toNat (Int.ofNat at_) * (5 : Nat) + (1 : Nat) + (1 : Nat) + (1 : Nat) + (1 : Nat)) = some (.int .i64 i)) (.hyp (Sy.Cont.at (.seg (0 : Nat) xs) ((0 : Nat) + Int.toNat (Int.ofNat at_) * (5 : Nat) + (1 : Nat) + (1 : Nat) + (1 : Nat) + (1 : Nat)) = some (.int .i64 (Let.i (ns 9)))) (.leaf (Value.tuple (Array.mk
 [Value.agg (Array.mk [.slice (some (Addr.mk g 0 none)) n cap, .int .i64 (Ex.wrapQ .i64 (Ex.addQ (Int.ofNat at_) (1 : Int))), .int .i64 deep, .int .i64 (0 : Int), .int .i64 line, .int .i64 col]), Value.agg (Array.mk [.int .i64 (Let.i (ns 5)), Value.string (Sy.strV (Let.v (ns 6))), .int .u64 (Let.i (ns 7)), .int .i64 (Let.i (ns 8)), .int .i64 (Let.i (ns 9))])]), []))))))))))))))))

theorem tok0_run (g n cap at_ : Nat) (deep line col kind : Int) (xs : List Value) : Sy.Ran (Sy.inC Try.prog Sy.S0 50 fToken #[stV g n cap at_ deep 0 line col, .int .i64 kind] [⟨g, .seg 0 xs, false⟩] Sy.noB) tok0_o (tok0_R g n cap at_ deep line col kind xs) := ⟨fun ns => by kernel_rfl, fun ns => by kernel_rfl⟩

end Go.Proofs.Ytbgmkefehfjicaa

/-
  The reference's parser: contracts of what comes next.
-/
namespace Go.Proofs.Ytbgmkefehfjicaa
open Go Go.RowKit
open Sy (Let Blk)

/-- A token's cells. -/
structure TokAt (xs : List Value) (a : Nat) (k v ln cl : Int) (tx : ByteArray) : Prop where
  c0 : (Sy.Cont.seg 0 xs).at (0 + Int.toNat (Int.ofNat a) * 5) = some (.int .i64 k)
  c1 : (Sy.Cont.seg 0 xs).at (0 + Int.toNat (Int.ofNat a) * 5 + 1) = some (.string tx)
  c2 : (Sy.Cont.seg 0 xs).at (0 + Int.toNat (Int.ofNat a) * 5 + 1 + 1) = some (.int .u64 v)
  c3 : (Sy.Cont.seg 0 xs).at (0 + Int.toNat (Int.ofNat a) * 5 + 1 + 1 + 1) = some (.int .i64 ln)
  c4 : (Sy.Cont.seg 0 xs).at (0 + Int.toNat (Int.ofNat a) * 5 + 1 + 1 + 1 + 1) = some (.int .i64 cl)

theorem tokAt_of {xs : List Value} {a : Nat} {k v ln cl : Int} {tx : ByteArray} (h : Sy.litN (Sy.dropF (Nat.mul 5 a) xs) 5 = some [.int .i64 k, .string tx, .int .u64 v, .int .i64 ln, .int .i64 cl]) : TokAt xs a k v ln cl tx := by
  obtain ⟨-, h2⟩ := Sy.litN_spec h
  rw [Sy.dropF_eq] at h2
  have key : ∀ j u, [Value.int .i64 k, .string tx, .int .u64 v, .int .i64 ln, .int .i64 cl][j]? = some u → ∀ o, o = 0 + Int.toNat (Int.ofNat a) * 5 + j → (Sy.Cont.seg 0 xs).at o = some u := fun j u hu o ho => by
    have h3 := h2 j u hu
    rw [List.getElem?_drop] at h3
    subst ho
    simp only [Sy.Cont.at]
    rw [if_pos (by omega)]
    rw [← h3]
    congr 1
    have e1 : Nat.mul 5 a = 5 * a := rfl
    have e2 : Int.toNat (Int.ofNat a) = a := rfl
    rw [e1, e2]
    omega
  exact ⟨key 0 _ rfl _ rfl, key 1 _ rfl _ rfl, key 2 _ rfl _ rfl, key 3 _ rfl _ rfl, key 4 _ rfl _ rfl⟩

noncomputable def isF (code k : Int) (tx text : ByteArray) : Bool := match Ex.eqQ code 0 with
  | false => false
  | true => match Ex.eqQ k 3 with
    | true => Sy.eqS tx text
    | false => match Ex.eqQ k 4 with
      | true => Sy.eqS tx text
      | false => false

noncomputable def isC (g n cap a : Nat) (deep code line col : Int) (text : ByteArray) (xs : List Value) (k : Int) (tx : ByteArray) : Sy.CallC :=
  ⟨fIs, #[stV g n cap a deep code line col, .string text], True, ⟨[(g, .seg 0 xs)], [], 0, []⟩, [Sy.plainO (.bool (isF code k tx text))]⟩

theorem isC_met {g n cap a : Nat} {deep code line col : Int} {text : ByteArray} {xs : List Value} {k v ln cl : Int} {tx : ByteArray} (ht : TokAt xs a k v ln cl tx) (hn : a < n) : Sy.Meets Try.prog (isC g n cap a deep code line col text xs k tx) := by
  refine Sy.meets_ofC Sy.S0_holds mixed (is0_run g n cap a deep code line col text xs) fun _ ns => ?_
  simp only [is0_R, Sy.Res.holds, ht.c0, ht.c1, ht.c2, ht.c3, ht.c4]
  refine ⟨⟨by simp, by simpa using hn⟩, ⟨_, rfl⟩, fun h0 => ⟨⟨_, rfl⟩, fun h1 => ⟨⟨_, rfl⟩, fun _ => ⟨⟨_, rfl⟩, fun _ => ⟨⟨_, rfl⟩, fun _ => ?_⟩⟩⟩⟩⟩
  simp only [Option.some.injEq, Value.int.injEq, true_and, Value.string.injEq] at h0 h1
  rw [← h0, ← h1]
  have leaf : ∀ b, b = isF code k tx text → Sy.leafC (isC g n cap a deep code line col text xs k tx) (.bool b, []) := fun b hb => Sy.plainO_leaf (List.mem_singleton_self _) rfl (by rw [hb])
  unfold isF at leaf
  refine ⟨fun h2 => ⟨fun h3 => leaf _ ?_, fun h3 => ⟨fun h4 => leaf _ ?_, fun h4 => leaf _ ?_⟩⟩, fun h2 => leaf _ ?_⟩
  · simp only [Bool.not_not] at h2
    rw [h2, h3]
    rfl
  · simp only [Bool.not_not] at h2
    simp only [cond_true, cond_false] at h4
    rw [h2, h3, h4]
    rfl
  · simp only [Bool.not_not] at h2
    simp only [cond_true, cond_false] at h4
    rw [h2, h3, h4]
  · simp only [Bool.not_not] at h2
    rw [h2]

noncomputable def badC (g n cap a : Nat) (deep code line col : Int) : Sy.CallC :=
  ⟨fBad, #[stV g n cap a deep code line col], True, ⟨[], [], 0, []⟩, [Sy.plainO (.bool (!(Ex.eqQ code 0)))]⟩
theorem badC_met (g n cap a : Nat) (deep code line col : Int) : Sy.Meets Try.prog (badC g n cap a deep code line col) := by
  refine Sy.meets_ofC Sy.S0_holds mixed (bad0_run g n cap a deep code line col) fun _ ns => ?_
  simp only [bad0_R, Sy.Res.holds]
  exact Sy.plainO_leaf (List.mem_singleton_self _) rfl rfl

theorem w_one {a : Nat} (h : a < 1099511627776) : Ex.wrapQ .i64 (Ex.addQ (Int.ofNat a) 1) = Int.ofNat (Nat.succ a) := by
  rw [Ex.wrapQ_eq, Ex.addQ_eq]
  simp [IntKind.wrap, IntKind.signed, IntKind.bits]
  omega

noncomputable def openC (g n cap a d : Nat) (line col : Int) (xs : List Value) : Sy.CallC :=
  ⟨fOpen, #[stV g n cap a (Int.ofNat d) 0 line col], True, ⟨[(g, .seg 0 xs)], [], 0, []⟩, [Sy.plainO (stV g n cap (Nat.succ a) (Int.ofNat (Nat.succ d)) 0 line col)]⟩
theorem openC_met {g n cap a d : Nat} {line col : Int} {xs : List Value} (hd : d < 100) (hn : a < n) (hm : n ≤ 1099511627776) : Sy.Meets Try.prog (openC g n cap a d line col xs) := by
  refine Sy.meets_ofC Sy.S0_holds mixed (open0_run g n cap a (Int.ofNat d) line col xs) fun _ ns => ?_
  simp only [open0_R, Sy.Res.holds]
  refine ⟨fun h => ?_, fun _ => ?_⟩
  · rw [Ex.leQ_eq] at h
    simp at h
    omega
  · rw [w_one (by omega), w_one (by omega)]
    exact Sy.plainO_leaf (List.mem_singleton_self _) rfl rfl

noncomputable def tokV (k v ln cl : Int) (tx : ByteArray) : Value := .agg #[.int .i64 k, .string tx, .int .u64 v, .int .i64 ln, .int .i64 cl]
noncomputable def tokC (g n cap a : Nat) (deep line col kind : Int) (xs : List Value) (k v ln cl : Int) (tx : ByteArray) : Sy.CallC :=
  ⟨fToken, #[stV g n cap a deep 0 line col, .int .i64 kind], True, ⟨[(g, .seg 0 xs)], [], 0, []⟩, [Sy.plainO (.tuple #[stV g n cap (Nat.succ a) deep 0 line col, tokV k v ln cl tx])]⟩
theorem tokC_met {g n cap a : Nat} {deep line col kind : Int} {xs : List Value} {k v ln cl : Int} {tx : ByteArray} (ht : TokAt xs a k v ln cl tx) (hn : a < n) (hm : n ≤ 1099511627776) (hk : Ex.eqQ k kind = true) : Sy.Meets Try.prog (tokC g n cap a deep line col kind xs k v ln cl tx) := by
  refine Sy.meets_ofC Sy.S0_holds mixed (tok0_run g n cap a deep line col kind xs) fun _ ns => ?_
  have c0' : (Sy.Cont.seg 0 xs).at (Nat.add (0 + Int.toNat (Int.ofNat a) * 5) 0) = some (.int .i64 k) := ht.c0
  simp only [tok0_R, Sy.Res.holds, ht.c0, ht.c1, ht.c2, ht.c3, ht.c4, c0']
  refine ⟨⟨by simp, by simpa using hn⟩, ⟨_, rfl⟩, fun h0 => ⟨fun hb => ?_, fun hb => ?_⟩⟩
  · simp only [Option.some.injEq, Value.int.injEq, true_and] at h0
    rw [← h0, hk] at hb
    cases hb
  · refine ⟨⟨by simp, by simpa using hn⟩, ⟨_, rfl⟩, fun h1 => ⟨⟨_, rfl⟩, fun h2 => ⟨⟨_, rfl⟩, fun h3 => ⟨⟨_, rfl⟩, fun h4 => ⟨⟨_, rfl⟩, fun h5 => ?_⟩⟩⟩⟩⟩
    simp only [Option.some.injEq, Value.int.injEq, true_and, Value.string.injEq] at h1 h2 h3 h4 h5
    rw [w_one (by omega), ← h1, ← h2, ← h3, ← h4, ← h5]
    exact Sy.plainO_leaf (List.mem_singleton_self _) rfl rfl

end Go.Proofs.Ytbgmkefehfjicaa

/-
  The reference's parser: over a token; the contracts of closed runs.
-/
namespace Go.Proofs.Ytbgmkefehfjicaa
set_option linter.unusedVariables false
set_option linter.unusedSimpArgs false
open Go Go.RowKit
open Sy (Let Blk)

noncomputable def ctxIs (g n cap a : Nat) (deep code line col : Int) (text : ByteArray) (xs : List Value) (k : Int) (tx : ByteArray) : Sy.Ctx := Sy.mkS [(fIs, fun _ _ => isC g n cap a deep code line col text xs k tx)] [] []
def mu0_o : Sy.O := (Sy.O.pack 9 0x200020 (Sy.O.fork (Sy.O.pack 62 0x5000a00080010003000030006000c20000000000008421084230040010002000000000100040 Sy.O.nil) (Sy.O.pack 15 0x20004001000010040 Sy.O.nil)))
noncomputable def mu0_R (g : Nat) (n : Nat) (cap : Nat) (a : Nat) (deep : Int) (line : Int) (col : Int) (k : Int) (text : ByteArray) (tx : ByteArray) (xs : List Value) (ns : Nat → Sy.Let) : Sy.Res (Value × List Blk) := .need True (.hyp True (.br (!isF (0 : Int) k tx text) (.need ((0 : Int) ≤ Int.ofNat a ∧ Int.ofNat a < (↑n : Int)) (.need (∃ (i : Int), Sy.Cont.at (.seg (0 : Nat) xs) ((0 : Nat) + Int.toNat (Int.ofNat a) * (5 : Nat)) = some (.int .i64 i)) (.hyp (Sy.Cont.at (.seg (0 : Nat) xs) ((0 : Nat) + Int.toNat (Int.ofNat a) * (5 : Nat)) = some (.int .i64 (Let.i (ns 5)))) (.need (∃ (s : ByteArray), Sy.Cont.at (.seg (0 : Nat) xs) ((0 : Nat) + Int.toNat (Int.ofNat a) * (5 : Nat) + (1 : Nat)) = some (Value.string s)) (.hyp (Sy.Cont.at (.seg (0 : Nat) xs) ((0 : Nat) + Int.toNat (Int.ofNat a) * (5 : Nat) + (1 : Nat)) = some (Value.string (Sy.strV (Let.v (ns 6))))) (.need (∃ (i : Int), Sy.Cont.at (.seg (0 : Nat) xs) ((0 : Nat) + Int.toNat (Int.ofNat a) * (5 : Nat) + (1 : Nat) + (1 : Nat)) = some (.int .u64 i)) (.hyp (Sy.Cont.at (.seg (0 : Nat) xs) ((0 : Nat) + Int.toNat (Int.ofNat a) * (5 : Nat) + (1 : Nat) + (1 : Nat)) = some (.int .u64 (Let.i (ns 7)))) (.need (∃ (i : Int), Sy.Cont.at (.seg (0 : Nat) xs)
 ((0 : Nat) + Int.toNat (Int.ofNat a) * (5 : Nat) + (1 : Nat) + (1 : Nat) + (1 : Nat)) = some (.int .i64 i)) (.hyp (Sy.Cont.at (.seg (0 : Nat) xs) ((0 : Nat) + Int.toNat (Int.ofNat a) * (5 : Nat) + (1 : Nat) + (1 : Nat) + (1 : Nat)) = some (.int .i64 (Let.i (ns 8)))) (.need (∃ (i : Int), Sy.Cont.at (.seg (0 : Nat) xs) ((0 : Nat) + Int.toNat (Int.ofNat a) * (5 : Nat) + (1 : Nat) + (1 : Nat) + (1 : Nat) + (1 : Nat)) = some (.int .i64 i)) (.hyp (Sy.Cont.at (.seg (0 : Nat) xs) ((0 : Nat) + Int.toNat (Int.ofNat a) * (5 : Nat) + (1 : Nat) + (1 : Nat) + (1 : Nat) + (1 : Nat)) = some (.int .i64 (Let.i (ns 9)))) (.leaf (Value.agg (Array.mk [.slice (some (Addr.mk g 0 none)) n cap, .int .i64 (Int.ofNat a), .int .i64 deep, .int .i64 (21 : Int), .int .i64 (Let.i (ns 8)), .int .i64 (Let.i (ns 9))]), []))))))))))))) (.leaf (Value.agg (Array.mk [.slice (some (Addr.mk g 0 none)) n cap, .int .i64 (Ex.wrapQ .i64 (Ex.addQ (Int.ofNat a) (1 : Int))), .int .i64 deep, .int .i64 (0 : Int), .int .i64 line, .int
 .i64 col]), []))))

theorem mu0_run (g n cap a : Nat) (deep line col k : Int) (text tx : ByteArray) (xs : List Value) : Sy.Ran (Sy.inC Try.prog (ctxIs g n cap a deep 0 line col text xs k tx) 50 fMust #[stV g n cap a deep 0 line col, .string text] [⟨g, .seg 0 xs, false⟩] Sy.noB) mu0_o (mu0_R g n cap a deep line col k text tx xs) := ⟨fun ns => by kernel_rfl, fun ns => by kernel_rfl⟩

noncomputable def mustC (g n cap a : Nat) (deep line col : Int) (text : ByteArray) (xs : List Value) : Sy.CallC :=
  ⟨fMust, #[stV g n cap a deep 0 line col, .string text], True, ⟨[(g, .seg 0 xs)], [], 0, []⟩, [Sy.plainO (stV g n cap (Nat.succ a) deep 0 line col)]⟩
theorem mustC_met {g n cap a : Nat} {deep line col : Int} {text : ByteArray} {xs : List Value} {k v ln cl : Int} {tx : ByteArray} (ht : TokAt xs a k v ln cl tx) (hn : a < n) (hm : n ≤ 1099511627776) (hk : isF 0 k tx text = true) : Sy.Meets Try.prog (mustC g n cap a deep line col text xs) := by
  refine Sy.meets_ofC (Sy.mkS_holds (fun p hp a L => by
    rcases List.mem_singleton.1 hp with rfl
    exact isC_met ht hn) (fun _ h => (by cases h)) (fun _ h => (by cases h))) mixed (mu0_run g n cap a deep line col k text tx xs) fun _ ns => ?_
  simp only [mu0_R, Sy.Res.holds]
  refine ⟨trivial, fun _ => ⟨fun h => ?_, fun _ => ?_⟩⟩
  · rw [hk] at h
    cases h
  · rw [w_one (by omega)]
    exact Sy.plainO_leaf (List.mem_singleton_self _) rfl rfl

/-! ### For closed runs -/

noncomputable def isK (args : Array Value) (ct : Sy.Cont) : Sy.CallC := match args.toList with
  | [.agg st, .string text] => match st.toList with
    | [.slice (some ⟨g, 0, none⟩) n cap, .int .i64 (.ofNat a), .int .i64 deep, .int .i64 code, .int .i64 line, .int .i64 col] => match Nat.blt a n with
      | true => match Sy.litN (Sy.dropF (Nat.mul 5 a) (segOf ct)) 5 with
        | some [.int .i64 k, .string tx, .int .u64 _, .int .i64 _, .int .i64 _] => isC g n cap a deep code line col text (segOf ct) k tx
        | _ => noC
      | false => noC
    | _ => noC
  | _ => noC

theorem isK_met (args : Array Value) (ct : Sy.Cont) : Sy.Meets Try.prog (isK args ct) := by
  unfold isK
  split
  · split
    · split
      · rename_i hn
        split
        · rename_i hl
          exact isC_met (tokAt_of hl) (by simpa using hn)
        · exact noC_met
      · exact noC_met
    · exact noC_met
  · exact noC_met

noncomputable def mustK (args : Array Value) (ct : Sy.Cont) : Sy.CallC := match args.toList with
  | [.agg st, .string text] => match st.toList with
    | [.slice (some ⟨g, 0, none⟩) n cap, .int .i64 (.ofNat a), .int .i64 deep, .int .i64 code, .int .i64 line, .int .i64 col] => match Nat.blt a n && Nat.ble n 1099511627776 with
      | true => match Sy.litN (Sy.dropF (Nat.mul 5 a) (segOf ct)) 5 with
        | some [.int .i64 k, .string tx, .int .u64 _, .int .i64 _, .int .i64 _] => match isF 0 k tx text with
          | true => mustC g n cap a deep line col text (segOf ct)
          | false => noC
        | _ => noC
      | false => noC
    | _ => noC
  | _ => noC

theorem mustK_met (args : Array Value) (ct : Sy.Cont) : Sy.Meets Try.prog (mustK args ct) := by
  unfold mustK
  split
  · split
    · split
      · rename_i hn
        simp only [Bool.and_eq_true] at hn
        split
        · rename_i hl
          split
          · rename_i hk
            exact mustC_met (tokAt_of hl) (by simpa using hn.1) (Nat.le_of_ble_eq_true hn.2) hk
          · exact noC_met
        · exact noC_met
      · exact noC_met
    · exact noC_met
  · exact noC_met

noncomputable def tokK (args : Array Value) (ct : Sy.Cont) : Sy.CallC := match args.toList with
  | [.agg st, .int .i64 kind] => match st.toList with
    | [.slice (some ⟨g, 0, none⟩) n cap, .int .i64 (.ofNat a), .int .i64 deep, .int .i64 code, .int .i64 line, .int .i64 col] => match Nat.blt a n && Nat.ble n 1099511627776 with
      | true => match Sy.litN (Sy.dropF (Nat.mul 5 a) (segOf ct)) 5 with
        | some [.int .i64 k, .string tx, .int .u64 v, .int .i64 ln, .int .i64 cl] => match Ex.eqQ k kind with
          | true => tokC g n cap a deep line col kind (segOf ct) k v ln cl tx
          | false => noC
        | _ => noC
      | false => noC
    | _ => noC
  | _ => noC

theorem tokK_met (args : Array Value) (ct : Sy.Cont) : Sy.Meets Try.prog (tokK args ct) := by
  unfold tokK
  split
  · split
    · split
      · rename_i hn
        simp only [Bool.and_eq_true] at hn
        split
        · rename_i hl
          split
          · rename_i hk
            exact tokC_met (tokAt_of hl) (by simpa using hn.1) (Nat.le_of_ble_eq_true hn.2) hk
          · exact noC_met
        · exact noC_met
      · exact noC_met
    · exact noC_met
  · exact noC_met

noncomputable def openK (args : Array Value) (ct : Sy.Cont) : Sy.CallC := match args.toList with
  | [.agg st] => match st.toList with
    | [.slice (some ⟨g, 0, none⟩) n cap, .int .i64 (.ofNat a), .int .i64 (.ofNat d), .int .i64 code, .int .i64 line, .int .i64 col] => match Nat.blt a n && (Nat.ble n 1099511627776 && Nat.blt d 100) with
      | true => openC g n cap a d line col (segOf ct)
      | false => noC
    | _ => noC
  | _ => noC

theorem openK_met (args : Array Value) (ct : Sy.Cont) : Sy.Meets Try.prog (openK args ct) := by
  unfold openK
  split
  · split
    · split
      · rename_i hn
        simp only [Bool.and_eq_true] at hn
        exact openC_met (by simpa using hn.2.2) (by simpa using hn.1) (Nat.le_of_ble_eq_true hn.2.1)
      · exact noC_met
    · exact noC_met
  · exact noC_met

noncomputable def badK (args : Array Value) (_ : Sy.Cont) : Sy.CallC := match args.toList with
  | [.agg st] => match st.toList with
    | [.slice (some ⟨g, 0, none⟩) n cap, .int .i64 (.ofNat a), .int .i64 deep, .int .i64 code, .int .i64 line, .int .i64 col] => badC g n cap a deep code line col
    | _ => noC
  | _ => noC

theorem badK_met (args : Array Value) (ct : Sy.Cont) : Sy.Meets Try.prog (badK args ct) := by
  unfold badK
  split
  · split
    · exact badC_met _ _ _ _ _ _ _ _
    · exact noC_met
  · exact noC_met

/-- What is known of the parser. -/
noncomputable def mcRp : List Sy.MC := [⟨fLex, 0, lexK⟩, ⟨fIs, 0, isK⟩, ⟨fMust, 0, mustK⟩, ⟨fToken, 0, tokK⟩, ⟨fOpen, 0, openK⟩, ⟨fBad, 0, badK⟩]
theorem mcRp_met : ∀ x ∈ mcRp, ∀ a ct, Sy.Meets Try.prog (x.k a ct) := fun x hx a ct => by
  simp only [mcRp, List.mem_cons, List.not_mem_nil, or_false] at hx
  rcases hx with rfl | rfl | rfl | rfl | rfl | rfl
  · exact lexK_met a ct
  · exact isK_met a ct
  · exact mustK_met a ct
  · exact tokK_met a ct
  · exact openK_met a ct
  · exact badK_met a ct

end Go.Proofs.Ytbgmkefehfjicaa

/-
  Contexts of the checks' closed runs.
-/
namespace Go.Proofs.Ytbgmkefehfjicaa
set_option linter.unusedVariables false
set_option linter.unusedSimpArgs false
open Go Go.RowKit
open Sy (Let Blk)

abbrev fRefused : FuncId := 8
abbrev fAwake : FuncId := 7
abbrev fKnown : FuncId := 3

/-- Functions that store what they make into what was there. -/
noncomputable def stays (f : FuncId) : Bool := Nat.beq f 89 || Nat.beq f 92 || Nat.beq f 69 || Nat.beq f 39 || Nat.beq f 37 || Nat.beq f 33
noncomputable def ckH : Sy.How := ⟨fun f => !stays f, stays, mcRp⟩
theorem ckH_holds : ckH.holds Try.prog := ⟨mcRp_met⟩

theorem brec_met {a b : Sy.CallC} (t : Bool) (ha : Sy.Meets Try.prog a) (hb : Sy.Meets Try.prog b) : Sy.Meets Try.prog (@Bool.rec (fun _ => Sy.CallC) a b t) := by
  cases t
  · exact ha
  · exact hb

/-- Two texts, one by one. -/
noncomputable def sameL : List UInt8 → List UInt8 → Bool := fun l t => @List.rec UInt8 (fun _ => List UInt8 → Bool) (fun t => @List.rec UInt8 (fun _ => Bool) true (fun _ _ _ => false) t) (fun x _ ih t => @List.rec UInt8 (fun _ => Bool) false (fun y r _ => @Bool.rec (fun _ => Bool) false (ih r) (Nat.beq x.toNat y.toNat)) t) l t

noncomputable def refC (m : Int) (s : ByteArray) (code col : Int) : Sy.CallC := Sy.shutC' fRefused #[.string s, .int .i64 code, .int .i64 col] [maxB m] True (.bool true)
noncomputable def awkC (m : Int) : Sy.CallC := Sy.shutC' fAwake #[] [maxB m] True (.bool true)
def tx0 : ByteArray := bt [115, 104, 97, 114, 101, 100, 32, 120, 59, 32, 115, 104, 97, 114, 101, 100, 32, 121, 44, 32, 120, 59]
def tx1 : ByteArray := bt [115, 104, 97, 114, 101, 100, 32, 97, 91, 51, 93, 59]
def tx2 : ByteArray := bt [115, 104, 97, 114, 101, 100, 32, 97, 91, 48, 93, 59]
def tx3 : ByteArray := bt [115, 104, 97, 114, 101, 100, 32, 97, 91, 50, 48, 52, 56, 93, 59]
def tx4 : ByteArray := bt [116, 104, 114, 101, 97, 100, 32, 123, 32, 108, 101, 116, 32, 120, 32, 61, 32, 120, 59, 32, 125]
def tx5 : ByteArray := bt [115, 104, 97, 114, 101, 100, 32, 120, 59, 32, 116, 104, 114, 101, 97, 100, 32, 123, 32, 108, 101, 116, 32, 120, 32, 61, 32, 49, 59, 32, 125]
def tx6 : ByteArray := bt [115, 104, 97, 114, 101, 100, 32, 120, 59, 32, 116, 104, 114, 101, 97, 100, 32, 123, 32, 108, 101, 116, 32, 114, 32, 61, 32, 108, 111, 97, 100, 40, 120, 44, 32, 114, 101, 108, 41, 59, 32, 125]
def tx7 : ByteArray := bt [115, 104, 97, 114, 101, 100, 32, 120, 59, 32, 116, 104, 114, 101, 97, 100, 32, 123, 32, 115, 116, 111, 114, 101, 40, 120, 44, 32, 49, 44, 32, 97, 99, 113, 41, 59, 32, 125]
def tx8 : ByteArray := bt [115, 104, 97, 114, 101, 100, 32, 97, 91, 50, 93, 59, 32, 116, 104, 114, 101, 97, 100, 32, 123, 32, 108, 101, 116, 32, 114, 32, 61, 32, 108, 111, 97, 100, 40, 97, 44, 32, 115, 99, 41, 59, 32, 125]
def tx9 : ByteArray := bt [115, 104, 97, 114, 101, 100, 32, 120, 59, 32, 116, 104, 114, 101, 97, 100, 32, 123, 32, 112, 114, 105, 110, 116, 40, 120, 41, 59, 32, 125]

end Go.Proofs.Ytbgmkefehfjicaa

/-
  What the program tells of the text of awake (of the checks).
-/
namespace Go.Proofs.Ytbgmkefehfjicaa
set_option linter.unusedVariables false
set_option linter.unusedSimpArgs false
open Go Go.RowKit
open Sy (Let Blk)

abbrev fOf : FuncId := 13
def txA : ByteArray := ⟨#[115, 104, 97, 114, 101, 100, 32, 120, 44, 32, 97, 91, 52, 93, 59, 32, 116, 104, 114, 101, 97, 100, 32, 123, 32, 108, 101, 116, 32, 114, 32, 61, 32, 108, 111, 97, 100, 40, 120, 44, 32, 97, 99, 113, 41, 59, 32, 119, 104, 105, 108, 101, 32, 40, 114, 41, 32, 123, 32, 114, 32, 61, 32, 114, 32, 45, 32, 49, 59, 32, 115, 116, 111, 114, 101, 40, 97, 91, 114, 93, 44, 32, 114, 44, 32, 114, 101, 108, 41, 59, 32, 125, 32, 125]⟩
set_option maxRecDepth 1000000 in
noncomputable def oa_o : Sy.O := (Sy.O.pack 120 0x1000700006000000000000000080040000000063000a0000000000000000010000800000020000000000010000000000000200000100400000000c60004000000000000000000004200000 (Sy.O.pack 120 0xc005800018400080200300000002100010000000400000000000a0000a028000000018c005000000000000000000900020000000800000000000e0000000000001c00000e03800000002 (Sy.O.pack 120 0xb9a00de00101ee001a00818b0040a4804041c00300202900100c4000020a81ac0000000000001a00000000000034006800000000001a00000000000008400340003000000c00000038000 (Sy.O.pack 120 0x280000000528004000000000000000000600000200040008000000000000000400000000002000400000000000100000000420001001e0001e07800075e627b801000000000000017 (Sy.O.pack 120 0x20000000042000302c46004000002102c0100800003e23000010000000003000000000000a0000a0280000800000000000a00000000000000a00000000000000a000000000000140000000 (Sy.O.pack 65 0x128000000021000500000000000000000000010000000318002000000108000c0000c030000200c00 (Sy.O.steps [44] (Sy.O.pack 26 0x30008000c0609401010060040100000 (Sy.O.steps [65] (Sy.O.pack 48 0x100000404000a0000a000000084002800020004000800102000000000a0 (Sy.O.steps [45] (Sy.O.pack 31 0x4a0000012802000005281000808000c4100000 (Sy.O.steps [45] (Sy.O.pack 66 0x8500005014000100000000280050000400000000a001400010012802000000001000808000c4100000 (Sy.O.steps [45] (Sy.O.pack 26 0x200060008062140100c060040100000 (Sy.O.steps [65] (Sy.O.pack 9 0x428004000a0 (Sy.O.steps [40] (Sy.O.pack 38 0x200060008072140100c072140100000000070040200000 (Sy.O.steps [65] (Sy.O.pack 12 0x4001000100040 (Sy.O.steps [33] (Sy.O.pack 56 0x10002800401c460040501c46004000000001c0100800003e230002000c0598a411801 (Sy.O.steps [129] (Sy.O.pack 120 0x50000000000000a00000000000014000000029400200000000000000000030000010002000c0000000008400006000000100030000000000000000000010000800000020 (Sy.O.pack 104 0x100000001000000008020000004000802000000000000000001800000400080000006000400080000000000050000501400004001000010000080000000000005 (Sy.O.steps [42] (Sy.O.pack 26 0x200060008060100100c060040100000 (Sy.O.steps [32] (Sy.O.pack 66 0x2400000000000080000000000000000000000000000000000004000001800300000010001800000060 (Sy.O.steps [39] (Sy.O.pack 26 0x200060008060900100c060040100000 (Sy.O.steps [32] (Sy.O.pack 120 0xa000000014a0010000000000000000001800000800100020000000000000001000000000008001000000000000400000000840004004000101000400000006300040000800000000020 (Sy.O.pack 78 0x4600002000000000600000000000140000000000002800000000000002800000000000002800000000000050000000000 (Sy.O.steps [45] (Sy.O.pack 120 0x20080000010002008000000000000000006000001000200000018001000200080000600000000000200000000000004000000000000080000000108000c0b11801000000840b0040200000 (Sy.O.pack 14 0x4000000040000000 (Sy.O.steps [57] (Sy.O.pack 26 0x200060008060100100c060040100000 (Sy.O.steps [32] (Sy.O.pack 120 0x1004000000800000000000000000b00000100020000002c0010002000800008020000000000044000000000000000000000000000000000004000001800300000010001800000060 (Sy.O.pack 9 0x2000000020 (Sy.O.steps [62] (Sy.O.pack 26 0x200060008060100100c060040100000 (Sy.O.steps [32] (Sy.O.pack 66 0x2400000000000080000000000000000000000000000000000009000001800300000024001800000060 (Sy.O.steps [59] (Sy.O.pack 26 0x200060008060900100c060040100000 (Sy.O.steps [32] (Sy.O.pack 87 0x15000000000000100000000000000000000000000000000000010000007000e0000004000700080000001800200040018000800000020 (Sy.O.steps [58] (Sy.O.pack 26 0x6000e0018062a00101c060040100000 (Sy.O.steps [514] (Sy.O.pack 15 0x18e0000c000000000c0 (Sy.O.steps [52] (Sy.O.pack 26 0x4000a00100631c01014060040100000 (Sy.O.steps [269] (Sy.O.pack 17 0x44000400100598a422001 (Sy.O.steps [47] (Sy.O.pack 38 0x6000e0018072200101c072200100000108070040200000 (Sy.O.steps [519] (Sy.O.pack 120 0x18c0010000000840006000060180001002001400000002940020000000000000000003000001000200100000000008400008000000100040000000000000000000018000800000020 (Sy.O.pack 102 0x400000004000000020080000010002008000000000000000006000001000200000018001000200000000000140000000108002800000000000000000000080 (Sy.O.steps [67] (Sy.O.pack 26 0x200060008060100100c060040100000 (Sy.O.steps [32] (Sy.O.pack 66 0x2400000000000080000000000000000000000000000000000004000001800300000010001800000060 (Sy.O.steps [64] (Sy.O.pack 26 0x200060008060900100c060040100000 (Sy.O.steps [32] (Sy.O.pack 21 0x41000020000000200800000020 (Sy.O.steps [62] (Sy.O.pack 38 0x6000e00180720c0101c0720c010000018c070040200000 (Sy.O.steps [515] (Sy.O.pack 102 0x4000000040000000200800000100020080000000000000000060000010002000000180010002000c0000c000000084003000028005000a00142000000000c0 (Sy.O.steps [64] (Sy.O.pack 26 0x200060008060100100c060040100000 (Sy.O.steps [32] (Sy.O.pack 66 0x2400000000000080000000000000000000000000000000000004000001800300000010001800000060 (Sy.O.steps [61] (Sy.O.pack 26 0x200060008060900100c060040100000 (Sy.O.steps [32] (Sy.O.pack 52 0x1000004090014000140000002100018000480000000000000000003800000020 (Sy.O.steps [65] (Sy.O.pack 31 0x4a0000012802000005281000808000c4100000 (Sy.O.steps [65] (Sy.O.pack 31 0x4a0000012802000000001000808000c4100000 (Sy.O.steps [65] (Sy.O.pack 66 0x8500005014000100000000280050000400000000a001400010012802000000001000808000c4100000 (Sy.O.steps [65] (Sy.O.pack 26 0x200060008062140100c060040100000 (Sy.O.steps [65] (Sy.O.pack 9 0x95000900140 (Sy.O.steps [60] (Sy.O.pack 38 0x70010001c074a801020074a80100000000070040200000 (Sy.O.steps [2115] (Sy.O.pack 9 0x338003000e0 (Sy.O.steps [52] (Sy.O.pack 38 0x5000c00140719c010180719c0100000000070040200000 (Sy.O.steps [263] (Sy.O.pack 79 0x1800300068000681a003400000000000d00000000042000068000000800340000005000000180000000030000800000020 (Sy.O.steps [19555] (Sy.O.pack 16 0x4b4000002048000481a0 (Sy.O.steps [42] (Sy.O.pack 26 0xb0018002c064b401030060040100000 (Sy.O.steps [16511] (Sy.O.pack 79 0x1c00380078000781e003c00000000000f000000000420000780000008003c0000009000000280000000038000800000020 (Sy.O.steps [67555] (Sy.O.pack 74 0x1c003a007000e80180000000000c80190000000000064000000018c00c8000c0000000000000005800b800000000 (Sy.O.steps [1207971826] (Sy.O.pack 120 0x10000000000000000000000000002200000000001000000000008000000a0080000540000000000000000008000000000000000000000000000f0000000000008000800000020 (Sy.O.pack 120 0xc410680202440080006080a314810040b0802100000000000000000000000005b40000838000000000002800000004800000003000000002000000000010000001401000001000000000 (Sy.O.pack 33 0xe03401001805a9204002001c06000a000004 (Sy.O.steps [42] (Sy.O.pack 72 0xf83c0ef37a0641805c1605401002809ca208046009401000002800000000000000000100000000000000000000 (Sy.O.steps [32, 33] (Sy.O.steps [0] (Sy.O.steps [34] (Sy.O.pack 4 0x0 (Sy.O.steps [35] (Sy.O.steps [0] (Sy.O.steps [36] (Sy.O.pack 4 0x400 (Sy.O.steps [42] (Sy.O.pack 65 0x118025000000000000000004000140100000100000000000000000010000000000000000000000000 (Sy.O.steps [38] (Sy.O.steps [0] (Sy.O.steps [39] (Sy.O.pack 120 0x16d000020e400000000000b00000044200000300001000030000018000000001800000001000000000018000000010000000000000200000000c00000001800000400 (Sy.O.pack 71 0x380d004006016a48100080070180028000010031041b008091002000182028c52040102c200840000000 (Sy.O.steps [42] (Sy.O.pack 51 0x7c1e0741c00000d8340c8000060170581500400a027288200100220000000000 (Sy.O.steps [32, 33] (Sy.O.steps [0] (Sy.O.steps [34] (Sy.O.pack 4 0x0 (Sy.O.steps [35] (Sy.O.steps [0] (Sy.O.steps [36] (Sy.O.pack 4 0x400 (Sy.O.steps [42] (Sy.O.pack 23 0x400880000000000000000000000 (Sy.O.steps [38] (Sy.O.steps [0] (Sy.O.steps [39] (Sy.O.pack 84 0x41804000020e800000000002a0000000080000000008000000000000000000000000000000001000000000000000000000000 (Sy.O.steps [38] (Sy.O.pack 54 0x2c0a82800001304a3003c0e00000681805814000009020e0300010800000001 (Sy.O.steps [38] (Sy.O.pack 59 0x3e0f03a00001c06f590602009401000003800000000000000000100000000000000000000 (Sy.O.steps [32] (Sy.O.steps [0] (Sy.O.steps [33] (Sy.O.steps [0] (Sy.O.steps [34] (Sy.O.steps [0] (Sy.O.steps [35] (Sy.O.pack 81 0x101220040003040518a40802058401080000000000000000000000002da000041f0000000000022000000010000140000400 (Sy.O.steps [32] (Sy.O.pack 38 0x1c0680200300b5240800400380c0014000008018820 (Sy.O.steps [42] (Sy.O.pack 72 0xf83c0ef37a0641805c1605401002809ca208046009401000002800000000000000000100000000000000000000 (Sy.O.steps [32, 33] (Sy.O.steps [0] (Sy.O.steps [34] (Sy.O.pack 4 0x0 (Sy.O.steps [35] (Sy.O.steps [0] (Sy.O.steps [36] (Sy.O.pack 4 0x400 (Sy.O.steps [42] (Sy.O.pack 23 0x4600880000000000000000000000 (Sy.O.steps [38] (Sy.O.steps [0] (Sy.O.steps [39] (Sy.O.pack 75 0x3000000000c000000000c0000000080000000000c000000008000000001800000001000000000000400 (Sy.O.steps [34] (Sy.O.pack 12 0x41804000020 (Sy.O.steps [38] (Sy.O.pack 64 0xb02a0a000004c128c00f03800001a0601605000002408380c00042000000000000002000001 (Sy.O.steps [38] (Sy.O.pack 29 0xf83c0e80000701bd6418000220000000000 (Sy.O.steps [32] (Sy.O.pack 4 0x0 (Sy.O.steps [33] (Sy.O.steps [0] (Sy.O.steps [34] (Sy.O.steps [0] (Sy.O.steps [35] (Sy.O.pack 19 0x3600000000000 (Sy.O.steps [36] (Sy.O.pack 12 0x41804000020 (Sy.O.steps [38] (Sy.O.pack 54 0x2c0a82800001304a3003c0e00000681805814000009020e0300010800000001 (Sy.O.steps [38] (Sy.O.pack 59 0x3e0f03a00001c06f590602009401000002800000000000000000100000000000000000000 (Sy.O.steps [32] (Sy.O.steps [0] (Sy.O.steps [33] (Sy.O.steps [0] (Sy.O.steps [34] (Sy.O.steps [0] (Sy.O.steps [35] (Sy.O.pack 22 0x1c000000140000400 (Sy.O.steps [37] (Sy.O.pack 12 0x41804000020 (Sy.O.steps [38] (Sy.O.pack 50 0x2c0a82800001304a3003c0e0340c02c0a0000048107018000840000000 (Sy.O.steps [38] (Sy.O.pack 29 0xf83c0e80000701bd6418000220000000000 (Sy.O.steps [32] (Sy.O.pack 4 0x0 (Sy.O.steps [33] (Sy.O.steps [0] (Sy.O.steps [34] (Sy.O.steps [0] (Sy.O.steps [35] (Sy.O.pack 27 0x400000800002000080002400080000000 (Sy.O.steps [33] (Sy.O.pack 69 0x101220040003040518a40802058401080000000000000000000000002da000041f8000000000024000000 (Sy.O.steps [33] (Sy.O.pack 38 0x1c0680200300b5240800400380c0014000008018820 (Sy.O.steps [42] (Sy.O.pack 51 0x7c1e0741c00000d8340c8000060170581500400a027288200100220000000000 (Sy.O.steps [32, 33] (Sy.O.steps [0] (Sy.O.steps [34] (Sy.O.pack 4 0x0 (Sy.O.steps [35] (Sy.O.steps [0] (Sy.O.steps [36] (Sy.O.pack 4 0x400 (Sy.O.steps [42] (Sy.O.pack 78 0x320000000040000000000010000008000004000140100000300000000000000000010000000000000000000000000 (Sy.O.steps [35] (Sy.O.pack 12 0x41804000020 (Sy.O.steps [38] (Sy.O.pack 54 0x2c0a82800001304a3003c0e00000681805814000009020e0300010800000001 (Sy.O.steps [38] (Sy.O.pack 59 0x3e0f03a00001c06f590602009401000001000000000000000000100000000000000000000 (Sy.O.steps [32] (Sy.O.steps [0] (Sy.O.steps [33] (Sy.O.steps [0] (Sy.O.steps [34] (Sy.O.steps [0] (Sy.O.steps [35] (Sy.O.pack 14 0x23004a00140000400 (Sy.O.steps [38] (Sy.O.steps [0] (Sy.O.steps [39] (Sy.O.pack 80 0x5c000000018000000001800000001000000000018000000010000000000000200000000c00000001800000400 (Sy.O.steps [35] (Sy.O.pack 12 0x41804000020 (Sy.O.steps [38] (Sy.O.pack 54 0x2c0a82800001304a3003c0e00000681805814000009020e0300010800000001 (Sy.O.steps [38] (Sy.O.pack 59 0x3e0f03a00001c06f590602009401000001800000000000000000100000000000000000000 (Sy.O.steps [32] (Sy.O.steps [0] (Sy.O.steps [33] (Sy.O.steps [0] (Sy.O.steps [34] (Sy.O.steps [0] (Sy.O.steps [35] (Sy.O.pack 24 0x80000100000400010000140000400 (Sy.O.steps [33] (Sy.O.pack 12 0x80000100002400 (Sy.O.steps [33] (Sy.O.pack 120 0x6a401020e6004052000018820c046000000000000040000000080000000000400000000800c204600800079023005e941c46004052000018820b8c02000000480000000000050022002400 (Sy.O.pack 120 0x4c66a401020e6004052000018820d04a000000000000040000000080000000000400000000800c304a00800079825005e941c46004052000018820c94040000005000000000802300484 (Sy.O.pack 7 0x8025 (Sy.O.steps [32] (Sy.O.pack 120 0x838801c000000000000000200000e30189000220000000000000000000000000035e000107000062800020c00004190000000000180000016000000000400080900000000c00000600000 (Sy.O.pack 120 0x20004000000000001000000000000001020000040000dca480010006e398000148000062083a00000000000000200000000000000000312140020001e90a0017a507118010148000062 (Sy.O.pack 120 0x4a551801014800006208381380a001c0000400080a0000e00000000400000000040c404e0080007a027005e941c46004052000018820d9c0602d4941c46004052000018820d900600000 (Sy.O.pack 91 0x20000800000008080980000012000c00025a940923004000000000000034281002d008050040418800004000038038400000002808000827 (Sy.O.steps [34] (Sy.O.pack 120 0x10000000000000000000002c00000000404000000000000001000007200c480011000000000000000000000000001af0000838000314000106000020d800000000014000000d00000 (Sy.O.steps [0] (Sy.O.steps [32] (Sy.O.pack 36 0x48960000020000151800080015100000c001000008000 (Sy.O.steps [32] (Sy.O.pack 37 0x10000102d4941c46004052000018820 (Sy.O.steps [33] (Sy.O.pack 46 0xb0800200009008000000300020004010040100401008001000000800 (Sy.O.steps [32] (Sy.O.pack 99 0x30000001500000000c00000001800000010181300000030001800063528130600800001c00000080000d0b0400b40201401010620000100000 (Sy.O.steps [34] (Sy.O.pack 102 0x100000000000000000000036000000004040000000000000010000073c0c480011000000000000000000000000001af0000838000314000106000020 (Sy.O.steps [32] (Sy.O.pack 23 0x4000000000000000000000 (Sy.O.steps [43] (Sy.O.pack 36 0xa0ac0000020000151800080015100000c001000008000 (Sy.O.steps [43] (Sy.O.pack 37 0x10000102d4941c46004052000018820 (Sy.O.steps [33] (Sy.O.pack 10 0x10000 (Sy.O.steps [34] (Sy.O.pack 23 0x4000000000000000000000 (Sy.O.steps [45] (Sy.O.pack 49 0x4000000140000020004020000151800080015100000c001000008000 (Sy.O.steps [33] (Sy.O.pack 9 0x30000018000 (Sy.O.steps [42] (Sy.O.pack 49 0x40000080004050000451860080045100000c001000008000 (Sy.O.steps [129] (Sy.O.pack 38 0x1e0880000000300020004010040100401008001000000800 (Sy.O.steps [38] (Sy.O.pack 23 0x481102d4941c46004052000018820 (Sy.O.steps [38] (Sy.O.pack 70 0x1208002000100100020000080000000000020000000040c98640080007cc32005e941c46004052000018820 (Sy.O.steps [39] (Sy.O.pack 76 0x4000180000001018130000004c00180009b52814c600800002000000090000d0cc400b40201401010620000100000 (Sy.O.steps [138] (Sy.O.pack 19 0x38000001700000 (Sy.O.steps [36] (Sy.O.pack 72 0x98240000000000000001000007440c480011000000000000000000000000001af0000838000314000106000020 (Sy.O.steps [39] (Sy.O.pack 59 0x800000000000000000ca0660080007d033005e941c46004052000018820 (Sy.O.steps [40] (Sy.O.pack 59 0x4000000000000000000000f8000000010000372920004001b8e6000052000018820 (Sy.O.steps [44] (Sy.O.pack 36 0xa8ae0000020000151800080015100000c001000008000 (Sy.O.steps [44] (Sy.O.pack 37 0x10000102d4941c46004052000018820 (Sy.O.steps [33] (Sy.O.pack 4 0x5 (Sy.O.steps [33] (Sy.O.pack 32 0x8000000000000000000001c0000000040 (Sy.O.steps [42] (Sy.O.pack 36 0x98aa0000020000151800080015100000c001000008000 (Sy.O.steps [42] (Sy.O.pack 37 0x10000102d4941c46004052000018820 (Sy.O.steps [33] (Sy.O.pack 47 0x2a1000600026010000000800040000000000010000100c001800000c00 (Sy.O.steps [42] (Sy.O.pack 76 0x40001c000000101c13000000580018000b3528158600800002000000090000d0d8400b40201401010620000100000 (Sy.O.steps [298] (Sy.O.steps [0] (Sy.O.steps [87] (Sy.O.pack 24 0x44200000000000028000000900120 (Sy.O.steps [38] (Sy.O.pack 65 0x78a01300000048001800093528148600800000c00000040000d0c8400b40201401010620000100000 (Sy.O.steps [38] (Sy.O.pack 35 0x4000bd60028090040839800014020100100c4100000 (Sy.O.steps [8818] (Sy.O.steps [0] (Sy.O.steps [159] (Sy.O.pack 77 0x6000d001800340040000024000011271d28004000000000000048c8380325802052507100c0080a4188000041c29cc0 (Sy.O.steps [34941] (Sy.O.pack 12 0x5000a8014002a0 Sy.O.nil))))))))))))))))))))))))))))))))))))))))))))))))))))))))))))))))))))))))))))))))))))))))))))))))))))))))))))))))))))))))))))))))))))))))))))))))))))))))))))))))))))))))))))))))))))))))))))))))))))))))))))))))))))))))))))))))))))))))))))))))))))))))))))))))))))))))))))))))))))))))))))))))))))))))))))))))))))))))))))))))))))))))))))))))))))))))))))))))))
def oa_ps : List Nat := [0, 1, 2, 3, 4, 5]
noncomputable def oa_v (ns : List Sy.Let) : Value := Value.tuple
 (Array.mk
 [Value.agg
 (Array.mk
 [Value.int IntKind.i64 (5 : Int),
 Value.slice (some (Addr.mk (Sy.letN (0 : Nat) ns) (0 : Nat) none)) (1 : Nat) (Sy.letN (1 : Nat) ns)]),
 Value.agg
 (Array.mk [Value.int IntKind.i64 (0 : Int), Value.int IntKind.i64 (0 : Int), Value.int IntKind.i64 (0 : Int)])])
noncomputable def oa_nw (ns : List Sy.Let) : List (Nat × Sy.Cont) := [(Sy.letN 0 ns, Sy.Cont.row (37 : Nat) (2 : Nat) (1 : Nat) (Sy.letN (1 : Nat) ns)
 [Value.int IntKind.i64 (1 : Int),
 Value.slice (some (Addr.mk (Sy.letN (2 : Nat) ns) (0 : Nat) none)) (5 : Nat) (Sy.letN (3 : Nat) ns)]), (Sy.letN 2 ns, Sy.Cont.row (67 : Nat) (11 : Nat) (5 : Nat) (Sy.letN (3 : Nat) ns)
 [Value.int IntKind.i64 (2 : Int), Value.int IntKind.i64 (0 : Int), Value.int IntKind.i64 (0 : Int),
 Value.int IntKind.i64 (0 : Int), Value.slice none (0 : Nat) (0 : Nat), Value.slice none (0 : Nat) (0 : Nat),
 Value.slice none (0 : Nat) (0 : Nat), Value.int IntKind.i64 (2 : Int), Value.int IntKind.i64 (0 : Int),
 Value.int IntKind.i64 (1 : Int), Value.int IntKind.i64 (26 : Int), Value.int IntKind.i64 (10 : Int),
 Value.int IntKind.i64 (0 : Int), Value.int IntKind.i64 (0 : Int), Value.int IntKind.i64 (0 : Int),
 Value.slice none (0 : Nat) (0 : Nat),
 Value.slice (some (Addr.mk (Sy.letN (10 : Nat) ns) (0 : Nat) none)) (1 : Nat) (Sy.letN (11 : Nat) ns),
 Value.slice none (0 : Nat) (0 : Nat), Value.int IntKind.i64 (0 : Int), Value.int IntKind.i64 (5 : Int),
 Value.int IntKind.i64 (1 : Int), Value.int IntKind.i64 (48 : Int), Value.int IntKind.i64 (1 : Int),
 Value.int IntKind.i64 (0 : Int), Value.int IntKind.i64 (0 : Int), Value.int IntKind.i64 (0 : Int),
 Value.slice none (0 : Nat) (0 : Nat),
 Value.slice (some (Addr.mk (Sy.letN (8 : Nat) ns) (0 : Nat) none)) (3 : Nat) (Sy.letN (9 : Nat) ns),
 Value.slice none (0 : Nat) (0 : Nat), Value.int IntKind.i64 (0 : Int), Value.int IntKind.i64 (0 : Int),
 Value.int IntKind.i64 (1 : Int), Value.int IntKind.i64 (60 : Int), Value.int IntKind.i64 (3 : Int),
 Value.int IntKind.i64 (0 : Int), Value.int IntKind.i64 (1 : Int), Value.int IntKind.i64 (4 : Int),
 Value.slice (some (Addr.mk (Sy.letN (6 : Nat) ns) (0 : Nat) none)) (1 : Nat) (Sy.letN (7 : Nat) ns),
 Value.slice (some (Addr.mk (Sy.letN (4 : Nat) ns) (0 : Nat) none)) (1 : Nat) (Sy.letN (5 : Nat) ns),
 Value.slice none (0 : Nat) (0 : Nat), Value.int IntKind.i64 (3 : Int), Value.int IntKind.i64 (0 : Int),
 Value.int IntKind.i64 (1 : Int), Value.int IntKind.i64 (71 : Int), Value.int IntKind.i64 (9 : Int),
 Value.int IntKind.i64 (0 : Int), Value.int IntKind.i64 (0 : Int), Value.int IntKind.i64 (0 : Int),
 Value.slice none (0 : Nat) (0 : Nat), Value.slice none (0 : Nat) (0 : Nat), Value.slice none (0 : Nat) (0 : Nat),
 Value.int IntKind.i64 (0 : Int), Value.int IntKind.i64 (1 : Int), Value.int IntKind.i64 (1 : Int),
 Value.int IntKind.i64 (48 : Int)]), (Sy.letN 4 ns, Sy.Cont.row (114 : Nat) (4 : Nat) (1 : Nat) (Sy.letN (5 : Nat) ns)
 [Value.int IntKind.i64 (2 : Int), Value.int IntKind.u64 (0 : Int), Value.int IntKind.i64 (0 : Int),
 Value.int IntKind.i64 (0 : Int)]), (Sy.letN 6 ns, Sy.Cont.row (114 : Nat) (4 : Nat) (1 : Nat) (Sy.letN (7 : Nat) ns)
 [Value.int IntKind.i64 (2 : Int), Value.int IntKind.u64 (0 : Int), Value.int IntKind.i64 (0 : Int),
 Value.int IntKind.i64 (0 : Int)]), (Sy.letN 8 ns, Sy.Cont.row (114 : Nat) (4 : Nat) (3 : Nat) (Sy.letN (9 : Nat) ns)
 [Value.int IntKind.i64 (2 : Int), Value.int IntKind.u64 (0 : Int), Value.int IntKind.i64 (0 : Int),
 Value.int IntKind.i64 (0 : Int), Value.int IntKind.i64 (1 : Int), Value.int IntKind.u64 (1 : Int),
 Value.int IntKind.i64 (0 : Int), Value.int IntKind.i64 (0 : Int), Value.int IntKind.i64 (8 : Int),
 Value.int IntKind.u64 (0 : Int), Value.int IntKind.i64 (0 : Int), Value.int IntKind.i64 (1 : Int)]), (Sy.letN 10 ns, Sy.Cont.row (114 : Nat) (4 : Nat) (1 : Nat) (Sy.letN (11 : Nat) ns)
 [Value.int IntKind.i64 (2 : Int), Value.int IntKind.u64 (0 : Int), Value.int IntKind.i64 (0 : Int),
 Value.int IntKind.i64 (0 : Int)])]
set_option maxRecDepth 1000000 in
theorem oa_met (m : Int) : Sy.Meets Try.prog (Sy.graphC fOf #[.string txA] [maxB m] (List.length oa_ps) oa_v oa_nw) :=
  Sy.meets_graphJ (ctxM_holds m) ckH_holds mixed (n := 300) oa_ps (by decide) (o := oa_o) (fun ns => by kernel_rfl) (fun ns => by kernel_rfl)

end Go.Proofs.Ytbgmkefehfjicaa

/-
  awake (of the checks).
-/
namespace Go.Proofs.Ytbgmkefehfjicaa
set_option linter.unusedVariables false
set_option linter.unusedSimpArgs false
open Go Go.RowKit
open Sy (Let Blk)

def txB : ByteArray := ⟨#[116, 104, 114, 101, 97, 100, 32, 123, 32, 120, 32, 61, 32, 49, 59, 32, 125]⟩
set_option maxRecDepth 1000000 in
noncomputable def ob_o : Sy.O := (Sy.O.pack 120 0x200001de6220c0100000000000001708c400de00101ee001a00818b0040a4804041c00300202900100c4000020500410000000000000400000000c60004000000000000000000004200000 (Sy.O.pack 120 0xa000000000000140000000000002800000005280040000000000000000006000002000400080000000000000004000000000020004000000000001000000004200010008000080 (Sy.O.pack 120 0xc00000000000400000000000008000000000000100000000210001816230020000010816008040000141180000800000000180000000000050000000000000a00000000000000a000000 (Sy.O.pack 62 0x40000000400000002008000001000000000000000000c0000020004000000300020004001000 (Sy.O.steps [32] (Sy.O.pack 26 0x200060008060100100c060040100000 (Sy.O.steps [32] (Sy.O.pack 93 0x1000300040304800806030020080000742400000000000080000000000000000000000000000000000004000001800300000010001800000060 (Sy.O.steps [32] (Sy.O.pack 42 0x30008000c0629801010060040100000d14c0000a000000000a0 (Sy.O.steps [133] (Sy.O.pack 56 0x14003000501c670040601c67004000002101c0100800002a338003000e0598a419c01 (Sy.O.steps [259] (Sy.O.pack 76 0x1800300070000701c003800000000000e0000000008400007000000100038000000000000000000014000800000020 (Sy.O.steps [291] (Sy.O.pack 74 0xc001a003000680080000000000480090000000000024000000018c0048000400000000000000018003800000000 (Sy.O.steps [18546] (Sy.O.pack 120 0x48100080070180028000010031041200809100200018f028c52040102c2008400000000000000000000000016d000020c000000000000700000000c0000000000000000008000800000020 (Sy.O.pack 15 0x380d004006016a (Sy.O.steps [42] (Sy.O.pack 72 0xf83c0ef37a0641805c1605401002809ca208046009401000009000000000000000000100000000000000000000 (Sy.O.steps [32, 33] (Sy.O.steps [0] (Sy.O.steps [34] (Sy.O.pack 4 0x0 (Sy.O.steps [35] (Sy.O.steps [0] (Sy.O.steps [36] (Sy.O.pack 4 0x400 (Sy.O.steps [42] (Sy.O.pack 23 0x4600880000000000000000000000 (Sy.O.steps [38] (Sy.O.steps [0] (Sy.O.steps [39] (Sy.O.pack 88 0x41804000020a000000000001a00000000c000000000c0000000080000000000c000000008000000001800000001000000000000400 (Sy.O.steps [38] (Sy.O.pack 50 0x2c0a82800001304a3003c0e0340c02c0a0000048107018000840000000 (Sy.O.steps [38] (Sy.O.pack 29 0xf83c0e80000701bd6418000220000000000 (Sy.O.steps [32] (Sy.O.pack 4 0x0 (Sy.O.steps [33] (Sy.O.steps [0] (Sy.O.steps [34] (Sy.O.steps [0] (Sy.O.steps [35] (Sy.O.pack 24 0x80000100000400010000080000000 (Sy.O.steps [34] (Sy.O.pack 120 0x200000e30189000220000000000000000000000000035e000107000062800020c00004130000000000180000016000000000400080900000000c000006000001000000005000a001400 (Sy.O.pack 89 0x100020100000a8c0004000a88000060008000040006000000020000000000000000000003c0000000080800000000000 (Sy.O.steps [33] (Sy.O.pack 120 0x80000040000000000010000000020628290040003d414802f4a0e2300202900000c4105d204016a4a0e2300202900000c4105cc0400000000300020004010040100401008001000000800 (Sy.O.pack 109 0x800030000000203026000000580030000b6a50258c0100000000000000d0a8400b40201401010620000100000c012100040000e0200040800900120024200012000400 (Sy.O.steps [138] (Sy.O.pack 92 0x240050009024c0081404800020c41054c000406000002c9c431401000000000000012194800c9600814941c4030020290620000104c4418160 (Sy.O.steps [4352] (Sy.O.pack 12 0x20004800800120 Sy.O.nil)))))))))))))))))))))))))))))))))))))))))))))))))))))))))
def ob_ps : List Nat := []
noncomputable def ob_v (ns : List Sy.Let) : Value := Value.tuple
 (Array.mk
 [Value.agg (Array.mk [Value.int IntKind.i64 (0 : Int), Value.slice none (0 : Nat) (0 : Nat)]),
 Value.agg
 (Array.mk
 [Value.int IntKind.i64 (23 : Int), Value.int IntKind.i64 (1 : Int), Value.int IntKind.i64 (10 : Int)])])
noncomputable def ob_nw (ns : List Sy.Let) : List (Nat × Sy.Cont) := []
set_option maxRecDepth 1000000 in
theorem ob_met (m : Int) : Sy.Meets Try.prog (Sy.graphC fOf #[.string txB] [maxB m] (List.length ob_ps) ob_v ob_nw) :=
  Sy.meets_graphJ (ctxM_holds m) ckH_holds mixed (n := 300) ob_ps (by decide) (o := ob_o) (fun ns => by kernel_rfl) (fun ns => by kernel_rfl)

end Go.Proofs.Ytbgmkefehfjicaa

/-
  awake (of the checks).
-/
namespace Go.Proofs.Ytbgmkefehfjicaa
set_option linter.unusedVariables false
set_option linter.unusedSimpArgs false
open Go Go.RowKit
open Sy (Let Blk)

noncomputable def ofK (m : Int) (args : Array Value) : Sy.CallC := match args.toList with
  | [.string s] => @Bool.rec (fun _ => Sy.CallC) (@Bool.rec (fun _ => Sy.CallC) noC (Sy.graphC fOf #[.string txB] [maxB m] (List.length ob_ps) ob_v ob_nw) (sameL s.data.toList txB.data.toList)) (Sy.graphC fOf #[.string txA] [maxB m] (List.length oa_ps) oa_v oa_nw) (sameL s.data.toList txA.data.toList)
  | _ => noC

theorem ofK_met (m : Int) (args : Array Value) : Sy.Meets Try.prog (ofK m args) := by
  unfold ofK
  split
  · exact brec_met _ (brec_met _ noC_met (ob_met m)) (oa_met m)
  · exact noC_met

noncomputable def ctxAw (m : Int) : Sy.Ctx := Sy.mkS [(fOf, fun a _ => ofK m a), (fContains, fun a _ => conK m a)] [] []
theorem ctxAw_holds (m : Int) : (ctxAw m).holds Try.prog := Sy.mkS_holds (fun p hp a L => by
  rcases List.mem_cons.1 hp with rfl | hp
  · exact ofK_met m a
  rcases List.mem_singleton.1 hp with rfl
  exact conK_met m a) (fun _ h => (by cases h)) (fun _ h => (by cases h))

set_option maxRecDepth 1000000 in
noncomputable def aw_o : Sy.O := (Sy.O.pack 120 0xc0000000008000000000400000001800000000100000000008000000000080000000004000000010000000000800000000000010000000000004000000000000000010040000000 (Sy.O.pack 120 0x1000000002000200080000000000a0000000000000000000000000000000000000000000000180000000000000000000000000000000000000000000080000006000000000400000000020 (Sy.O.pack 120 0x10000000020000000000100000000200002000002000030000000000000000000000001000001800000003000000000000800000000080000400000000000100000100000080000000 (Sy.O.pack 120 0xc000000000c0000000000000000000004000000000000020000000800000000000200000000000000000800000000004000000000000 (Sy.O.pack 120 0xc0000000000000000000000000400000000040000200040100401004010004000002000000004000000008001000300000000003000000200000001800000000 (Sy.O.pack 120 0x4e510020003c000000e001ac580005250001c0030000000a00106200001048000000078000000000800000c00000000000300000000030000000000000600000000003000000000300000 (Sy.O.pack 120 0x44000000000100400000000000000000000008800000000000000000000000000007340c0000b5240040007000c000000280041804000020900000000000400 (Sy.O.pack 120 0x800000c0000000180000000000040000000004000020004010040100401000400000200000000400000000800180040000000000380000020000000000000000000001000001800000003 (Sy.O.pack 120 0x40007000c00000028004188000041300000001e0000000002000003000000000000c000000000c000000000000180000000000c000000000c0000000000000000000000000000000000000 (Sy.O.pack 120 0x580005250001c0030000000a0010620000105000000008000000000001cd0300002d490010001c0030000000a0010601000008260000000000100013944008000f00000038006b16000149 (Sy.O.pack 120 0x100000080009ca200400078000001c00358b0000a4a00038006000000140020c4000020a800000011000000000001cc02800020c0200001050000000004e510020003c000000e001ac (Sy.O.pack 120 0x180001800000000000000001500000000000000000000a000000000000000000004c00000000000000000000000000000000000000000000000000000000000000000000000000000 (Sy.O.pack 120 0x10004000a000000000080000004000000030000000000000000000000000000000000002200000000002018000000000000000c000000000000000600000000003000030000000000 (Sy.O.pack 120 0x8000000010000000000080000000100001000001000018000000000000300000000000000000000000001000000000100000800000000000200002000800000400000000800 (Sy.O.pack 120 0x9ca200400078000001c00358b0000a4a00038006000000140020c4000020b00000001100000000000800000001000000000100400000000000100000000000000000400000000002000000 (Sy.O.pack 120 0x4008800000000020080000000000000000000001300000000000000000000000000000e681800016a48008000e00180000005000830080000416000000000008000 (Sy.O.pack 120 0x30000000a0010601000008280000000000100013944008000f00000038006b1600014940007000c00000028004188000041400000001c0000000002000003000000000000c000000000c00 (Sy.O.pack 120 0x1200000080000000600000000000000000000000000000000000011000000000040100000000000000000000002000000000000000000000000000001cd0300002d490010001c00 (Sy.O.pack 120 0x180000000000c000000000c0000000000000000000000000030000000000000000000000000100000000010000080010040100401004001000000800000001000000002000a001800 (Sy.O.pack 77 0x200000000000000000000010000018000000030000000000000000000000000000000000000c000000000c0000000 (Sy.O.steps [128] (Sy.O.pack 120 0x20000000040004001000000000018000000000000000000000000000000000000000000000040000000000000000000000000000000000000000000020000100002004010000040000 (Sy.O.pack 120 0x2000000004000000000020000000040000400000400006000000000000000000000000200000300000000600000000000100000000010000080000000000020000020000010000 (Sy.O.pack 120 0x180000000018000000000000000000000800000000000004000000100000000000040000000000000000100000000000800000000 (Sy.O.pack 120 0x18000000000000000000000000080000000008000040008020080200802000800000400000000800000001000200060000000000700000040000000300000 (Sy.O.pack 120 0x80009ca200400078000001c00358b0000a4a00038006000000140020c400002090000000100000000001000001800000000000600000000060000000000000c0000000000600000000060 (Sy.O.pack 120 0x6000000000000000000000008800000000020080000000000000000000001200000000000000000000000000000e681800016a48008000e001800000050008300800004120000000000 (Sy.O.pack 120 0x10000018000000030000000000008000000000800004000802008020080200080000040000000080000000100030008000000000080000004000000000000000000000200000300000 (Sy.O.pack 120 0x2928000e001800000050008310000082600000004000000000040000060000000000018000000001800000000000030000000000180000000018000000000000000000000000000000000 (Sy.O.pack 120 0x358b0000a4a00038006000000140020c4000020a0000000110000000000039a0600005a9200200038006000000140020c020000104c0000000000200027288010001e0000007000d62c00 (Sy.O.pack 120 0x200000100013944008000f00000038006b1600014940007000c0000002800418800004150000000240000000000039805000041804000020a0000000009ca200400078000001c0 (Sy.O.pack 120 0x300003000000000000000002c00000000000000000001500000000000000000000a00000000000000000000000000000000000000000000000000000000000000000000000000 (Sy.O.pack 120 0x1000000002000800140000000001200000080000000600000000000000000000000000000000000044000000000040300000000000000018000000000000000c0000000000600006000000 (Sy.O.pack 120 0x1000000002000000000010000000020000200000200003000000000000060000000000000000000000000200000000020000100000000000040000400100000080000000 (Sy.O.pack 40 0x4000010000000000020000000000000000080000000000400 (Sy.O.steps [64] (Sy.O.steps [0] Sy.O.nil)))))))))))))))))))))))))))))))))))))
set_option maxRecDepth 1000000 in
theorem aw_met (m : Int) : Sy.Meets Try.prog (awkC m) :=
  Sy.meets_shutJ' (ctxAw_holds m) ckH_holds mixed (n := 300) (o := aw_o) (fun ns => by kernel_rfl) (fun ns => by kernel_rfl)

end Go.Proofs.Ytbgmkefehfjicaa
