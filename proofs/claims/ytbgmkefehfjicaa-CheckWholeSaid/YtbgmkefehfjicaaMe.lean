/-
  The reference's look at an expression's nodes. And what follows it.
-/
import Derived.Test.YtbgmkefehfjicaaMd

/-
  The reference's look at an expression's nodes.
-/
namespace Go.Proofs.Ytbgmkefehfjicaa
set_option linter.unusedVariables false
set_option linter.unusedSimpArgs false
open Go Go.RowKit
open Sy (Let Blk HasL)

abbrev fRExpr : FuncId := 47
noncomputable def bodyE1 : Code := Sy.loopBody Try.f47 0
noncomputable def bodyE2 : Code := Sy.loopBody Try.f47 1

def slE (v : Value) (loc : Int) (g n cap i : Nat) : List (Nat × Value) := [(0, v), (1, .int .i64 loc), (4, .bool false), (5, .slice (some ⟨g, 0, none⟩) n cap), (6, .int .i64 (Int.ofNat i))]
def slE2 (v : Value) (loc : Int) (g n cap i : Nat) : List (Nat × Value) := [(0, v), (1, .int .i64 loc), (4, .bool false), (5, .slice (some ⟨g, 0, none⟩) n cap), (8, .int .i64 (Int.ofNat i))]

def en2_o : Sy.O := (Sy.O.steps [1] (Sy.O.fork (Sy.O.pack 7 0x42100020 (Sy.O.fork Sy.O.nil Sy.O.nil)) Sy.O.nil))
noncomputable def en2_R (v : Value) (loc : Int) (g : Nat) (n : Nat) (cap : Nat) (i : Nat) (xs : List Value) (f : Nat → Value) (B : List (Nat × Sy.Cont)) (ns : Nat → Sy.Let) : Sy.Res (Exit × Nat × List Value × List Blk) := .need (∃ (p : Option Addr), ∃ (n : Nat), ∃ (c : Nat), v = Value.slice p n c) (.br (Ex.ltQ (Int.ofNat i) (Ex.wrapQ .i64 (Ex.subQ' (Int.ofNat (Sy.lenS v)) (1 : Int)))) (.need ((0 : Int) ≤ Int.ofNat i ∧ Int.ofNat i < (↑n : Int)) (.need (∃ (b : Bool), Sy.Cont.at (.row (4 : Nat) (1 : Nat) n cap xs) ((0 : Nat) + Int.toNat (Int.ofNat i) * (1 : Nat)) = some (Value.bool b)) (.hyp (Sy.Cont.at (.row (4 : Nat) (1 : Nat) n cap xs) ((0 : Nat) + Int.toNat (Int.ofNat i) * (1 : Nat)) = some (Value.bool (Let.b (ns 0)))) (.br (!Let.b (ns 0)) (.leaf (Exit.ret, (131 : Nat), [v, .int .i64 loc, Value.bool false, .slice (some (Addr.mk g 0 none)) n cap, .int .i64 (Int.ofNat i)], Blk.mk g (.row (4 : Nat) (1 : Nat) n cap xs) true :: rdOf B)) (.leaf (Exit.normal, (131 : Nat), [v, .int .i64 loc, Value.bool false, .slice (some (Addr.mk g 0 none)) n cap, .int .i64 (Ex.wrapQ .i64 (Ex.addQ (Int.ofNat i) (1 : Int)))], Blk.mk g (.row (4 : Nat) (1 : Nat) n cap xs) true :: rdOf B)))))) (.leaf (Exit.exit (2 : Nat), (131 :
 Nat), [v, .int .i64 loc, Value.bool false, .slice (some (Addr.mk g 0 none)) n cap, .int .i64 (Int.ofNat i)], Blk.mk g (.row (4 : Nat) (1 : Nat) n cap xs) true :: rdOf B)))

theorem en2_run (v : Value) (loc : Int) (g n cap i : Nat) (xs : List Value) (f : Nat → Value) (B : List (Nat × Sy.Cont)) : Sy.Ran (Sy.pieceT Try.prog Sy.S0 50 fRExpr bodyE2 131 (slE2 v loc g n cap i) ((List.range 131).map f) (⟨g, .row 4 1 n cap xs, true⟩ :: rdOf B) [0, 1, 4, 5, 8]) en2_o (en2_R v loc g n cap i xs f B) := ⟨fun ns => by kernel_rfl, fun ns => by kernel_rfl⟩

def en1_o : Sy.O := (Sy.O.steps [1] (Sy.O.fork (Sy.O.pack 13 0x200000000421 (Sy.O.fork (Sy.O.pack 3 0x0 (Sy.O.fork (Sy.O.pack 8 0x0 Sy.O.nil) (Sy.O.pack 5 0x0 (Sy.O.fork (Sy.O.pack 5 0x0 Sy.O.nil) (Sy.O.pack 6 0x0 (Sy.O.fork (Sy.O.pack 8 0x0 (Sy.O.fork Sy.O.nil Sy.O.nil)) (Sy.O.pack 6 0x0 Sy.O.nil))))))) (Sy.O.pack 19 0x8000080000800008000 (Sy.O.fork (Sy.O.pack 5 0x0 Sy.O.nil) (Sy.O.pack 14 0x21084000800000000 (Sy.O.fork Sy.O.nil (Sy.O.pack 11 0x802100000 (Sy.O.fork (Sy.O.pack 3 0x0 (Sy.O.fork Sy.O.nil Sy.O.nil)) (Sy.O.pack 7 0x8000 (Sy.O.fork (Sy.O.pack 5 0x0 Sy.O.nil) (Sy.O.pack 14 0x21084000800000000 (Sy.O.fork Sy.O.nil (Sy.O.pack 8 0x802100000 Sy.O.nil))))))))))))) Sy.O.nil))
noncomputable def en1_R (v : Value) (loc : Int) (g : Nat) (n : Nat) (cap : Nat) (i : Nat) (xs : List Value) (f : Nat → Value) (B : List (Nat × Sy.Cont)) (ns : Nat → Sy.Let) : Sy.Res (Exit × Nat × List Value × List Blk) := .need (∃ (p : Option Addr), ∃ (n : Nat), ∃ (c : Nat), v = Value.slice p n c) (.br (Ex.ltQ (Int.ofNat i) (Int.ofNat (Sy.lenS v))) (.need ((∃ (n : Nat), ∃ (c : Nat), v = Value.slice (some (Addr.mk (Sy.ptrS v) (Sy.offS v) none)) n c) ∧ (0 : Int) ≤ Int.ofNat i ∧ Int.ofNat i < (↑(Sy.lenS v) : Int)) (.need (∃ (i_1 : Int), HasL (rdOf B) (Sy.ptrS v) (Sy.offS v + Int.toNat (Int.ofNat i) * (4 : Nat)) (.int .i64 i_1)) (.hyp (∀ (u : Value), HasL (rdOf B) (Sy.ptrS v) (Sy.offS v + Int.toNat (Int.ofNat i) * (4 : Nat)) u → u = Value.int .i64 (Let.i (ns 0))) (.need (∃ (i_1 : Int), HasL (rdOf B) (Sy.ptrS v) (Sy.offS v + Int.toNat (Int.ofNat i) * (4 : Nat) + (1 : Nat)) (.int .u64 i_1)) (.hyp (∀ (u : Value), HasL (rdOf B) (Sy.ptrS v) (Sy.offS v + Int.toNat (Int.ofNat i) * (4 : Nat) + (1 : Nat)) u → u = Value.int .u64 (Let.i (ns 1))) (.need (∃ (i_1 : Int), HasL (rdOf B) (Sy.ptrS v) (Sy.offS v + Int.toNat (Int.ofNat i) * (4 : Nat) + (1 : Nat) + (1 : Nat)) (.int .i64 i_1)) (.hyp (∀ (u : Value), HasL (rdOf B)
 (Sy.ptrS v) (Sy.offS v + Int.toNat (Int.ofNat i) * (4 : Nat) + (1 : Nat) + (1 : Nat)) u → u = Value.int .i64 (Let.i (ns 2))) (.need (∃ (i_1 : Int), HasL (rdOf B) (Sy.ptrS v) (Sy.offS v + Int.toNat (Int.ofNat i) * (4 : Nat) + (1 : Nat) + (1 : Nat) + (1 : Nat)) (.int .i64 i_1)) (.hyp (∀ (u : Value), HasL (rdOf B) (Sy.ptrS v) (Sy.offS v + Int.toNat (Int.ofNat i) * (4 : Nat) + (1 : Nat) + (1 : Nat) + (1 : Nat)) u → u = Value.int .i64 (Let.i (ns 3))) (.br (bif Ex.eqQ (Let.i (ns 0)) (1 : Int) then true else Ex.eqQ (Let.i (ns 0)) (2 : Int)) (.br (!Ex.eqQ (Let.i (ns 2)) (0 : Int)) (.leaf (Exit.ret, (131 : Nat), [v, .int .i64 loc, Value.bool false, .slice (some (Addr.mk g 0 none)) n cap, .int .i64 (Int.ofNat i)], Blk.mk (Let.n (ns 4)) (.obj (.cells (Array.mk [.int .i64 (Let.i (ns 0)), .int .u64 (Let.i (ns 1)), .int .i64 (Let.i (ns 2)), .int .i64 (Let.i (ns 3))]) (114 : Nat))) true :: Blk.mk g (.row (4 : Nat) (1 : Nat) n cap xs) true :: rdOf B)) (.br (bif false then true else !Ex.eqQ (Let.i (ns
 3)) (0 : Int)) (.leaf (Exit.ret, (131 : Nat), [v, .int .i64 loc, Value.bool false, .slice (some (Addr.mk g 0 none)) n cap, .int .i64 (Int.ofNat i)], Blk.mk (Let.n (ns 4)) (.obj (.cells (Array.mk [.int .i64 (Let.i (ns 0)), .int .u64 (Let.i (ns 1)), .int .i64 (Let.i (ns 2)), .int .i64 (Let.i (ns 3))]) (114 : Nat))) true :: Blk.mk g (.row (4 : Nat) (1 : Nat) n cap xs) true :: rdOf B)) (.br (Ex.eqQ (Let.i (ns 0)) (2 : Int)) (.br (bif false then true else bif true then Ex.leQ (Ex.wrapQ .u64 loc) (Let.i (ns 1)) else false) (.leaf (Exit.ret, (131 : Nat), [v, .int .i64 loc, Value.bool false, .slice (some (Addr.mk g 0 none)) n cap, .int .i64 (Int.ofNat i)], Blk.mk (Let.n (ns 4)) (.obj (.cells (Array.mk [.int .i64 (Let.i (ns 0)), .int .u64 (Let.i (ns 1)), .int .i64 (Let.i (ns 2)), .int .i64 (Let.i (ns 3))]) (114 : Nat))) true :: Blk.mk g (.row (4 : Nat) (1 : Nat) n cap xs) true :: rdOf B)) (.leaf (Exit.normal, (131 : Nat), [v, .int .i64 loc, Value.bool false, .slice (some (Addr.mk g 0 none)) n
 cap, .int .i64 (Ex.wrapQ .i64 (Ex.addQ (Int.ofNat i) (1 : Int)))], Blk.mk (Let.n (ns 4)) (.obj (.cells (Array.mk [.int .i64 (Let.i (ns 0)), .int .u64 (Let.i (ns 1)), .int .i64 (Let.i (ns 2)), .int .i64 (Let.i (ns 3))]) (114 : Nat))) true :: Blk.mk g (.row (4 : Nat) (1 : Nat) n cap xs) true :: rdOf B))) (.leaf (Exit.normal, (131 : Nat), [v, .int .i64 loc, Value.bool false, .slice (some (Addr.mk g 0 none)) n cap, .int .i64 (Ex.wrapQ .i64 (Ex.addQ (Int.ofNat i) (1 : Int)))], Blk.mk (Let.n (ns 4)) (.obj (.cells (Array.mk [.int .i64 (Let.i (ns 0)), .int .u64 (Let.i (ns 1)), .int .i64 (Let.i (ns 2)), .int .i64 (Let.i (ns 3))]) (114 : Nat))) true :: Blk.mk g (.row (4 : Nat) (1 : Nat) n cap xs) true :: rdOf B))))) (.br (bif bif bif bif Ex.ltQ (Let.i (ns 0)) (1 : Int) then true else Ex.ltQ (19 : Int) (Let.i (ns 0)) then true else !Ex.eqQ (Let.i (ns 1)) (0 : Int) then true else Ex.ltQ (Let.i (ns 2)) (0 : Int) then true else Ex.leQ (Int.ofNat i) (Let.i (ns 2))) (.leaf (Exit.ret, (131 : Nat), [v,
 .int .i64 loc, Value.bool false, .slice (some (Addr.mk g 0 none)) n cap, .int .i64 (Int.ofNat i)], Blk.mk (Let.n (ns 4)) (.obj (.cells (Array.mk [.int .i64 (Let.i (ns 0)), .int .u64 (Let.i (ns 1)), .int .i64 (Let.i (ns 2)), .int .i64 (Let.i (ns 3))]) (114 : Nat))) true :: Blk.mk g (.row (4 : Nat) (1 : Nat) n cap xs) true :: rdOf B)) (.need ((0 : Int) ≤ Let.i (ns 2) ∧ Let.i (ns 2) < (↑n : Int)) (.need (∃ (b : Bool), Sy.Cont.at (.row (4 : Nat) (1 : Nat) n cap xs) ((0 : Nat) + Int.toNat (Let.i (ns 2)) * (1 : Nat)) = some (Value.bool b)) (.hyp (Sy.Cont.at (.row (4 : Nat) (1 : Nat) n cap xs) ((0 : Nat) + Int.toNat (Let.i (ns 2)) * (1 : Nat)) = some (Value.bool (Let.b (ns 5)))) (.br (bif false then true else Let.b (ns 5)) (.leaf (Exit.ret, (131 : Nat), [v, .int .i64 loc, Value.bool false, .slice (some (Addr.mk g 0 none)) n cap, .int .i64 (Int.ofNat i)], Blk.mk (Let.n (ns 4)) (.obj (.cells (Array.mk [.int .i64 (Let.i (ns 0)), .int .u64 (Let.i (ns 1)), .int .i64 (Let.i (ns 2)), .int .i64 (Let.i
 (ns 3))]) (114 : Nat))) true :: Blk.mk g (.row (4 : Nat) (1 : Nat) n cap xs) true :: rdOf B)) (.need ((0 : Int) ≤ Let.i (ns 2) ∧ Let.i (ns 2) < (↑n : Int)) (.need ((0 : Nat) + Int.toNat (Let.i (ns 2)) * (1 : Nat) < List.length xs) (.br (Ex.leQ (Let.i (ns 0)) (5 : Int)) (.br (!Ex.eqQ (Let.i (ns 3)) (0 : Int)) (.leaf (Exit.ret, (131 : Nat), [v, .int .i64 loc, Value.bool false, .slice (some (Addr.mk g 0 none)) n cap, .int .i64 (Int.ofNat i)], Blk.mk (Let.n (ns 4)) (.obj (.cells (Array.mk [.int .i64 (Let.i (ns 0)), .int .u64 (Let.i (ns 1)), .int .i64 (Let.i (ns 2)), .int .i64 (Let.i (ns 3))]) (114 : Nat))) true :: Blk.mk g (.row (4 : Nat) (1 : Nat) n cap (List.set xs ((0 : Nat) + Int.toNat (Let.i (ns 2)) * (1 : Nat)) (Value.bool true))) true :: rdOf B)) (.leaf (Exit.normal, (131 : Nat), [v, .int .i64 loc, Value.bool false, .slice (some (Addr.mk g 0 none)) n cap, .int .i64 (Ex.wrapQ .i64 (Ex.addQ (Int.ofNat i) (1 : Int)))], Blk.mk (Let.n (ns 4)) (.obj (.cells (Array.mk [.int .i64 (Let.i (ns
 0)), .int .u64 (Let.i (ns 1)), .int .i64 (Let.i (ns 2)), .int .i64 (Let.i (ns 3))]) (114 : Nat))) true :: Blk.mk g (.row (4 : Nat) (1 : Nat) n cap (List.set xs ((0 : Nat) + Int.toNat (Let.i (ns 2)) * (1 : Nat)) (Value.bool true))) true :: rdOf B))) (.br (bif Ex.ltQ (Let.i (ns 3)) (0 : Int) then true else Ex.leQ (Int.ofNat i) (Let.i (ns 3))) (.leaf (Exit.ret, (131 : Nat), [v, .int .i64 loc, Value.bool false, .slice (some (Addr.mk g 0 none)) n cap, .int .i64 (Int.ofNat i)], Blk.mk (Let.n (ns 4)) (.obj (.cells (Array.mk [.int .i64 (Let.i (ns 0)), .int .u64 (Let.i (ns 1)), .int .i64 (Let.i (ns 2)), .int .i64 (Let.i (ns 3))]) (114 : Nat))) true :: Blk.mk g (.row (4 : Nat) (1 : Nat) n cap (List.set xs ((0 : Nat) + Int.toNat (Let.i (ns 2)) * (1 : Nat)) (Value.bool true))) true :: rdOf B)) (.need ((0 : Int) ≤ Let.i (ns 3) ∧ Let.i (ns 3) < (↑n : Int)) (.need (∃ (b : Bool), Sy.Cont.at (.row (4 : Nat) (1 : Nat) n cap (List.set xs ((0 : Nat) + Int.toNat (Let.i (ns 2)) * (1 : Nat)) (Value.bool
 true))) ((0 : Nat) + Int.toNat (Let.i (ns 3)) * (1 : Nat)) = some (Value.bool b)) (.hyp (Sy.Cont.at (.row (4 : Nat) (1 : Nat) n cap (List.set xs ((0 : Nat) + Int.toNat (Let.i (ns 2)) * (1 : Nat)) (Value.bool true))) ((0 : Nat) + Int.toNat (Let.i (ns 3)) * (1 : Nat)) = some (Value.bool (Let.b (ns 6)))) (.br (bif false then true else Let.b (ns 6)) (.leaf (Exit.ret, (131 : Nat), [v, .int .i64 loc, Value.bool false, .slice (some (Addr.mk g 0 none)) n cap, .int .i64 (Int.ofNat i)], Blk.mk (Let.n (ns 4)) (.obj (.cells (Array.mk [.int .i64 (Let.i (ns 0)), .int .u64 (Let.i (ns 1)), .int .i64 (Let.i (ns 2)), .int .i64 (Let.i (ns 3))]) (114 : Nat))) true :: Blk.mk g (.row (4 : Nat) (1 : Nat) n cap (List.set xs ((0 : Nat) + Int.toNat (Let.i (ns 2)) * (1 : Nat)) (Value.bool true))) true :: rdOf B)) (.need ((0 : Int) ≤ Let.i (ns 3) ∧ Let.i (ns 3) < (↑n : Int)) (.need ((0 : Nat) + Int.toNat (Let.i (ns 3)) * (1 : Nat) < List.length (List.set xs ((0 : Nat) + Int.toNat (Let.i (ns 2)) * (1 : Nat))
 (Value.bool true))) (.leaf (Exit.normal, (131 : Nat), [v, .int .i64 loc, Value.bool false, .slice (some (Addr.mk g 0 none)) n cap, .int .i64 (Ex.wrapQ .i64 (Ex.addQ (Int.ofNat i) (1 : Int)))], Blk.mk (Let.n (ns 4)) (.obj (.cells (Array.mk [.int .i64 (Let.i (ns 0)), .int .u64 (Let.i (ns 1)), .int .i64 (Let.i (ns 2)), .int .i64 (Let.i (ns 3))]) (114 : Nat))) true :: Blk.mk g (.row (4 : Nat) (1 : Nat) n cap (List.set (List.set xs ((0 : Nat) + Int.toNat (Let.i (ns 2)) * (1 : Nat)) (Value.bool true)) ((0 : Nat) + Int.toNat (Let.i (ns 3)) * (1 : Nat)) (Value.bool true))) true :: rdOf B))))))))))))))))))))))))))) (.leaf (Exit.exit (0 : Nat), (131 : Nat), [v, .int .i64 loc, Value.bool false, .slice (some (Addr.mk g 0 none)) n cap, .int .i64 (Int.ofNat i)], Blk.mk g (.row (4 : Nat) (1 : Nat) n cap xs) true :: rdOf B)))

theorem en1_run (v : Value) (loc : Int) (g n cap i : Nat) (xs : List Value) (f : Nat → Value) (B : List (Nat × Sy.Cont)) : Sy.Ran (Sy.pieceT Try.prog Sy.S0 50 fRExpr bodyE1 131 (slE v loc g n cap i) ((List.range 131).map f) (⟨g, .row 4 1 n cap xs, true⟩ :: rdOf B) [0, 1, 4, 5, 6]) en1_o (en1_R v loc g n cap i xs f B) := ⟨fun ns => by kernel_rfl, fun ns => by kernel_rfl⟩

end Go.Proofs.Ytbgmkefehfjicaa

/-
  The reference's look at an expression's nodes: the first loop.
-/
namespace Go.Proofs.Ytbgmkefehfjicaa
open Go Go.RowKit
open Sy (Let Blk HasL)

def boolsV (l : List Bool) : List Value := l.map fun b => Value.bool b

/-- Node number i: which are used behind it; none: it is refused. -/
noncomputable def stepE (loc : Int) (i : Nat) (n : NodeD) (u : List Bool) : Option (List Bool) :=
  bif (bif Ex.eqQ n.op 1 then true else Ex.eqQ n.op 2) then
    (bif !Ex.eqQ n.a 0 then none else bif !Ex.eqQ n.b 0 then none
      else bif Ex.eqQ n.op 2 then (bif Ex.leQ (Ex.wrapQ .u64 loc) n.val then none else some u) else some u)
  else bif (bif bif bif bif Ex.ltQ n.op 1 then true else Ex.ltQ 19 n.op then true else !Ex.eqQ n.val 0 then true else Ex.ltQ n.a 0 then true else Ex.leQ (Int.ofNat i) n.a) then none
  else bif u.getD n.a.toNat false then none
  else bif Ex.leQ n.op 5 then (bif !Ex.eqQ n.b 0 then none else some (u.set n.a.toNat true))
  else bif (bif Ex.ltQ n.b 0 then true else Ex.leQ (Int.ofNat i) n.b) then none
  else bif (u.set n.a.toNat true).getD n.b.toNat false then none
  else some ((u.set n.a.toNat true).set n.b.toNat true)

noncomputable def runE (loc : Int) : Nat → List NodeD → List Bool → Option (List Bool)
  | _, [], u => some u
  | i, n :: l, u => match stepE loc i n u with
    | none => none
    | some w => runE loc (i + 1) l w

theorem stepE_len {loc : Int} {i : Nat} {n : NodeD} {u w : List Bool} (h : stepE loc i n u = some w) : w.length = u.length := by
  have fin : ∀ {c : Bool} {x y : Option (List Bool)}, (bif c then x else y) = some w → (x = some w → w.length = u.length) → (y = some w → w.length = u.length) → w.length = u.length := fun {c x y} h h1 h2 => match c, h with
    | true, h => h1 h
    | false, h => h2 h
  have no : (none : Option (List Bool)) = some w → w.length = u.length := fun h => by cases h
  have yes : ∀ {x : List Bool}, x.length = u.length → some x = some w → w.length = u.length := fun hx h => by injection h with h; rw [← h, hx]
  exact fin h (fun h => fin h no fun h => fin h no fun h => fin h (fun h => fin h no (yes rfl)) (yes rfl)) fun h => fin h no fun h => fin h no fun h => fin h (fun h => fin h no (yes (by simp))) fun h => fin h no fun h => fin h no (yes (by simp))

theorem row_bools {t n cap : Nat} {u : List Bool} {i : Nat} (h : i < u.length) : (Sy.Cont.row t 1 n cap (boolsV u)).at (0 + i * 1) = some (.bool (u.getD i false)) := by
  simp [Sy.Cont.at, boolsV, h, List.getD_eq_getElem?_getD]
theorem bools_set {u : List Bool} {i : Nat} : (boolsV u).set (0 + i * 1) (.bool true) = boolsV (u.set i true) := by
  simp [boolsV]

noncomputable def allE (loc : Int) (l : List NodeD) : Option (List Bool) := runE loc 0 l (List.replicate l.length false)

noncomputable def loopE1C (B : List (Nat × Sy.Cont)) (v : Value) (loc : Int) (l : List NodeD) (g cap : Nat) : Sy.LoopC :=
  ⟨.loop bodyE1, 131, slE v loc g l.length cap 0, OkX B v l, ⟨[], [(g, .row 4 1 l.length cap (boolsV (List.replicate l.length false)))], 0, B⟩,
    [(⟨fun _ => allE loc l = none, fun _ => [], fun _ => []⟩, .ret, fun _ => [(4, .bool false)]),
     (⟨fun _ => allE loc l ≠ none, fun _ => [(g, .row 4 1 l.length cap (boolsV ((allE loc l).getD [])))], fun _ => []⟩, .exit 0, fun _ => [(0, v), (1, .int .i64 loc), (4, .bool false), (5, .slice (some ⟨g, 0, none⟩) l.length cap)])]⟩

theorem loopE1C_met (B : List (Nat × Sy.Cont)) (v : Value) (loc : Int) (l : List NodeD) (g cap : Nat) : Sy.MeetsL Try.prog (loopE1C B v loc l g cap) := by
  refine Sy.loop_ofB (σ := Nat × List Bool) (S := fun _ => Sy.S0) (n := 50) (fn := fRExpr) (fun _ => Sy.S0_holds) mixed (body := bodyE1) rfl [0, 1, 4, 5, 6] (fun s => slE v loc g l.length cap s.1)
    (fun s => ⟨g, .row 4 1 l.length cap (boolsV s.2), true⟩ :: rdOf B) (fun s => s.1 ≤ l.length ∧ OkX B v l ∧ s.2.length = l.length ∧ allE loc l = runE loc s.1 (l.drop s.1) s.2) (fun s => l.length - s.1)
    (0, List.replicate l.length false) (fun h => ⟨Nat.zero_le _, h, by simp, rfl⟩) (fun p hp => hp) (Sy.Ent.refl _) (o := fun _ => en1_o) (R := fun s f => en1_R v loc g l.length cap s.1 _ f B) (fun s f _ => en1_run v loc g l.length cap s.1 _ f B) ?_
  rintro - ⟨k, u⟩ f ⟨hk, ⟨hR, hlen⟩, hul, hall⟩ ns
  simp only at hk hul hall
  simp only [en1_R, Sy.Res.holds]
  refine ⟨hR.sl, fun hlt => ?_, fun hge => ?_⟩
  · have hlt : k < l.length := by rw [Ex.ltQ_eq, hR.len] at hlt; simpa using hlt
    obtain ⟨n, hn⟩ : ∃ n, l[k]? = some n := ⟨_, List.getElem?_eq_getElem hlt⟩
    have hdrop : l.drop k = n :: l.drop (k + 1) := by
      rw [List.drop_eq_getElem_cons hlt]
      rw [List.getElem?_eq_getElem hlt] at hn
      injection hn with hn
      rw [hn]
    rw [hdrop] at hall
    have next : ∀ (w : List Bool) (x : Blk), stepE loc k n u = some w → Sy.leafLB (loopE1C B v loc l g cap) [0, 1, 4, 5, 6] (fun s => slE v loc g l.length cap s.1) (fun s => ⟨g, .row 4 1 l.length cap (boolsV s.2), true⟩ :: rdOf B) (fun s => s.1 ≤ l.length ∧ OkX B v l ∧ s.2.length = l.length ∧ allE loc l = runE loc s.1 (l.drop s.1) s.2) (fun s => l.length - s.1) (k, u)
        (.normal, 131, [v, .int .i64 loc, .bool false, .slice (some ⟨g, 0, none⟩) l.length cap, .int .i64 (Ex.wrapQ .i64 (Ex.addQ (Int.ofNat k) 1))], x :: ⟨g, .row 4 1 l.length cap (boolsV w), true⟩ :: rdOf B) := fun w x hw => by
      refine ⟨rfl, .inl ⟨rfl, (k + 1, w), ⟨by show k + 1 ≤ l.length; omega, ⟨hR, hlen⟩, by rw [← hul]; exact stepE_len hw, ?_⟩, by show l.length - (k + 1) < l.length - k; omega, ?_, ent_tail⟩⟩
      · rw [hall]
        simp only [runE, hw]
      · rw [w_succ (by omega)]
        rfl
    have stop : ∀ (L : List Blk), stepE loc k n u = none → Sy.leafLB (loopE1C B v loc l g cap) [0, 1, 4, 5, 6] (fun s => slE v loc g l.length cap s.1) (fun s => ⟨g, .row 4 1 l.length cap (boolsV s.2), true⟩ :: rdOf B) (fun s => s.1 ≤ l.length ∧ OkX B v l ∧ s.2.length = l.length ∧ allE loc l = runE loc s.1 (l.drop s.1) s.2) (fun s => l.length - s.1) (k, u)
        (.ret, 131, [v, .int .i64 loc, .bool false, .slice (some ⟨g, 0, none⟩) l.length cap, .int .i64 (Int.ofNat k)], L) := fun L hw => by
      refine ⟨rfl, .inr ⟨by simp, _, List.mem_cons_self, rfl, [], rfl, ⟨[2], rfl⟩, Sy.Ent.sub (List.nil_sublist _), ?_⟩⟩
      show allE loc l = none
      rw [hall]
      simp only [runE, hw]
    refine ⟨⟨hR.at_ (fun h => by rw [h] at hlt; simp at hlt), by simp, by rw [hR.len]; simpa using hlt⟩, ⟨n.op, hR.op k n hn⟩, fun e0 => ⟨⟨n.val, hR.val k n hn⟩, fun e1 => ⟨⟨n.a, hR.a k n hn⟩, fun e2 => ⟨⟨n.b, hR.b k n hn⟩, fun e3 => ?_⟩⟩⟩⟩
    have e0 := e0 _ (hR.op k n hn)
    have e1 := e1 _ (hR.val k n hn)
    have e2 := e2 _ (hR.a k n hn)
    have e3 := e3 _ (hR.b k n hn)
    simp only [Value.int.injEq, true_and] at e0 e1 e2 e3
    rw [← e0, ← e1, ← e2, ← e3]
    have inr : ∀ {x : Int}, (bif Ex.ltQ x 0 then true else Ex.leQ (Int.ofNat k) x) = false → (0 ≤ x ∧ x < (l.length : Int)) ∧ x.toNat < u.length := fun {x} h => by
      rw [Ex.ltQ_eq, Ex.leQ_eq] at h
      by_cases h0 : x < 0
      · simp [h0] at h
      · simp [h0] at h
        omega
    refine ⟨fun h1 => ⟨fun h2 => stop _ ?_, fun h2 => ⟨fun h3 => stop _ ?_, fun h3 => ⟨fun h4 => ⟨fun h5 => stop _ ?_, fun h5 => next _ _ ?_⟩, fun h4 => next _ _ ?_⟩⟩⟩, fun h1 => ⟨fun h2 => stop _ ?_, fun h2 => ?_⟩⟩
    · unfold stepE; rw [h1, h2]; rfl
    · unfold stepE; rw [h1, h2, show (!Ex.eqQ n.b 0) = true from h3]; rfl
    · unfold stepE; rw [h1, h2, show (!Ex.eqQ n.b 0) = false from h3, h4, show Ex.leQ (Ex.wrapQ .u64 loc) n.val = true from h5]; rfl
    · unfold stepE; rw [h1, h2, show (!Ex.eqQ n.b 0) = false from h3, h4, show Ex.leQ (Ex.wrapQ .u64 loc) n.val = false from h5]; rfl
    · unfold stepE; rw [h1, h2, show (!Ex.eqQ n.b 0) = false from h3, h4]; rfl
    · unfold stepE; rw [h1, h2]; rfl
    · have hA : (bif Ex.ltQ n.a 0 then true else Ex.leQ (Int.ofNat k) n.a) = false := by
        revert h2
        generalize (bif bif Ex.ltQ n.op 1 then true else Ex.ltQ 19 n.op then true else !Ex.eqQ n.val 0) = c
        cases c <;> simp
      obtain ⟨ha, hau⟩ := inr hA
      refine ⟨ha, ⟨_, row_bools hau⟩, fun e5 => ?_⟩
      rw [row_bools hau] at e5
      simp only [Option.some.injEq, Value.bool.injEq] at e5
      rw [← e5]
      simp only [bools_set]
      refine ⟨fun h3 => stop _ ?_, fun h3 => ⟨ha, by simp [boolsV]; omega, fun h4 => ⟨fun h5 => stop _ ?_, fun h5 => next _ _ ?_⟩, fun h4 => ⟨fun h5 => stop _ ?_, fun h5 => ?_⟩⟩⟩
      · unfold stepE; rw [h1, h2, show u.getD n.a.toNat false = true from h3]; rfl
      · unfold stepE; rw [h1, h2, show u.getD n.a.toNat false = false from h3, h4, h5]; rfl
      · unfold stepE; rw [h1, h2, show u.getD n.a.toNat false = false from h3, h4, h5]; rfl
      · unfold stepE; rw [h1, h2, show u.getD n.a.toNat false = false from h3, h4, h5]; rfl
      · obtain ⟨hb, hbu⟩ := inr h5
        have hbw : n.b.toNat < (u.set n.a.toNat true).length := by simpa using hbu
        refine ⟨hb, ⟨_, row_bools hbw⟩, fun e6 => ?_⟩
        rw [row_bools hbw] at e6
        simp only [Option.some.injEq, Value.bool.injEq] at e6
        rw [← e6]
        refine ⟨fun h6 => stop _ ?_, fun h6 => ⟨hb, by simp [boolsV]; omega, next _ _ ?_⟩⟩
        · unfold stepE; rw [h1, h2, show u.getD n.a.toNat false = false from h3, h4, h5, show (u.set n.a.toNat true).getD n.b.toNat false = true from h6]; rfl
        · unfold stepE; rw [h1, h2, show u.getD n.a.toNat false = false from h3, h4, h5, show (u.set n.a.toNat true).getD n.b.toNat false = false from h6]; rfl
  · have hge : k = l.length := by rw [Ex.ltQ_eq, hR.len] at hge; simp at hge; omega
    subst hge
    have hall : allE loc l = some u := by rw [hall]; simp [runE]
    refine ⟨rfl, .inr ⟨by simp, _, List.mem_cons_of_mem _ (List.mem_singleton_self _), rfl, [], rfl, ⟨[0, 1, 2, 3], rfl⟩, ?_, ?_⟩⟩
    · show Sy.Ent _ (⟨g, .row 4 1 l.length cap (boolsV ((allE loc l).getD [])), true⟩ :: [])
      rw [hall]
      exact Sy.Ent.sub (List.Sublist.cons_cons _ (List.nil_sublist _))
    · show allE loc l ≠ none
      rw [hall]
      simp

end Go.Proofs.Ytbgmkefehfjicaa

/-
  The reference's look at an expression's nodes: the second loop.
-/
namespace Go.Proofs.Ytbgmkefehfjicaa
open Go Go.RowKit
open Sy (Let Blk HasL)

/-- Is one but the last not used? -/
def lacksU (m : Nat) (u : List Bool) : Prop := ∃ i, i + 1 < m ∧ u.getD i false = false

noncomputable def loopE2C (B : List (Nat × Sy.Cont)) (v : Value) (loc : Int) (l : List NodeD) (u : List Bool) (g cap : Nat) : Sy.LoopC :=
  ⟨.loop bodyE2, 131, slE2 v loc g l.length cap 0, NodesR B v l ∧ l.length ≤ 65536 ∧ u.length = l.length, ⟨[], [(g, .row 4 1 l.length cap (boolsV u))], 0, B⟩,
    [(⟨fun _ => lacksU l.length u, fun _ => [], fun _ => []⟩, .ret, fun _ => [(4, .bool false)]),
     (⟨fun _ => ¬ lacksU l.length u, fun _ => [], fun _ => []⟩, .exit 2, fun _ => [])]⟩

theorem loopE2C_met (B : List (Nat × Sy.Cont)) (v : Value) (loc : Int) (l : List NodeD) (u : List Bool) (g cap : Nat) : Sy.MeetsL Try.prog (loopE2C B v loc l u g cap) := by
  refine Sy.loop_ofB (S := fun _ : Nat => Sy.S0) (n := 50) (fn := fRExpr) (fun _ => Sy.S0_holds) mixed (body := bodyE2) rfl [0, 1, 4, 5, 8] (fun k : Nat => slE2 v loc g l.length cap k)
    (fun _ => ⟨g, .row 4 1 l.length cap (boolsV u), true⟩ :: rdOf B) (fun k => k ≤ l.length ∧ (NodesR B v l ∧ l.length ≤ 65536 ∧ u.length = l.length) ∧ ∀ i, i < k → i + 1 < l.length → u.getD i false = true) (fun k => l.length - k)
    0 (fun h => ⟨Nat.zero_le _, h, fun i hi => by omega⟩) (fun p hp => hp) (Sy.Ent.refl _) (o := fun _ => en2_o) (R := fun k f => en2_R v loc g l.length cap k _ f B) (fun k f _ => en2_run v loc g l.length cap k _ f B) ?_
  rintro - k f ⟨hk, ⟨hR, hlen, hul⟩, hinv⟩ ns
  simp only [en2_R, Sy.Res.holds]
  refine ⟨hR.sl, fun hlt => ?_, fun hge => ?_⟩
  · have hlt : k + 1 < l.length := by rw [hR.len, sub_one hlen, Ex.ltQ_eq] at hlt; simp at hlt; omega
    have hku : k < u.length := by omega
    refine ⟨⟨by simp, by simp; omega⟩, ⟨_, row_bools hku⟩, fun e0 => ?_⟩
    rw [show Int.toNat (Int.ofNat k) = k from rfl, row_bools hku] at e0
    simp only [Option.some.injEq, Value.bool.injEq] at e0
    rw [← e0]
    refine ⟨fun h => ?_, fun h => ?_⟩
    · exact ⟨rfl, .inr ⟨by simp, _, List.mem_cons_self, rfl, [], rfl, ⟨[2], rfl⟩, Sy.Ent.sub (List.nil_sublist _), k, hlt, by simpa using h⟩⟩
    · refine ⟨rfl, .inl ⟨rfl, k + 1, ⟨by omega, ⟨hR, hlen, hul⟩, fun i hi hxi => ?_⟩, by show l.length - (k + 1) < l.length - k; omega, ?_, Sy.Ent.refl _⟩⟩
      · by_cases he : i = k
        · subst he
          simpa using h
        · exact hinv i (by omega) hxi
      · rw [w_succ (by omega)]
        rfl
  · have hge : l.length ≤ k + 1 := by rw [hR.len, sub_one hlen, Ex.ltQ_eq] at hge; simp at hge; omega
    refine ⟨rfl, .inr ⟨by simp, _, List.mem_cons_of_mem _ (List.mem_singleton_self _), rfl, [], rfl, ⟨[], rfl⟩, Sy.Ent.sub (List.nil_sublist _), ?_⟩⟩
    rintro ⟨i, hi, hp⟩
    rw [hinv i (by omega) hi] at hp
    cases hp

noncomputable def loopE1D (B : List (Nat × Sy.Cont)) (v : Value) (loc : Int) (l : List NodeD) (g cap : Nat) : Sy.LoopC :=
  ⟨.loop bodyE1, 131, slE v loc g (Sy.lenS v) cap 0, OkX B v l, ⟨[], [(g, .row 4 1 (Sy.lenS v) cap (List.replicate (Sy.lenS v) (.bool false)))], 0, B⟩,
    [(⟨fun _ => allE loc l = none, fun _ => [], fun _ => []⟩, .ret, fun _ => [(4, .bool false)]),
     (⟨fun _ => allE loc l ≠ none, fun _ => [(g, .row 4 1 (Sy.lenS v) cap (boolsV ((allE loc l).getD [])))], fun _ => []⟩, .exit 0, fun _ => [(0, v), (1, .int .i64 loc), (4, .bool false), (5, .slice (some ⟨g, 0, none⟩) (Sy.lenS v) cap)])]⟩
theorem loopE1D_met (B : List (Nat × Sy.Cont)) (v : Value) (loc : Int) (l : List NodeD) (g cap : Nat) : Sy.MeetsL Try.prog (loopE1D B v loc l g cap) := fun hok => by
  have e : Sy.lenS v = l.length := hok.1.len
  have h := loopE1C_met B v loc l g cap hok
  unfold loopE1D
  rw [e]
  have hz : boolsV (List.replicate l.length false) = List.replicate l.length (.bool false) := by simp [boolsV]
  unfold loopE1C at h
  rw [hz] at h
  exact h

noncomputable def loopE2D (B : List (Nat × Sy.Cont)) (v : Value) (loc : Int) (l : List NodeD) (u : List Bool) (g cap : Nat) : Sy.LoopC :=
  ⟨.loop bodyE2, 131, slE2 v loc g (Sy.lenS v) cap 0, NodesR B v l ∧ l.length ≤ 65536 ∧ u.length = l.length, ⟨[], [(g, .row 4 1 (Sy.lenS v) cap (boolsV u))], 0, B⟩,
    [(⟨fun _ => lacksU l.length u, fun _ => [], fun _ => []⟩, .ret, fun _ => [(4, .bool false)]),
     (⟨fun _ => ¬ lacksU l.length u, fun _ => [], fun _ => []⟩, .exit 2, fun _ => [])]⟩
theorem loopE2D_met (B : List (Nat × Sy.Cont)) (v : Value) (loc : Int) (l : List NodeD) (u : List Bool) (g cap : Nat) : Sy.MeetsL Try.prog (loopE2D B v loc l u g cap) := fun hok => by
  have e : Sy.lenS v = l.length := hok.1.len
  have h := loopE2C_met B v loc l u g cap hok
  unfold loopE2D
  rw [e]
  exact h

noncomputable def ctxE (B : List (Nat × Sy.Cont)) (v : Value) (loc : Int) (l : List NodeD) : Sy.Ctx := Sy.mkS [] [(fRExpr, fun a _ => loopE1D B v loc l (Sy.ptrN (a.get 5)) (Sy.capN (a.get 5))), (fRExpr, fun a _ => loopE2D B v loc l ((allE loc l).getD []) (Sy.ptrN (a.get 5)) (Sy.capN (a.get 5)))] []
theorem ctxE_holds (B : List (Nat × Sy.Cont)) (v : Value) (loc : Int) (l : List NodeD) : (ctxE B v loc l).holds Try.prog := Sy.mkS_holds (fun _ h => (by cases h)) (fun p hp a L => by
  rcases List.mem_cons.1 hp with rfl | hp
  · exact loopE1D_met _ _ _ _ _ _
  rcases List.mem_singleton.1 hp with rfl
  exact loopE2D_met _ _ _ _ _ _ _) (fun _ h => (by cases h))

end Go.Proofs.Ytbgmkefehfjicaa

/-
  The reference's look at an expression.
-/
namespace Go.Proofs.Ytbgmkefehfjicaa
set_option linter.unusedVariables false
set_option linter.unusedSimpArgs false
open Go Go.RowKit
open Sy (Let Blk HasL)

def enx_o : Sy.O := (Sy.O.pack 3 0x421 (Sy.O.fork Sy.O.nil (Sy.O.pack 8 0x42000421 (Sy.O.fork (Sy.O.steps [0, 1] Sy.O.nil) (Sy.O.pack 7 0x2100420 (Sy.O.fork (Sy.O.steps [0, 1] Sy.O.nil) (Sy.O.steps [0, 1] Sy.O.nil)))))))
noncomputable def enx_R (B : List (Nat × Sy.Cont)) (v : Value) (loc : Int) (l : List NodeD) (ns : Nat → Sy.Let) : Sy.Res (Value × List Blk) := .need (∃ (p : Option Addr), ∃ (n : Nat), ∃ (c : Nat), v = Value.slice p n c) (.need (∃ (p : Option Addr), ∃ (n : Nat), ∃ (c : Nat), v = Value.slice p n c) (.br (bif Ex.eqQ (Int.ofNat (Sy.lenS v)) (0 : Int) then true else Ex.ltQ (65536 : Int) (Int.ofNat (Sy.lenS v))) (.leaf (Value.bool false, rdOf B)) (.need (∃ (p : Option Addr), ∃ (n : Nat), ∃ (c : Nat), v = Value.slice p n c) (.need ((0 : Int) ≤ Int.ofNat (Sy.lenS v) ∧ Int.toNat (Int.ofNat (Sy.lenS v)) * (1 : Nat) ≤ (281474976710656 : Nat) ∧ Int.toNat (Int.ofNat (Sy.lenS v)) ≤ (9223372036854775807 : Nat)) (.need (NodesR B v l ∧ List.length l < (4398046511104 : Nat)) (.need (Sy.GotL ([] ++ rdOf B) B) (.both (.hyp (allE loc l = none) (.leaf (Value.bool false, [] ++ ([] ++ rdOf B)))) (.hyp (allE loc l = none → False) (.need (NodesR B v l ∧ List.length l ≤ (65536 : Nat) ∧ List.length (match allE loc l with | some x => x | none => []) = List.length l) (.need (Sy.GotL ([] ++ List.eraseIdx (Blk.mk (Let.n (ns 0)) (.row (4 : Nat) (1 : Nat)
 (Sy.lenS v) (Int.toNat (Int.ofNat (Sy.lenS v))) (boolsV (match allE loc l with | some x => x | none => []))) true :: ([] ++ rdOf B)) (nat_lit 0)) B) (.both (.hyp (∃ (i : Nat), i + (1 : Nat) < List.length l ∧ List.getD (match allE loc l with | some x => x | none => []) i false = false) (.leaf (Value.bool false, [] ++ ([] ++ List.eraseIdx (Blk.mk (Let.n (ns 0)) (.row (4 : Nat) (1 : Nat) (Sy.lenS v) (Int.toNat (Int.ofNat (Sy.lenS v))) (boolsV (match allE loc l with | some x => x | none => []))) true :: ([] ++ rdOf B)) (nat_lit 0))))) (.hyp (lacksU (List.length l) (match allE loc l with | some x => x | none => []) → False) (.leaf (Value.bool true, [] ++ ([] ++ List.eraseIdx (Blk.mk (Let.n (ns 0)) (.row (4 : Nat) (1 : Nat) (Sy.lenS v) (Int.toNat (Int.ofNat (Sy.lenS v))) (boolsV (match allE loc l with | some x => x | none => []))) true :: ([] ++ rdOf B)) (nat_lit 0))))))))))))))))

theorem enx_run (B : List (Nat × Sy.Cont)) (v : Value) (loc : Int) (l : List NodeD) : Sy.Ran (Sy.inB Try.prog (ctxE B v loc l) 50 fRExpr #[v, .int .i64 loc] (rdOf B)) enx_o (enx_R B v loc l) := ⟨fun ns => by kernel_rfl, fun ns => by kernel_rfl⟩

end Go.Proofs.Ytbgmkefehfjicaa

/-
  The reference's look at an expression: the contract.
-/
namespace Go.Proofs.Ytbgmkefehfjicaa
open Go Go.RowKit
open Sy (Let Blk HasL)

theorem runE_len {loc : Int} : ∀ {l : List NodeD} {i : Nat} {u w : List Bool}, runE loc i l u = some w → w.length = u.length
  | [], _, u, w, h => by injection h with h; rw [h]
  | n :: l, i, u, w, h => by
    simp only [runE] at h
    split at h
    · cases h
    · rename_i x hx
      rw [runE_len h, stepE_len hx]
theorem allE_len {loc : Int} {l : List NodeD} {w : List Bool} (h : allE loc l = some w) : w.length = l.length := by
  rw [runE_len h]
  simp

open Classical in
/-- What the reference's Expression says. -/
noncomputable def exprR (loc : Int) (l : List NodeD) : Bool := decide (0 < l.length ∧ l.length ≤ 65536 ∧ ∃ u, allE loc l = some u ∧ ¬ lacksU l.length u)

noncomputable def rexprC (B : List (Nat × Sy.Cont)) (v : Value) (l : List NodeD) (loc : Int) : Sy.CallC := ⟨fRExpr, #[v, .int .i64 loc], OkX B v l, ⟨[], [], 0, B⟩, [Sy.plainO (.bool (exprR loc l))]⟩

open Classical in
theorem rexprC_met (B : List (Nat × Sy.Cont)) (v : Value) (l : List NodeD) (loc : Int) : Sy.Meets Try.prog (rexprC B v l loc) := by
  refine Sy.meets_ofB (ctxE_holds B v loc l) mixed (L := rdOf B) (Sy.Ent.refl _) (enx_run B v loc l) fun hok ns => ?_
  obtain ⟨hR, hlen⟩ := hok
  have leaf : ∀ (b : Bool) (L : List Blk), b = exprR loc l → Sy.leafB (rexprC B v l loc) (.bool b, L) := fun b L h => plainB_leaf (List.mem_singleton_self _) rfl (by rw [h])
  simp only [enx_R, Sy.Res.holds]
  have e : Int.toNat (Int.ofNat (Sy.lenS v)) = l.length := by rw [hR.len]; rfl
  refine ⟨hR.sl, hR.sl, fun hb => leaf _ _ ?_, fun hb => ?_⟩
  · refine (decide_eq_false ?_).symm
    rintro ⟨h0, h1, _⟩
    rw [hR.len, Ex.eqQ_eq, Ex.ltQ_eq] at hb
    have h2 : l ≠ [] := fun h => by rw [h] at h0; simp at h0
    simp [h2] at hb
    omega
  · have hl : 0 < l.length ∧ l.length ≤ 65536 := by
      rw [hR.len, Ex.eqQ_eq, Ex.ltQ_eq] at hb
      cases hl : l with
      | nil => rw [hl] at hb; simp at hb
      | cons a r =>
        rw [hl] at hb
        simp at hb
        simp
        omega
    refine ⟨hR.sl, ⟨by simp, by rw [e]; omega, by rw [e]; omega⟩, ⟨hR, hlen⟩, gotL_of (fun p hp => by simpa using hp), fun h => leaf _ _ ?_, fun h => ?_⟩
    · refine (decide_eq_false ?_).symm
      rintro ⟨_, _, u, hu, _⟩
      rw [h] at hu
      cases hu
    · cases hu : allE loc l with
      | none => exact absurd hu h
      | some u =>
        refine ⟨⟨hR, hl.2, allE_len hu⟩, gotL_of (fun p hp => by simp [hp]), fun h => leaf _ _ ?_, fun h => leaf _ _ ?_⟩
        · refine (decide_eq_false ?_).symm
          rintro ⟨_, _, w, hw, hn⟩
          rw [hu] at hw
          injection hw with hw
          subst hw
          exact hn h
        · exact (decide_eq_true ⟨hl.1, hl.2, u, hu, h⟩).symm

end Go.Proofs.Ytbgmkefehfjicaa

/-
  The reference's look at an act: modes, places, powers.
-/
namespace Go.Proofs.Ytbgmkefehfjicaa
set_option linter.unusedVariables false
set_option linter.unusedSimpArgs false
open Go Go.RowKit
open Sy (Let Blk HasL)

abbrev fRPower : FuncId := 32
abbrev fRMay : FuncId := 44
abbrev fRsets : FuncId := 45
abbrev fRplaced : FuncId := 46
abbrev fRAct : FuncId := 20

def rmy_o : Sy.O := (Sy.O.fork (Sy.O.steps [1, 1] Sy.O.nil) (Sy.O.fork (Sy.O.steps [1, 1] Sy.O.nil) (Sy.O.fork (Sy.O.steps [0, 1] Sy.O.nil) (Sy.O.fork (Sy.O.steps [0, 1] Sy.O.nil) (Sy.O.fork (Sy.O.steps [1] Sy.O.nil) (Sy.O.fork (Sy.O.steps [1] Sy.O.nil) Sy.O.nil))))))
noncomputable def rmy_R (op : Int) (mode : Int) (ns : Nat → Sy.Let) : Sy.Res (Value × List Blk) := .br (Ex.eqQ op (2 : Int)) (.leaf (Value.bool (bif bif Ex.eqQ mode (1 : Int) then true else Ex.eqQ mode (2 : Int) then true else Ex.eqQ mode (5 : Int)), [])) (.br (Ex.eqQ op (3 : Int)) (.leaf (Value.bool (bif bif Ex.eqQ mode (1 : Int) then true else Ex.eqQ mode (3 : Int) then true else Ex.eqQ mode (5 : Int)), [])) (.br (Ex.eqQ op (4 : Int)) (.leaf (Value.bool (bif Ex.leQ (1 : Int) mode then Ex.leQ mode (5 : Int) else false), [])) (.br (Ex.eqQ op (5 : Int)) (.leaf (Value.bool (bif Ex.leQ (1 : Int) mode then Ex.leQ mode (5 : Int) else false), [])) (.br (Ex.eqQ op (6 : Int)) (.leaf (Value.bool (bif Ex.leQ (1 : Int) mode then Ex.leQ mode (5 : Int) else false), [])) (.br (Ex.eqQ op (7 : Int)) (.leaf (Value.bool (bif Ex.leQ (2 : Int) mode then Ex.leQ mode (5 : Int) else false), [])) (.leaf (Value.bool (Ex.eqQ mode (0 : Int)), [])))))))

theorem rmy_run (op mode : Int) : Sy.Ran (Sy.inB Try.prog Sy.S0 50 fRMay #[.int .i64 op, .int .i64 mode] []) rmy_o (rmy_R op mode) := ⟨fun ns => by kernel_rfl, fun ns => by kernel_rfl⟩
def rst_o : Sy.O := (Sy.O.pack 4 0x8421 Sy.O.nil)
noncomputable def rst_R (op : Int) (ns : Nat → Sy.Let) : Sy.Res (Value × List Blk) := .leaf (Value.bool (bif bif bif bif Ex.eqQ op (1 : Int) then true else Ex.eqQ op (2 : Int) then true else Ex.eqQ op (4 : Int) then true else Ex.eqQ op (5 : Int) then true else Ex.eqQ op (6 : Int)), [])

theorem rst_run (op : Int) : Sy.Ran (Sy.inB Try.prog Sy.S0 50 fRsets #[.int .i64 op] []) rst_o (rst_R op) := ⟨fun ns => by kernel_rfl, fun ns => by kernel_rfl⟩
def rpl_o : Sy.O := (Sy.O.pack 4 0x8421 Sy.O.nil)
noncomputable def rpl_R (op : Int) (ns : Nat → Sy.Let) : Sy.Res (Value × List Blk) := .leaf (Value.bool (bif bif bif bif Ex.eqQ op (2 : Int) then true else Ex.eqQ op (3 : Int) then true else Ex.eqQ op (4 : Int) then true else Ex.eqQ op (5 : Int) then true else Ex.eqQ op (6 : Int)), [])

theorem rpl_run (op : Int) : Sy.Ran (Sy.inB Try.prog Sy.S0 50 fRplaced #[.int .i64 op] []) rpl_o (rpl_R op) := ⟨fun ns => by kernel_rfl, fun ns => by kernel_rfl⟩
def rpw_o : Sy.O := (Sy.O.steps [0] (Sy.O.fork Sy.O.nil (Sy.O.steps [0] (Sy.O.fork Sy.O.nil (Sy.O.steps [0] (Sy.O.fork Sy.O.nil (Sy.O.steps [0] (Sy.O.fork Sy.O.nil (Sy.O.steps [0] (Sy.O.fork Sy.O.nil (Sy.O.steps [0] (Sy.O.fork Sy.O.nil (Sy.O.steps [0] (Sy.O.fork Sy.O.nil (Sy.O.steps [0] (Sy.O.fork Sy.O.nil (Sy.O.steps [0] (Sy.O.fork Sy.O.nil (Sy.O.steps [0] (Sy.O.fork Sy.O.nil (Sy.O.steps [0] (Sy.O.fork Sy.O.nil (Sy.O.steps [0] Sy.O.nil)))))))))))))))))))))))
noncomputable def rpw_R (n : Int) (ns : Nat → Sy.Let) : Sy.Res (Value × List Blk) := .br (Ex.eqQ (1 : Int) n) (.leaf (Value.bool true, [])) (.br (Ex.eqQ (2 : Int) n) (.leaf (Value.bool true, [])) (.br (Ex.eqQ (4 : Int) n) (.leaf (Value.bool true, [])) (.br (Ex.eqQ (8 : Int) n) (.leaf (Value.bool true, [])) (.br (Ex.eqQ (16 : Int) n) (.leaf (Value.bool true, [])) (.br (Ex.eqQ (32 : Int) n) (.leaf (Value.bool true, [])) (.br (Ex.eqQ (64 : Int) n) (.leaf (Value.bool true, [])) (.br (Ex.eqQ (128 : Int) n) (.leaf (Value.bool true, [])) (.br (Ex.eqQ (256 : Int) n) (.leaf (Value.bool true, [])) (.br (Ex.eqQ (512 : Int) n) (.leaf (Value.bool true, [])) (.br (Ex.eqQ (1024 : Int) n) (.leaf (Value.bool true, [])) (.leaf (Value.bool false, []))))))))))))

theorem rpw_run (n : Int) : Sy.Ran (Sy.inB Try.prog Sy.S0 50 fRPower #[.int .i64 n] []) rpw_o (rpw_R n) := ⟨fun ns => by kernel_rfl, fun ns => by kernel_rfl⟩

end Go.Proofs.Ytbgmkefehfjicaa

/-
  The reference's look at an act: contracts.
-/
namespace Go.Proofs.Ytbgmkefehfjicaa
open Go Go.RowKit
open Sy (Let Blk HasL)

noncomputable def rmayC (op mode : Int) : Sy.CallC := ⟨fRMay, #[.int .i64 op, .int .i64 mode], True, ⟨[], [], 0, []⟩, [Sy.plainO (.bool (mayF op mode))]⟩
theorem rmayC_met (op mode : Int) : Sy.Meets Try.prog (rmayC op mode) := by
  refine Sy.meets_ofB Sy.S0_holds mixed (L := []) (Sy.Ent.refl _) (rmy_run op mode) fun _ ns => ?_
  simp only [rmy_R, Sy.Res.holds]
  have leaf : ∀ b, b = mayF op mode → Sy.leafB (rmayC op mode) (.bool b, []) := fun b h => plainB_leaf (List.mem_singleton_self _) rfl (by rw [h])
  unfold mayF at leaf
  refine ⟨fun h1 => leaf _ ?_, fun h1 => ⟨fun h2 => leaf _ ?_, fun h2 => ⟨fun h3 => leaf _ ?_, fun h3 => ⟨fun h4 => leaf _ ?_, fun h4 => ⟨fun h5 => leaf _ ?_, fun h5 => ⟨fun h6 => leaf _ ?_, fun h6 => leaf _ ?_⟩⟩⟩⟩⟩⟩
  all_goals simp_all

def setsC (op : Int) : Sy.CallC := ⟨fRsets, #[.int .i64 op], True, ⟨[], [], 0, []⟩, [Sy.plainO (.bool (hasDst op))]⟩
theorem setsC_met (op : Int) : Sy.Meets Try.prog (setsC op) := by
  refine Sy.meets_ofB Sy.S0_holds mixed (L := []) (Sy.Ent.refl _) (rst_run op) fun _ ns => ?_
  simp only [rst_R, Sy.Res.holds]
  refine plainB_leaf (List.mem_singleton_self _) rfl ?_
  simp only [Ex.eqQ_eq, hasDst]
  by_cases h1 : op = 1 <;> by_cases h2 : op = 2 <;> by_cases h4 : op = 4 <;> by_cases h5 : op = 5 <;> by_cases h6 : op = 6 <;> simp [h1, h2, h4, h5, h6]

def placedC (op : Int) : Sy.CallC := ⟨fRplaced, #[.int .i64 op], True, ⟨[], [], 0, []⟩, [Sy.plainO (.bool (hasPlace op))]⟩
theorem placedC_met (op : Int) : Sy.Meets Try.prog (placedC op) := by
  refine Sy.meets_ofB Sy.S0_holds mixed (L := []) (Sy.Ent.refl _) (rpl_run op) fun _ ns => ?_
  simp only [rpl_R, Sy.Res.holds]
  refine plainB_leaf (List.mem_singleton_self _) rfl ?_
  have e : hasPlace op = decide (op = 2 ∨ op = 3 ∨ op = 4 ∨ op = 5 ∨ op = 6) := by
    unfold hasPlace
    congr 1
    exact propext ⟨fun h => by omega, fun h => by omega⟩
  simp only [Ex.eqQ_eq, e]
  by_cases h1 : op = 2 <;> by_cases h2 : op = 3 <;> by_cases h4 : op = 4 <;> by_cases h5 : op = 5 <;> by_cases h6 : op = 6 <;> simp [h1, h2, h4, h5, h6]

/-- The powers of two up to 1024. -/
def powF (n : Int) : Bool := decide (n = 1 ∨ n = 2 ∨ n = 4 ∨ n = 8 ∨ n = 16 ∨ n = 32 ∨ n = 64 ∨ n = 128 ∨ n = 256 ∨ n = 512 ∨ n = 1024)
def powC (n : Int) : Sy.CallC := ⟨fRPower, #[.int .i64 n], True, ⟨[], [], 0, []⟩, [Sy.plainO (.bool (powF n))]⟩
theorem powC_met (n : Int) : Sy.Meets Try.prog (powC n) := by
  refine Sy.meets_ofB Sy.S0_holds mixed (L := []) (Sy.Ent.refl _) (rpw_run n) fun _ ns => ?_
  simp only [rpw_R, Sy.Res.holds]
  have leaf : ∀ b, b = powF n → Sy.leafB (powC n) (.bool b, []) := fun b h => plainB_leaf (List.mem_singleton_self _) rfl (by rw [h])
  simp only [Ex.eqQ_eq]
  repeat' (first | apply And.intro | intro _)
  all_goals
    refine leaf _ ?_
    simp only [beq_iff_eq, beq_eq_false_iff_ne, ne_eq] at *
    first
    | exact (decide_eq_true (by omega)).symm
    | exact (decide_eq_false (by omega)).symm

noncomputable def ctxR (B : List (Nat × Sy.Cont)) (op size mode : Int) (iv ev fv : Value) (ix e f : List NodeD) (loc : Int) : Sy.Ctx := Sy.mkS [(fRMay, fun _ _ => rmayC op mode), (fRsets, fun _ _ => setsC op), (fRplaced, fun _ _ => placedC op), (fRPower, fun _ _ => powC size), (fRExpr, fun _ _ => rexprC B iv ix loc), (fRExpr, fun _ _ => rexprC B ev e loc), (fRExpr, fun _ _ => rexprC B fv f loc)] [] []
theorem ctxR_holds (B : List (Nat × Sy.Cont)) (op size mode : Int) (iv ev fv : Value) (ix e f : List NodeD) (loc : Int) : (ctxR B op size mode iv ev fv ix e f loc).holds Try.prog := Sy.mkS_holds (fun p hp a L => by
  simp only [List.mem_cons, List.not_mem_nil, or_false] at hp
  rcases hp with rfl | rfl | rfl | rfl | rfl | rfl | rfl
  · exact rmayC_met _ _
  · exact setsC_met _
  · exact placedC_met _
  · exact powC_met _
  · exact rexprC_met _ _ _ _
  · exact rexprC_met _ _ _ _
  · exact rexprC_met _ _ _ _) (fun _ h => (by cases h)) (fun _ h => (by cases h))

def setsX (op : Int) : Sy.CallC := ⟨fRsets, #[.int .i64 op], False, ⟨[], [], 0, []⟩, [Sy.plainO (.bool false)]⟩
def placedX (op : Int) : Sy.CallC := ⟨fRplaced, #[.int .i64 op], False, ⟨[], [], 0, []⟩, [Sy.plainO (.bool false)]⟩
def exprX (args : Array Value) : Sy.CallC := ⟨fRExpr, args, False, ⟨[], [], 0, []⟩, [Sy.plainO (.bool false)]⟩
/-- For numbers that no act has: nothing is asked behind. -/
noncomputable def ctxZ (op mode : Int) : Sy.Ctx := Sy.mkS [(fRMay, fun _ _ => rmayC op mode), (fRsets, fun _ _ => setsX op), (fRplaced, fun _ _ => placedX op), (fRExpr, fun args _ => exprX args)] [] []
theorem ctxZ_holds (op mode : Int) : (ctxZ op mode).holds Try.prog := Sy.mkS_holds (fun p hp a L => by
  simp only [List.mem_cons, List.not_mem_nil, or_false] at hp
  rcases hp with rfl | rfl | rfl | rfl
  · exact rmayC_met _ _
  · exact fun h => h.elim
  · exact fun h => h.elim
  · exact fun h => h.elim) (fun _ h => (by cases h)) (fun _ h => (by cases h))

end Go.Proofs.Ytbgmkefehfjicaa
