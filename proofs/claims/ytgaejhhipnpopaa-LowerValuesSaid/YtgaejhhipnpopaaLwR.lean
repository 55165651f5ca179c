/-
  Instructions that are run, by the reference.
-/
import Derived.Test.YtgaejhhipnpopaaLwS
namespace Go.Proofs.Ytgaejhhipnpopaa
set_option linter.unusedVariables false
set_option linter.unusedSimpArgs false
open Go Go.RowKit
open Sy (Let Blk)

abbrev fRun : FuncId := 17
abbrev tR : TypeId := 42
noncomputable def bodyR : Code := Sy.loopBody Try.f17 0

def regC (xs : List Int) : List Value := xs.map (Value.int .u64)
def regA (xs : List Int) : Array Value := (regC xs).toArray
def regO (xs : List Int) : Sy.Cont := .obj (.cells (regA xs) tR (0, 0))

def slR (gl ol cl n gr g4 k : Nat) : List (Nat × Value) := [(1, .slice (some ⟨gl, ol, none⟩) n cl), (2, .pointer (some ⟨gr, 0, none⟩)), (4, .pointer (some ⟨g4, 0, none⟩)), (5, .bool false), (6, .int .i64 k)]
def memR (gl ol gr g4 : Nat) (ys : List Value) (xs zs : List Int) : List Blk := [⟨gl, .seg ol ys, false⟩, ⟨gr, regO xs, true⟩, ⟨g4, regO zs, true⟩]

def shR (c : Int) : Nat := Int.toNat (Ex.wrapQ .u64 (Ex.wrapQ .i64 (Ex.mulQ 16 (Ex.andQ .i64 c 3))))
/-- holds. -/
def condB (a b c : Int) : Bool := if c = 0 then Ex.eqQ a b else if c = 1 then !Ex.eqQ a b else if c = 2 then Ex.leQ b a else if c = 3 then Ex.ltQ a b else if c = 8 then Ex.ltQ b a else Ex.leQ a b
abbrev fHolds : FuncId := 34
/-- Of a struct whose last two cells are known. -/
def holdsA (C : Array Value) (a b c : Int) : Sy.CallC := ⟨fHolds, #[.agg C, .int .i64 c], C.size = 34 ∧ C[32]? = some (.int .u64 a) ∧ C[33]? = some (.int .u64 b), ⟨[], [], 0⟩, [Sy.plainO (.bool (condB a b c))]⟩
def hold_o : Sy.O := (Sy.O.fork (Sy.O.steps [0, 1, 1, 1, 0, 1, 1, 1] Sy.O.nil) (Sy.O.fork (Sy.O.steps [0, 1, 1, 1, 0, 1, 1, 1] Sy.O.nil) (Sy.O.fork (Sy.O.steps [0, 1, 1, 1, 0, 1, 1, 1] Sy.O.nil) (Sy.O.fork (Sy.O.steps [0, 1, 1, 1, 0, 1, 1, 1] Sy.O.nil) (Sy.O.fork (Sy.O.steps [0, 1, 1, 1, 0, 1, 1, 1] Sy.O.nil) (Sy.O.steps [0, 1, 1, 1, 0, 1, 1, 1] Sy.O.nil))))))
noncomputable def hold_R (C : Array Value) (a : Int) (b : Int) (c : Int) (ns : Nat → Sy.Let) : Sy.Res (Value × List Blk) := Sy.Res.br (Ex.eqQ c (0 : Int))
 (Sy.Res.need
 (∃ (i : Int), Sy.Cont.at (Sy.Cont.obj (Obj.cells C (42 : Nat))) (32 : Nat) = some (Value.int IntKind.u64 i))
 (Sy.Res.hyp
 (Sy.Cont.at (Sy.Cont.obj (Obj.cells C (42 : Nat))) (32 : Nat) =
 some (Value.int IntKind.u64 (Let.i (ns (1 : Nat)))))
 (Sy.Res.need
 (∃ (i : Int), Sy.Cont.at (Sy.Cont.obj (Obj.cells C (42 : Nat))) (33 : Nat) = some (Value.int IntKind.u64 i))
 (Sy.Res.hyp
 (Sy.Cont.at (Sy.Cont.obj (Obj.cells C (42 : Nat))) (33 : Nat) =
 some (Value.int IntKind.u64 (Let.i (ns (2 : Nat)))))
 (Sy.Res.leaf (Value.bool (Ex.eqQ (Let.i (ns (1 : Nat))) (Let.i (ns (2 : Nat)))), []))))))
 (Sy.Res.br (Ex.eqQ c (1 : Int))
 (Sy.Res.need
 (∃ (i : Int), Sy.Cont.at (Sy.Cont.obj (Obj.cells C (42 : Nat))) (32 : Nat) = some (Value.int IntKind.u64 i))
 (Sy.Res.hyp
 (Sy.Cont.at (Sy.Cont.obj (Obj.cells C (42 : Nat))) (32 : Nat) =
 some (Value.int IntKind.u64 (Let.i (ns (1 : Nat)))))
 (Sy.Res.need
 (∃ (i : Int), Sy.Cont.at (Sy.Cont.obj (Obj.cells C (42 : Nat))) (33 : Nat) = some (Value.int IntKind.u64 i))
 (Sy.Res.hyp
 (Sy.Cont.at (Sy.Cont.obj (Obj.cells C (42 : Nat))) (33 : Nat) =
 some (Value.int IntKind.u64 (Let.i (ns (2 : Nat)))))
 (Sy.Res.leaf (Value.bool !Ex.eqQ (Let.i (ns (1 : Nat))) (Let.i (ns (2 : Nat))), []))))))
 (Sy.Res.br (Ex.eqQ c (2 : Int))
 (Sy.Res.need
 (∃ (i : Int), Sy.Cont.at (Sy.Cont.obj (Obj.cells C (42 : Nat))) (32 : Nat) = some (Value.int IntKind.u64 i))
 (Sy.Res.hyp
 (Sy.Cont.at (Sy.Cont.obj (Obj.cells C (42 : Nat))) (32 : Nat) =
 some (Value.int IntKind.u64 (Let.i (ns (1 : Nat)))))
 (Sy.Res.need
 (∃ (i : Int), Sy.Cont.at (Sy.Cont.obj (Obj.cells C (42 : Nat))) (33 : Nat) = some (Value.int IntKind.u64 i))
 (Sy.Res.hyp
 (Sy.Cont.at (Sy.Cont.obj (Obj.cells C (42 : Nat))) (33 : Nat) =
 some (Value.int IntKind.u64 (Let.i (ns (2 : Nat)))))
 (Sy.Res.leaf (Value.bool (Ex.leQ (Let.i (ns (2 : Nat))) (Let.i (ns (1 : Nat)))), []))))))
 (Sy.Res.br (Ex.eqQ c (3 : Int))
 (Sy.Res.need
 (∃ (i : Int), Sy.Cont.at (Sy.Cont.obj (Obj.cells C (42 : Nat))) (32 : Nat) = some (Value.int IntKind.u64 i))
 (Sy.Res.hyp
 (Sy.Cont.at (Sy.Cont.obj (Obj.cells C (42 : Nat))) (32 : Nat) =
 some (Value.int IntKind.u64 (Let.i (ns (1 : Nat)))))
 (Sy.Res.need
 (∃ (i : Int),
 Sy.Cont.at (Sy.Cont.obj (Obj.cells C (42 : Nat))) (33 : Nat) = some (Value.int IntKind.u64 i))
 (Sy.Res.hyp
 (Sy.Cont.at (Sy.Cont.obj (Obj.cells C (42 : Nat))) (33 : Nat) =
 some (Value.int IntKind.u64 (Let.i (ns (2 : Nat)))))
 (Sy.Res.leaf (Value.bool (Ex.ltQ (Let.i (ns (1 : Nat))) (Let.i (ns (2 : Nat)))), []))))))
 (Sy.Res.br (Ex.eqQ c (8 : Int))
 (Sy.Res.need
 (∃ (i : Int), Sy.Cont.at (Sy.Cont.obj (Obj.cells C (42 : Nat))) (32 : Nat) = some (Value.int IntKind.u64 i))
 (Sy.Res.hyp
 (Sy.Cont.at (Sy.Cont.obj (Obj.cells C (42 : Nat))) (32 : Nat) =
 some (Value.int IntKind.u64 (Let.i (ns (1 : Nat)))))
 (Sy.Res.need
 (∃ (i : Int),
 Sy.Cont.at (Sy.Cont.obj (Obj.cells C (42 : Nat))) (33 : Nat) = some (Value.int IntKind.u64 i))
 (Sy.Res.hyp
 (Sy.Cont.at (Sy.Cont.obj (Obj.cells C (42 : Nat))) (33 : Nat) =
 some (Value.int IntKind.u64 (Let.i (ns (2 : Nat)))))
 (Sy.Res.leaf (Value.bool (Ex.ltQ (Let.i (ns (2 : Nat))) (Let.i (ns (1 : Nat)))), []))))))
 (Sy.Res.need
 (∃ (i : Int), Sy.Cont.at (Sy.Cont.obj (Obj.cells C (42 : Nat))) (32 : Nat) = some (Value.int IntKind.u64 i))
 (Sy.Res.hyp
 (Sy.Cont.at (Sy.Cont.obj (Obj.cells C (42 : Nat))) (32 : Nat) =
 some (Value.int IntKind.u64 (Let.i (ns (1 : Nat)))))
 (Sy.Res.need
 (∃ (i : Int),
 Sy.Cont.at (Sy.Cont.obj (Obj.cells C (42 : Nat))) (33 : Nat) = some (Value.int IntKind.u64 i))
 (Sy.Res.hyp
 (Sy.Cont.at (Sy.Cont.obj (Obj.cells C (42 : Nat))) (33 : Nat) =
 some (Value.int IntKind.u64 (Let.i (ns (2 : Nat)))))
 (Sy.Res.leaf (Value.bool (Ex.leQ (Let.i (ns (1 : Nat))) (Let.i (ns (2 : Nat)))), []))))))))))
theorem hold_run (C : Array Value) (a b c : Int) : Sy.Ran (Sy.inT Try.prog Sy.S0 50 fHolds (holdsA C a b c).args [] Sy.noB) hold_o (hold_R C a b c) := ⟨fun ns => by kernel_rfl, fun ns => by kernel_rfl⟩

/-- One instruction: the registers (32 of them, and the two numbers that were compared). -/
def stepR (xs : List Int) (i : I) : Option (List Int) :=
  if i.rd < 0 then none else if 30 < i.rd then none else if i.rn < 0 then none else if 31 < i.rn then none else if i.rm < 0 then none else if 31 < i.rm then none else
  let ys := xs.set 31 0
  let n := ys.getD i.rn.toNat 0
  let m := ys.getD i.rm.toNat 0
  let put := fun v => some (ys.set i.rd.toNat v)
  if i.op = 1 then put (Ex.shlQ .u64 (Ex.wrapQ .u64 i.imm) (shR i.cond))
  else if i.op = 2 then put (Ex.orQ .u64 (Ex.andNotQ .u64 (ys.getD i.rd.toNat 0) (Ex.shlQ .u64 65535 (shR i.cond))) (Ex.shlQ .u64 (Ex.wrapQ .u64 i.imm) (shR i.cond)))
  else if i.op = 3 then put (Ex.wrapQ .u64 (Ex.addQ n m))
  else if i.op = 4 then put (Ex.wrapQ .u64 (Ex.subQ' n m))
  else if i.op = 9 then put (Ex.wrapQ .u64 (Ex.mulQ n m))
  else if i.op = 5 then put (Ex.andQ .u64 n m)
  else if i.op = 6 then put (Ex.orQ .u64 n m)
  else if i.op = 7 then put (Ex.xorQ .u64 n m)
  else if i.op = 8 then put (Ex.orQ .u64 n (Ex.xorQ .u64 18446744073709551615 m))
  else if i.op = 10 then put (Ex.shlQ .u64 n (Int.toNat (Ex.andQ .u64 m 63)))
  else if i.op = 11 then put (Ex.shrQ .u64 n (Int.toNat (Ex.andQ .u64 m 63)))
  else if i.op = 14 then put (Ex.shlQ .u64 n (Int.toNat (Ex.wrapQ .u64 (Ex.andQ .i64 i.imm 63))))
  else if i.op = 16 then some ((ys.set 32 n).set 33 m)
  else if i.op = 17 then put (if condB (xs.getD 32 0) (xs.getD 33 0) i.cond = true then 1 else 0)
  else none

def runL : List Int → List I → Option (List Int)
  | xs, [] => some xs
  | xs, i :: l => match stepR xs i with
    | some ys => runL ys l
    | none => none

noncomputable def ctxR (xs : List Int) : Sy.Ctx := Sy.mkS [(fHolds, fun a _ => holdsA (Sy.argA a 0) (xs.getD 32 0) (xs.getD 33 0) (Sy.argI a 1))] [] []
def runB_o : Sy.O := (Sy.O.fork (Sy.O.steps [1, 0, 1, 1, 1, 1, 1, 1, 1, 1, 0, 0, 0, 0, 0, 1, 0, 0, 1, 0, 0, 1, 0, 0, 1, 0, 0, 1, 0, 0] (Sy.O.fork (Sy.O.steps [2, 1, 0, 0, 3, 1] Sy.O.nil) (Sy.O.steps [0, 2, 0, 1, 0, 0, 1, 2, 1, 1, 1, 0, 0, 1, 2, 1, 1, 1, 0, 0] (Sy.O.fork (Sy.O.steps [0, 0, 0, 0, 1, 0, 0, 1, 2, 0, 1] Sy.O.nil) (Sy.O.fork (Sy.O.steps [0, 0, 0, 0, 1, 0, 0, 2, 3, 1, 4, 2, 1, 1, 1, 5, 6, 1, 7, 8, 9, 0, 0, 10, 11, 12, 1, 13, 14, 0, 0, 1, 2, 0, 1] Sy.O.nil) (Sy.O.fork (Sy.O.steps [0, 0, 1, 2, 0, 1] Sy.O.nil) (Sy.O.fork (Sy.O.steps [0, 0, 1, 2, 0, 1] Sy.O.nil) (Sy.O.fork (Sy.O.steps [0, 0, 1, 2, 0, 1] Sy.O.nil) (Sy.O.fork (Sy.O.steps [0, 0, 1, 2, 0, 1] Sy.O.nil) (Sy.O.fork (Sy.O.steps [0, 0, 1, 2, 0, 1] Sy.O.nil) (Sy.O.fork (Sy.O.steps [0, 0, 1, 2, 0, 1] Sy.O.nil) (Sy.O.fork (Sy.O.steps [0, 0, 1, 2, 0, 1] Sy.O.nil) (Sy.O.fork (Sy.O.steps [1, 0, 0, 1, 2, 0, 1] Sy.O.nil) (Sy.O.fork (Sy.O.steps [1, 0, 0, 1, 2, 0, 1] Sy.O.nil) (Sy.O.fork (Sy.O.steps [0, 0, 1, 0, 0, 1, 2, 0, 1] Sy.O.nil) (Sy.O.fork (Sy.O.steps [2, 0, 1, 2, 0, 1] Sy.O.nil) (Sy.O.fork (Sy.O.steps [2, 1, 0, 0, 0, 0] (Sy.O.fork (Sy.O.steps [0, 0, 1, 2, 0, 1] Sy.O.nil) (Sy.O.steps [0, 0, 1, 2, 0, 1] Sy.O.nil))) (Sy.O.steps [2, 1, 0, 0, 3, 1] Sy.O.nil)))))))))))))))))) Sy.O.nil)
noncomputable def runB_R (gl : Nat) (ol : Nat) (cl : Nat) (n : Nat) (gr : Nat) (g4 : Nat) (k : Nat) (ys : List Value) (xs : List Int) (zs : List Int) (rest : List Value) (ns : Nat → Sy.Let) : Sy.Res (Exit × Nat × List Value × List Blk) := Sy.Res.br (Ex.ltQ (↑k : Int) (↑n : Int))
 (Sy.Res.need ((0 : Int) ≤ (↑k : Int) ∧ (↑k : Int) < (↑n : Int))
 (Sy.Res.need
 (∃ (i : Int),
 Sy.Cont.at (Sy.Cont.seg ol ys) (ol + Int.toNat (↑k : Int) * (6 : Nat)) = some (Value.int IntKind.i64 i))
 (Sy.Res.hyp
 (Sy.Cont.at (Sy.Cont.seg ol ys) (ol + Int.toNat (↑k : Int) * (6 : Nat)) =
 some (Value.int IntKind.i64 (Let.i (ns (0 : Nat)))))
 (Sy.Res.need
 (∃ (i : Int),
 Sy.Cont.at (Sy.Cont.seg ol ys) (ol + Int.toNat (↑k : Int) * (6 : Nat) + (1 : Nat)) =
 some (Value.int IntKind.i64 i))
 (Sy.Res.hyp
 (Sy.Cont.at (Sy.Cont.seg ol ys) (ol + Int.toNat (↑k : Int) * (6 : Nat) + (1 : Nat)) =
 some (Value.int IntKind.i64 (Let.i (ns (1 : Nat)))))
 (Sy.Res.need
 (∃ (i : Int),
 Sy.Cont.at (Sy.Cont.seg ol ys) (ol + Int.toNat (↑k : Int) * (6 : Nat) + (1 : Nat) + (1 : Nat)) =
 some (Value.int IntKind.i64 i))
 (Sy.Res.hyp
 (Sy.Cont.at (Sy.Cont.seg ol ys) (ol + Int.toNat (↑k : Int) * (6 : Nat) + (1 : Nat) + (1 : Nat)) =
 some (Value.int IntKind.i64 (Let.i (ns (2 : Nat)))))
 (Sy.Res.need
 (∃ (i : Int),
 Sy.Cont.at (Sy.Cont.seg ol ys)
 (ol + Int.toNat (↑k : Int) * (6 : Nat) + (1 : Nat) + (1 : Nat) + (1 : Nat)) =
 some (Value.int IntKind.i64 i))
 (Sy.Res.hyp
 (Sy.Cont.at (Sy.Cont.seg ol ys)
 (ol + Int.toNat (↑k : Int) * (6 : Nat) + (1 : Nat) + (1 : Nat) + (1 : Nat)) =
 some (Value.int IntKind.i64 (Let.i (ns (3 : Nat)))))
 (Sy.Res.need
 (∃ (i : Int),
 Sy.Cont.at (Sy.Cont.seg ol ys)
 (ol + Int.toNat (↑k : Int) * (6 : Nat) + (1 : Nat) + (1 : Nat) + (1 : Nat) + (1 : Nat)) =
 some (Value.int IntKind.i64 i))
 (Sy.Res.hyp
 (Sy.Cont.at (Sy.Cont.seg ol ys)
 (ol + Int.toNat (↑k : Int) * (6 : Nat) + (1 : Nat) + (1 : Nat) + (1 : Nat) + (1 : Nat)) =
 some (Value.int IntKind.i64 (Let.i (ns (4 : Nat)))))
 (Sy.Res.need
 (∃ (i : Int),
 Sy.Cont.at (Sy.Cont.seg ol ys)
 (ol + Int.toNat (↑k : Int) * (6 : Nat) + (1 : Nat) + (1 : Nat) + (1 : Nat) + (1 : Nat) +
 (1 : Nat)) =
 some (Value.int IntKind.i64 i))
 (Sy.Res.hyp
 (Sy.Cont.at (Sy.Cont.seg ol ys)
 (ol + Int.toNat (↑k : Int) * (6 : Nat) + (1 : Nat) + (1 : Nat) + (1 : Nat) + (1 : Nat) +
 (1 : Nat)) =
 some (Value.int IntKind.i64 (Let.i (ns (5 : Nat)))))
 (Sy.Res.br
 (bif
 bif
 bif
 bif
 bif Ex.ltQ (Let.i (ns (1 : Nat))) (0 : Int) then true
 else Ex.ltQ (30 : Int) (Let.i (ns (1 : Nat))) then
 true
 else Ex.ltQ (Let.i (ns (2 : Nat))) (0 : Int) then
 true
 else Ex.ltQ (31 : Int) (Let.i (ns (2 : Nat))) then
 true
 else Ex.ltQ (Let.i (ns (3 : Nat))) (0 : Int) then
 true
 else Ex.ltQ (31 : Int) (Let.i (ns (3 : Nat))))
 (Sy.Res.need (Array.size (regA xs) = (34 : Nat))
 (Sy.Res.need
 (Array.size (regA zs) = Array.size (Array.mk (regC xs)) ∧
 (34 : Nat) = Array.size (Array.mk (regC xs)) ∧
 (Array.all (Array.mk (regC xs)) fun (x : Value) => Value.oneCell' x) = true)
 (Sy.Res.leaf
 (Exit.ret, (172 : Nat),
 [Value.slice (some (Addr.mk gl ol none)) n cl,
 Value.pointer (some (Addr.mk gr (0 : Nat) none)),
 Value.pointer (some (Addr.mk g4 (0 : Nat) none)), Value.bool false,
 Value.int IntKind.i64 (↑k : Int)],
 [Blk.mk (Let.n (ns (6 : Nat)))
 (Sy.Cont.obj
 (Obj.cells
 (Array.mk
 [Value.int IntKind.i64 (Let.i (ns (0 : Nat))),
 Value.int IntKind.i64 (Let.i (ns (1 : Nat))),
 Value.int IntKind.i64 (Let.i (ns (2 : Nat))),
 Value.int IntKind.i64 (Let.i (ns (3 : Nat))),
 Value.int IntKind.i64 (Let.i (ns (4 : Nat))),
 Value.int IntKind.i64 (Let.i (ns (5 : Nat)))])
 (29 : Nat)))
 true,
 Blk.mk gl (Sy.Cont.seg ol ys) false, Blk.mk gr (regO xs) true,
 Blk.mk g4 (Sy.Cont.obj (Obj.cells (Array.mk (regC xs)) (42 : Nat))) true]))))
 (Sy.Res.need ((31 : Nat) < Array.size (regA xs))
 (Sy.Res.need ((0 : Int) ≤ Let.i (ns (2 : Nat)) ∧ Let.i (ns (2 : Nat)) < (32 : Int))
 (Sy.Res.need
 (∃ (i : Int),
 Sy.Cont.at
 (Sy.Cont.obj
 (Obj.cells
 (Array.setIfInBounds (regA xs) (31 : Nat)
 (Value.int IntKind.u64 (0 : Int)))
 (42 : Nat)))
 ((0 : Nat) + Int.toNat (Let.i (ns (2 : Nat))) * (1 : Nat)) =
 some (Value.int IntKind.u64 i))
 (Sy.Res.hyp
 (Sy.Cont.at
 (Sy.Cont.obj
 (Obj.cells
 (Array.setIfInBounds (regA xs) (31 : Nat)
 (Value.int IntKind.u64 (0 : Int)))
 (42 : Nat)))
 ((0 : Nat) + Int.toNat (Let.i (ns (2 : Nat))) * (1 : Nat)) =
 some (Value.int IntKind.u64 (Let.i (ns (7 : Nat)))))
 (Sy.Res.need
 ((0 : Int) ≤ Let.i (ns (3 : Nat)) ∧ Let.i (ns (3 : Nat)) < (32 : Int))
 (Sy.Res.need
 (∃ (i : Int),
 Sy.Cont.at
 (Sy.Cont.obj
 (Obj.cells
 (Array.setIfInBounds (regA xs) (31 : Nat)
 (Value.int IntKind.u64 (0 : Int)))
 (42 : Nat)))
 ((0 : Nat) + Int.toNat (Let.i (ns (3 : Nat))) * (1 : Nat)) =
 some (Value.int IntKind.u64 i))
 (Sy.Res.hyp
 (Sy.Cont.at
 (Sy.Cont.obj
 (Obj.cells
 (Array.setIfInBounds (regA xs) (31 : Nat)
 (Value.int IntKind.u64 (0 : Int)))
 (42 : Nat)))
 ((0 : Nat) + Int.toNat (Let.i (ns (3 : Nat))) * (1 : Nat)) =
 some (Value.int IntKind.u64 (Let.i (ns (8 : Nat)))))
 (Sy.Res.br (Ex.eqQ (Let.i (ns (0 : Nat))) (1 : Int))
 (Sy.Res.need
 ((0 : Int) ≤
 Ex.wrapQ IntKind.u64
 (Ex.wrapQ IntKind.i64
 (Ex.mulQ (16 : Int)
 (Ex.andQ IntKind.i64 (Let.i (ns (5 : Nat))) (3 : Int)))))
 (Sy.Res.need
 ((0 : Int) ≤ Let.i (ns (1 : Nat)) ∧ Let.i (ns (1 : Nat)) < (32 : Int))
 (Sy.Res.need
 ((0 : Nat) + Int.toNat (Let.i (ns (1 : Nat))) * (1 : Nat) <
 Array.size
 (Array.setIfInBounds (regA xs) (31 : Nat)
 (Value.int IntKind.u64 (0 : Int))))
 (Sy.Res.leaf
 (Exit.normal, (172 : Nat),
 [Value.slice (some (Addr.mk gl ol none)) n cl,
 Value.pointer (some (Addr.mk gr (0 : Nat) none)),
 Value.pointer (some (Addr.mk g4 (0 : Nat) none)),
 Value.bool false,
 Value.int IntKind.i64
 (Ex.wrapQ IntKind.i64 (Ex.addQ (↑k : Int) (1 : Int)))],
 [Blk.mk (Let.n (ns (6 : Nat)))
 (Sy.Cont.obj
 (Obj.cells
 (Array.mk
 [Value.int IntKind.i64 (Let.i (ns (0 : Nat))),
 Value.int IntKind.i64 (Let.i (ns (1 : Nat))),
 Value.int IntKind.i64 (Let.i (ns (2 : Nat))),
 Value.int IntKind.i64 (Let.i (ns (3 : Nat))),
 Value.int IntKind.i64 (Let.i (ns (4 : Nat))),
 Value.int IntKind.i64 (Let.i (ns (5 : Nat)))])
 (29 : Nat)))
 true,
 Blk.mk gl (Sy.Cont.seg ol ys) false,
 Blk.mk gr
 (Sy.Cont.obj
 (Obj.cells
 (Array.setIfInBounds
 (Array.setIfInBounds (regA xs) (31 : Nat)
 (Value.int IntKind.u64 (0 : Int)))
 ((0 : Nat) +
 Int.toNat (Let.i (ns (1 : Nat))) * (1 : Nat))
 (Value.int IntKind.u64
 (Ex.shlQ IntKind.u64
 (Ex.wrapQ IntKind.u64 (Let.i (ns (4 : Nat))))
 (Int.toNat
 (Ex.wrapQ IntKind.u64
 (Ex.wrapQ IntKind.i64
 (Ex.mulQ (16 : Int)
 (Ex.andQ IntKind.i64
 (Let.i (ns (5 : Nat))) (3 : Int)))))))))
 (42 : Nat)))
 true,
 Blk.mk g4 (regO zs) true])))))
 (Sy.Res.br (Ex.eqQ (Let.i (ns (0 : Nat))) (2 : Int))
 (Sy.Res.need
 ((0 : Int) ≤ Let.i (ns (1 : Nat)) ∧ Let.i (ns (1 : Nat)) < (32 : Int))
 (Sy.Res.need
 (∃ (i : Int),
 Sy.Cont.at
 (Sy.Cont.obj
 (Obj.cells
 (Array.setIfInBounds (regA xs) (31 : Nat)
 (Value.int IntKind.u64 (0 : Int)))
 (42 : Nat)))
 ((0 : Nat) + Int.toNat (Let.i (ns (1 : Nat))) * (1 : Nat)) =
 some (Value.int IntKind.u64 i))
 (Sy.Res.hyp
 (Sy.Cont.at
 (Sy.Cont.obj
 (Obj.cells
 (Array.setIfInBounds (regA xs) (31 : Nat)
 (Value.int IntKind.u64 (0 : Int)))
 (42 : Nat)))
 ((0 : Nat) + Int.toNat (Let.i (ns (1 : Nat))) * (1 : Nat)) =
 some (Value.int IntKind.u64 (Let.i (ns (9 : Nat)))))
 (Sy.Res.need
 ((0 : Int) ≤
 Ex.wrapQ IntKind.u64
 (Ex.wrapQ IntKind.i64
 (Ex.mulQ (16 : Int)
 (Ex.andQ IntKind.i64 (Let.i (ns (5 : Nat)))
 (3 : Int)))))
 (Sy.Res.need
 ((0 : Int) ≤
 Ex.wrapQ IntKind.u64
 (Ex.wrapQ IntKind.i64
 (Ex.mulQ (16 : Int)
 (Ex.andQ IntKind.i64 (Let.i (ns (5 : Nat)))
 (3 : Int)))))
 (Sy.Res.need
 ((0 : Int) ≤ Let.i (ns (1 : Nat)) ∧
 Let.i (ns (1 : Nat)) < (32 : Int))
 (Sy.Res.need
 ((0 : Nat) +
 Int.toNat (Let.i (ns (1 : Nat))) * (1 : Nat) <
 Array.size
 (Array.setIfInBounds (regA xs) (31 : Nat)
 (Value.int IntKind.u64 (0 : Int))))
 (Sy.Res.leaf
 (Exit.normal, (172 : Nat),
 [Value.slice (some (Addr.mk gl ol none)) n cl,
 Value.pointer (some (Addr.mk gr (0 : Nat) none)),
 Value.pointer (some (Addr.mk g4 (0 : Nat) none)),
 Value.bool false,
 Value.int IntKind.i64
 (Ex.wrapQ IntKind.i64
 (Ex.addQ (↑k : Int) (1 : Int)))],
 [Blk.mk (Let.n (ns (6 : Nat)))
 (Sy.Cont.obj
 (Obj.cells
 (Array.mk
 [Value.int IntKind.i64
 (Let.i (ns (0 : Nat))),
 Value.int IntKind.i64
 (Let.i (ns (1 : Nat))),
 Value.int IntKind.i64
 (Let.i (ns (2 : Nat))),
 Value.int IntKind.i64
 (Let.i (ns (3 : Nat))),
 Value.int IntKind.i64
 (Let.i (ns (4 : Nat))),
 Value.int IntKind.i64
 (Let.i (ns (5 : Nat)))])
 (29 : Nat)))
 true,
 Blk.mk gl (Sy.Cont.seg ol ys) false,
 Blk.mk gr
 (Sy.Cont.obj
 (Obj.cells
 (Array.setIfInBounds
 (Array.setIfInBounds (regA xs) (31 : Nat)
 (Value.int IntKind.u64 (0 : Int)))
 ((0 : Nat) +
 Int.toNat (Let.i (ns (1 : Nat))) *
 (1 : Nat))
 (Value.int IntKind.u64
 (Ex.orQ IntKind.u64
 (Ex.andNotQ IntKind.u64
 (Let.i (ns (9 : Nat)))
 (Ex.shlQ IntKind.u64 (65535 : Int)
 (Int.toNat
 (Ex.wrapQ IntKind.u64
 (Ex.wrapQ IntKind.i64
 (Ex.mulQ (16 : Int)
 (Ex.andQ IntKind.i64
 (Let.i (ns (5 : Nat)))
 (3 : Int))))))))
 (Ex.shlQ IntKind.u64
 (Ex.wrapQ IntKind.u64
 (Let.i (ns (4 : Nat))))
 (Int.toNat
 (Ex.wrapQ IntKind.u64
 (Ex.wrapQ IntKind.i64
 (Ex.mulQ (16 : Int)
 (Ex.andQ IntKind.i64
 (Let.i (ns (5 : Nat)))
 (3 : Int))))))))))
 (42 : Nat)))
 true,
 Blk.mk g4 (regO zs) true])))))))))
 (Sy.Res.br (Ex.eqQ (Let.i (ns (0 : Nat))) (3 : Int))
 (Sy.Res.need
 ((0 : Int) ≤ Let.i (ns (1 : Nat)) ∧
 Let.i (ns (1 : Nat)) < (32 : Int))
 (Sy.Res.need
 ((0 : Nat) + Int.toNat (Let.i (ns (1 : Nat))) * (1 : Nat) <
 Array.size
 (Array.setIfInBounds (regA xs) (31 : Nat)
 (Value.int IntKind.u64 (0 : Int))))
 (Sy.Res.leaf
 (Exit.normal, (172 : Nat),
 [Value.slice (some (Addr.mk gl ol none)) n cl,
 Value.pointer (some (Addr.mk gr (0 : Nat) none)),
 Value.pointer (some (Addr.mk g4 (0 : Nat) none)),
 Value.bool false,
 Value.int IntKind.i64
 (Ex.wrapQ IntKind.i64 (Ex.addQ (↑k : Int) (1 : Int)))],
 [Blk.mk (Let.n (ns (6 : Nat)))
 (Sy.Cont.obj
 (Obj.cells
 (Array.mk
 [Value.int IntKind.i64 (Let.i (ns (0 : Nat))),
 Value.int IntKind.i64 (Let.i (ns (1 : Nat))),
 Value.int IntKind.i64 (Let.i (ns (2 : Nat))),
 Value.int IntKind.i64 (Let.i (ns (3 : Nat))),
 Value.int IntKind.i64 (Let.i (ns (4 : Nat))),
 Value.int IntKind.i64 (Let.i (ns (5 : Nat)))])
 (29 : Nat)))
 true,
 Blk.mk gl (Sy.Cont.seg ol ys) false,
 Blk.mk gr
 (Sy.Cont.obj
 (Obj.cells
 (Array.setIfInBounds
 (Array.setIfInBounds (regA xs) (31 : Nat)
 (Value.int IntKind.u64 (0 : Int)))
 ((0 : Nat) +
 Int.toNat (Let.i (ns (1 : Nat))) * (1 : Nat))
 (Value.int IntKind.u64
 (Ex.wrapQ IntKind.u64
 (Ex.addQ (Let.i (ns (7 : Nat)))
 (Let.i (ns (8 : Nat)))))))
 (42 : Nat)))
 true,
 Blk.mk g4 (regO zs) true]))))
 (Sy.Res.br (Ex.eqQ (Let.i (ns (0 : Nat))) (4 : Int))
 (Sy.Res.need
 ((0 : Int) ≤ Let.i (ns (1 : Nat)) ∧
 Let.i (ns (1 : Nat)) < (32 : Int))
 (Sy.Res.need
 ((0 : Nat) + Int.toNat (Let.i (ns (1 : Nat))) * (1 : Nat) <
 Array.size
 (Array.setIfInBounds (regA xs) (31 : Nat)
 (Value.int IntKind.u64 (0 : Int))))
 (Sy.Res.leaf
 (Exit.normal, (172 : Nat),
 [Value.slice (some (Addr.mk gl ol none)) n cl,
 Value.pointer (some (Addr.mk gr (0 : Nat) none)),
 Value.pointer (some (Addr.mk g4 (0 : Nat) none)),
 Value.bool false,
 Value.int IntKind.i64
 (Ex.wrapQ IntKind.i64 (Ex.addQ (↑k : Int) (1 : Int)))],
 [Blk.mk (Let.n (ns (6 : Nat)))
 (Sy.Cont.obj
 (Obj.cells
 (Array.mk
 [Value.int IntKind.i64 (Let.i (ns (0 : Nat))),
 Value.int IntKind.i64 (Let.i (ns (1 : Nat))),
 Value.int IntKind.i64 (Let.i (ns (2 : Nat))),
 Value.int IntKind.i64 (Let.i (ns (3 : Nat))),
 Value.int IntKind.i64 (Let.i (ns (4 : Nat))),
 Value.int IntKind.i64 (Let.i (ns (5 : Nat)))])
 (29 : Nat)))
 true,
 Blk.mk gl (Sy.Cont.seg ol ys) false,
 Blk.mk gr
 (Sy.Cont.obj
 (Obj.cells
 (Array.setIfInBounds
 (Array.setIfInBounds (regA xs) (31 : Nat)
 (Value.int IntKind.u64 (0 : Int)))
 ((0 : Nat) +
 Int.toNat (Let.i (ns (1 : Nat))) * (1 : Nat))
 (Value.int IntKind.u64
 (Ex.wrapQ IntKind.u64
 (Ex.subQ' (Let.i (ns (7 : Nat)))
 (Let.i (ns (8 : Nat)))))))
 (42 : Nat)))
 true,
 Blk.mk g4 (regO zs) true]))))
 (Sy.Res.br (Ex.eqQ (Let.i (ns (0 : Nat))) (9 : Int))
 (Sy.Res.need
 ((0 : Int) ≤ Let.i (ns (1 : Nat)) ∧
 Let.i (ns (1 : Nat)) < (32 : Int))
 (Sy.Res.need
 ((0 : Nat) + Int.toNat (Let.i (ns (1 : Nat))) * (1 : Nat) <
 Array.size
 (Array.setIfInBounds (regA xs) (31 : Nat)
 (Value.int IntKind.u64 (0 : Int))))
 (Sy.Res.leaf
 (Exit.normal, (172 : Nat),
 [Value.slice (some (Addr.mk gl ol none)) n cl,
 Value.pointer (some (Addr.mk gr (0 : Nat) none)),
 Value.pointer (some (Addr.mk g4 (0 : Nat) none)),
 Value.bool false,
 Value.int IntKind.i64
 (Ex.wrapQ IntKind.i64
 (Ex.addQ (↑k : Int) (1 : Int)))],
 [Blk.mk (Let.n (ns (6 : Nat)))
 (Sy.Cont.obj
 (Obj.cells
 (Array.mk
 [Value.int IntKind.i64 (Let.i (ns (0 : Nat))),
 Value.int IntKind.i64 (Let.i (ns (1 : Nat))),
 Value.int IntKind.i64 (Let.i (ns (2 : Nat))),
 Value.int IntKind.i64 (Let.i (ns (3 : Nat))),
 Value.int IntKind.i64 (Let.i (ns (4 : Nat))),
 Value.int IntKind.i64 (Let.i (ns (5 : Nat)))])
 (29 : Nat)))
 true,
 Blk.mk gl (Sy.Cont.seg ol ys) false,
 Blk.mk gr
 (Sy.Cont.obj
 (Obj.cells
 (Array.setIfInBounds
 (Array.setIfInBounds (regA xs) (31 : Nat)
 (Value.int IntKind.u64 (0 : Int)))
 ((0 : Nat) +
 Int.toNat (Let.i (ns (1 : Nat))) * (1 : Nat))
 (Value.int IntKind.u64
 (Ex.wrapQ IntKind.u64
 (Ex.mulQ (Let.i (ns (7 : Nat)))
 (Let.i (ns (8 : Nat)))))))
 (42 : Nat)))
 true,
 Blk.mk g4 (regO zs) true]))))
 (Sy.Res.br (Ex.eqQ (Let.i (ns (0 : Nat))) (5 : Int))
 (Sy.Res.need
 ((0 : Int) ≤ Let.i (ns (1 : Nat)) ∧
 Let.i (ns (1 : Nat)) < (32 : Int))
 (Sy.Res.need
 ((0 : Nat) + Int.toNat (Let.i (ns (1 : Nat))) * (1 : Nat) <
 Array.size
 (Array.setIfInBounds (regA xs) (31 : Nat)
 (Value.int IntKind.u64 (0 : Int))))
 (Sy.Res.leaf
 (Exit.normal, (172 : Nat),
 [Value.slice (some (Addr.mk gl ol none)) n cl,
 Value.pointer (some (Addr.mk gr (0 : Nat) none)),
 Value.pointer (some (Addr.mk g4 (0 : Nat) none)),
 Value.bool false,
 Value.int IntKind.i64
 (Ex.wrapQ IntKind.i64
 (Ex.addQ (↑k : Int) (1 : Int)))],
 [Blk.mk (Let.n (ns (6 : Nat)))
 (Sy.Cont.obj
 (Obj.cells
 (Array.mk
 [Value.int IntKind.i64 (Let.i (ns (0 : Nat))),
 Value.int IntKind.i64
 (Let.i (ns (1 : Nat))),
 Value.int IntKind.i64
 (Let.i (ns (2 : Nat))),
 Value.int IntKind.i64
 (Let.i (ns (3 : Nat))),
 Value.int IntKind.i64
 (Let.i (ns (4 : Nat))),
 Value.int IntKind.i64
 (Let.i (ns (5 : Nat)))])
 (29 : Nat)))
 true,
 Blk.mk gl (Sy.Cont.seg ol ys) false,
 Blk.mk gr
 (Sy.Cont.obj
 (Obj.cells
 (Array.setIfInBounds
 (Array.setIfInBounds (regA xs) (31 : Nat)
 (Value.int IntKind.u64 (0 : Int)))
 ((0 : Nat) +
 Int.toNat (Let.i (ns (1 : Nat))) *
 (1 : Nat))
 (Value.int IntKind.u64
 (Ex.andQ IntKind.u64 (Let.i (ns (7 : Nat)))
 (Let.i (ns (8 : Nat))))))
 (42 : Nat)))
 true,
 Blk.mk g4 (regO zs) true]))))
 (Sy.Res.br (Ex.eqQ (Let.i (ns (0 : Nat))) (6 : Int))
 (Sy.Res.need
 ((0 : Int) ≤ Let.i (ns (1 : Nat)) ∧
 Let.i (ns (1 : Nat)) < (32 : Int))
 (Sy.Res.need
 ((0 : Nat) +
 Int.toNat (Let.i (ns (1 : Nat))) * (1 : Nat) <
 Array.size
 (Array.setIfInBounds (regA xs) (31 : Nat)
 (Value.int IntKind.u64 (0 : Int))))
 (Sy.Res.leaf
 (Exit.normal, (172 : Nat),
 [Value.slice (some (Addr.mk gl ol none)) n cl,
 Value.pointer (some (Addr.mk gr (0 : Nat) none)),
 Value.pointer (some (Addr.mk g4 (0 : Nat) none)),
 Value.bool false,
 Value.int IntKind.i64
 (Ex.wrapQ IntKind.i64
 (Ex.addQ (↑k : Int) (1 : Int)))],
 [Blk.mk (Let.n (ns (6 : Nat)))
 (Sy.Cont.obj
 (Obj.cells
 (Array.mk
 [Value.int IntKind.i64
 (Let.i (ns (0 : Nat))),
 Value.int IntKind.i64
 (Let.i (ns (1 : Nat))),
 Value.int IntKind.i64
 (Let.i (ns (2 : Nat))),
 Value.int IntKind.i64
 (Let.i (ns (3 : Nat))),
 Value.int IntKind.i64
 (Let.i (ns (4 : Nat))),
 Value.int IntKind.i64
 (Let.i (ns (5 : Nat)))])
 (29 : Nat)))
 true,
 Blk.mk gl (Sy.Cont.seg ol ys) false,
 Blk.mk gr
 (Sy.Cont.obj
 (Obj.cells
 (Array.setIfInBounds
 (Array.setIfInBounds (regA xs) (31 : Nat)
 (Value.int IntKind.u64 (0 : Int)))
 ((0 : Nat) +
 Int.toNat (Let.i (ns (1 : Nat))) *
 (1 : Nat))
 (Value.int IntKind.u64
 (Ex.orQ IntKind.u64 (Let.i (ns (7 : Nat)))
 (Let.i (ns (8 : Nat))))))
 (42 : Nat)))
 true,
 Blk.mk g4 (regO zs) true]))))
 (Sy.Res.br (Ex.eqQ (Let.i (ns (0 : Nat))) (7 : Int))
 (Sy.Res.need
 ((0 : Int) ≤ Let.i (ns (1 : Nat)) ∧
 Let.i (ns (1 : Nat)) < (32 : Int))
 (Sy.Res.need
 ((0 : Nat) +
 Int.toNat (Let.i (ns (1 : Nat))) * (1 : Nat) <
 Array.size
 (Array.setIfInBounds (regA xs) (31 : Nat)
 (Value.int IntKind.u64 (0 : Int))))
 (Sy.Res.leaf
 (Exit.normal, (172 : Nat),
 [Value.slice (some (Addr.mk gl ol none)) n cl,
 Value.pointer (some (Addr.mk gr (0 : Nat) none)),
 Value.pointer (some (Addr.mk g4 (0 : Nat) none)),
 Value.bool false,
 Value.int IntKind.i64
 (Ex.wrapQ IntKind.i64
 (Ex.addQ (↑k : Int) (1 : Int)))],
 [Blk.mk (Let.n (ns (6 : Nat)))
 (Sy.Cont.obj
 (Obj.cells
 (Array.mk
 [Value.int IntKind.i64
 (Let.i (ns (0 : Nat))),
 Value.int IntKind.i64
 (Let.i (ns (1 : Nat))),
 Value.int IntKind.i64
 (Let.i (ns (2 : Nat))),
 Value.int IntKind.i64
 (Let.i (ns (3 : Nat))),
 Value.int IntKind.i64
 (Let.i (ns (4 : Nat))),
 Value.int IntKind.i64
 (Let.i (ns (5 : Nat)))])
 (29 : Nat)))
 true,
 Blk.mk gl (Sy.Cont.seg ol ys) false,
 Blk.mk gr
 (Sy.Cont.obj
 (Obj.cells
 (Array.setIfInBounds
 (Array.setIfInBounds (regA xs) (31 : Nat)
 (Value.int IntKind.u64 (0 : Int)))
 ((0 : Nat) +
 Int.toNat (Let.i (ns (1 : Nat))) *
 (1 : Nat))
 (Value.int IntKind.u64
 (Ex.xorQ IntKind.u64
 (Let.i (ns (7 : Nat)))
 (Let.i (ns (8 : Nat))))))
 (42 : Nat)))
 true,
 Blk.mk g4 (regO zs) true]))))
 (Sy.Res.br (Ex.eqQ (Let.i (ns (0 : Nat))) (8 : Int))
 (Sy.Res.need
 ((0 : Int) ≤ Let.i (ns (1 : Nat)) ∧
 Let.i (ns (1 : Nat)) < (32 : Int))
 (Sy.Res.need
 ((0 : Nat) +
 Int.toNat (Let.i (ns (1 : Nat))) * (1 : Nat) <
 Array.size
 (Array.setIfInBounds (regA xs) (31 : Nat)
 (Value.int IntKind.u64 (0 : Int))))
 (Sy.Res.leaf
 (Exit.normal, (172 : Nat),
 [Value.slice (some (Addr.mk gl ol none)) n cl,
 Value.pointer
 (some (Addr.mk gr (0 : Nat) none)),
 Value.pointer
 (some (Addr.mk g4 (0 : Nat) none)),
 Value.bool false,
 Value.int IntKind.i64
 (Ex.wrapQ IntKind.i64
 (Ex.addQ (↑k : Int) (1 : Int)))],
 [Blk.mk (Let.n (ns (6 : Nat)))
 (Sy.Cont.obj
 (Obj.cells
 (Array.mk
 [Value.int IntKind.i64
 (Let.i (ns (0 : Nat))),
 Value.int IntKind.i64
 (Let.i (ns (1 : Nat))),
 Value.int IntKind.i64
 (Let.i (ns (2 : Nat))),
 Value.int IntKind.i64
 (Let.i (ns (3 : Nat))),
 Value.int IntKind.i64
 (Let.i (ns (4 : Nat))),
 Value.int IntKind.i64
 (Let.i (ns (5 : Nat)))])
 (29 : Nat)))
 true,
 Blk.mk gl (Sy.Cont.seg ol ys) false,
 Blk.mk gr
 (Sy.Cont.obj
 (Obj.cells
 (Array.setIfInBounds
 (Array.setIfInBounds (regA xs)
 (31 : Nat)
 (Value.int IntKind.u64 (0 : Int)))
 ((0 : Nat) +
 Int.toNat (Let.i (ns (1 : Nat))) *
 (1 : Nat))
 (Value.int IntKind.u64
 (Ex.orQ IntKind.u64
 (Let.i (ns (7 : Nat)))
 (Ex.xorQ IntKind.u64
 (18446744073709551615 : Int)
 (Let.i (ns (8 : Nat)))))))
 (42 : Nat)))
 true,
 Blk.mk g4 (regO zs) true]))))
 (Sy.Res.br (Ex.eqQ (Let.i (ns (0 : Nat))) (10 : Int))
 (Sy.Res.need
 ((0 : Int) ≤
 Ex.andQ IntKind.u64 (Let.i (ns (8 : Nat)))
 (63 : Int))
 (Sy.Res.need
 ((0 : Int) ≤ Let.i (ns (1 : Nat)) ∧
 Let.i (ns (1 : Nat)) < (32 : Int))
 (Sy.Res.need
 ((0 : Nat) +
 Int.toNat (Let.i (ns (1 : Nat))) * (1 : Nat) <
 Array.size
 (Array.setIfInBounds (regA xs) (31 : Nat)
 (Value.int IntKind.u64 (0 : Int))))
 (Sy.Res.leaf
 (Exit.normal, (172 : Nat),
 [Value.slice (some (Addr.mk gl ol none)) n cl,
 Value.pointer
 (some (Addr.mk gr (0 : Nat) none)),
 Value.pointer
 (some (Addr.mk g4 (0 : Nat) none)),
 Value.bool false,
 Value.int IntKind.i64
 (Ex.wrapQ IntKind.i64
 (Ex.addQ (↑k : Int) (1 : Int)))],
 [Blk.mk (Let.n (ns (6 : Nat)))
 (Sy.Cont.obj
 (Obj.cells
 (Array.mk
 [Value.int IntKind.i64
 (Let.i (ns (0 : Nat))),
 Value.int IntKind.i64
 (Let.i (ns (1 : Nat))),
 Value.int IntKind.i64
 (Let.i (ns (2 : Nat))),
 Value.int IntKind.i64
 (Let.i (ns (3 : Nat))),
 Value.int IntKind.i64
 (Let.i (ns (4 : Nat))),
 Value.int IntKind.i64
 (Let.i (ns (5 : Nat)))])
 (29 : Nat)))
 true,
 Blk.mk gl (Sy.Cont.seg ol ys) false,
 Blk.mk gr
 (Sy.Cont.obj
 (Obj.cells
 (Array.setIfInBounds
 (Array.setIfInBounds (regA xs)
 (31 : Nat)
 (Value.int IntKind.u64 (0 : Int)))
 ((0 : Nat) +
 Int.toNat (Let.i (ns (1 : Nat))) *
 (1 : Nat))
 (Value.int IntKind.u64
 (Ex.shlQ IntKind.u64
 (Let.i (ns (7 : Nat)))
 (Int.toNat
 (Ex.andQ IntKind.u64
 (Let.i (ns (8 : Nat)))
 (63 : Int))))))
 (42 : Nat)))
 true,
 Blk.mk g4 (regO zs) true])))))
 (Sy.Res.br (Ex.eqQ (Let.i (ns (0 : Nat))) (11 : Int))
 (Sy.Res.need
 ((0 : Int) ≤
 Ex.andQ IntKind.u64 (Let.i (ns (8 : Nat)))
 (63 : Int))
 (Sy.Res.need
 ((0 : Int) ≤ Let.i (ns (1 : Nat)) ∧
 Let.i (ns (1 : Nat)) < (32 : Int))
 (Sy.Res.need
 ((0 : Nat) +
 Int.toNat (Let.i (ns (1 : Nat))) *
 (1 : Nat) <
 Array.size
 (Array.setIfInBounds (regA xs) (31 : Nat)
 (Value.int IntKind.u64 (0 : Int))))
 (Sy.Res.leaf
 (Exit.normal, (172 : Nat),
 [Value.slice (some (Addr.mk gl ol none)) n
 cl,
 Value.pointer
 (some (Addr.mk gr (0 : Nat) none)),
 Value.pointer
 (some (Addr.mk g4 (0 : Nat) none)),
 Value.bool false,
 Value.int IntKind.i64
 (Ex.wrapQ IntKind.i64
 (Ex.addQ (↑k : Int) (1 : Int)))],
 [Blk.mk (Let.n (ns (6 : Nat)))
 (Sy.Cont.obj
 (Obj.cells
 (Array.mk
 [Value.int IntKind.i64
 (Let.i (ns (0 : Nat))),
 Value.int IntKind.i64
 (Let.i (ns (1 : Nat))),
 Value.int IntKind.i64
 (Let.i (ns (2 : Nat))),
 Value.int IntKind.i64
 (Let.i (ns (3 : Nat))),
 Value.int IntKind.i64
 (Let.i (ns (4 : Nat))),
 Value.int IntKind.i64
 (Let.i (ns (5 : Nat)))])
 (29 : Nat)))
 true,
 Blk.mk gl (Sy.Cont.seg ol ys) false,
 Blk.mk gr
 (Sy.Cont.obj
 (Obj.cells
 (Array.setIfInBounds
 (Array.setIfInBounds (regA xs)
 (31 : Nat)
 (Value.int IntKind.u64
 (0 : Int)))
 ((0 : Nat) +
 Int.toNat
 (Let.i (ns (1 : Nat))) *
 (1 : Nat))
 (Value.int IntKind.u64
 (Ex.shrQ IntKind.u64
 (Let.i (ns (7 : Nat)))
 (Int.toNat
 (Ex.andQ IntKind.u64
 (Let.i (ns (8 : Nat)))
 (63 : Int))))))
 (42 : Nat)))
 true,
 Blk.mk g4 (regO zs) true])))))
 (Sy.Res.br (Ex.eqQ (Let.i (ns (0 : Nat))) (14 : Int))
 (Sy.Res.need
 ((0 : Int) ≤
 Ex.wrapQ IntKind.u64
 (Ex.andQ IntKind.i64 (Let.i (ns (4 : Nat)))
 (63 : Int)))
 (Sy.Res.need
 ((0 : Int) ≤ Let.i (ns (1 : Nat)) ∧
 Let.i (ns (1 : Nat)) < (32 : Int))
 (Sy.Res.need
 ((0 : Nat) +
 Int.toNat (Let.i (ns (1 : Nat))) *
 (1 : Nat) <
 Array.size
 (Array.setIfInBounds (regA xs) (31 : Nat)
 (Value.int IntKind.u64 (0 : Int))))
 (Sy.Res.leaf
 (Exit.normal, (172 : Nat),
 [Value.slice (some (Addr.mk gl ol none)) n
 cl,
 Value.pointer
 (some (Addr.mk gr (0 : Nat) none)),
 Value.pointer
 (some (Addr.mk g4 (0 : Nat) none)),
 Value.bool false,
 Value.int IntKind.i64
 (Ex.wrapQ IntKind.i64
 (Ex.addQ (↑k : Int) (1 : Int)))],
 [Blk.mk (Let.n (ns (6 : Nat)))
 (Sy.Cont.obj
 (Obj.cells
 (Array.mk
 [Value.int IntKind.i64
 (Let.i (ns (0 : Nat))),
 Value.int IntKind.i64
 (Let.i (ns (1 : Nat))),
 Value.int IntKind.i64
 (Let.i (ns (2 : Nat))),
 Value.int IntKind.i64
 (Let.i (ns (3 : Nat))),
 Value.int IntKind.i64
 (Let.i (ns (4 : Nat))),
 Value.int IntKind.i64
 (Let.i (ns (5 : Nat)))])
 (29 : Nat)))
 true,
 Blk.mk gl (Sy.Cont.seg ol ys) false,
 Blk.mk gr
 (Sy.Cont.obj
 (Obj.cells
 (Array.setIfInBounds
 (Array.setIfInBounds (regA xs)
 (31 : Nat)
 (Value.int IntKind.u64
 (0 : Int)))
 ((0 : Nat) +
 Int.toNat
 (Let.i (ns (1 : Nat))) *
 (1 : Nat))
 (Value.int IntKind.u64
 (Ex.shlQ IntKind.u64
 (Let.i (ns (7 : Nat)))
 (Int.toNat
 (Ex.wrapQ IntKind.u64
 (Ex.andQ IntKind.i64
 (Let.i (ns (4 : Nat)))
 (63 : Int)))))))
 (42 : Nat)))
 true,
 Blk.mk g4 (regO zs) true])))))
 (Sy.Res.br
 (Ex.eqQ (Let.i (ns (0 : Nat))) (16 : Int))
 (Sy.Res.need
 ((32 : Nat) <
 Array.size
 (Array.setIfInBounds (regA xs) (31 : Nat)
 (Value.int IntKind.u64 (0 : Int))))
 (Sy.Res.need
 ((33 : Nat) <
 Array.size
 (Array.setIfInBounds
 (Array.setIfInBounds (regA xs)
 (31 : Nat)
 (Value.int IntKind.u64 (0 : Int)))
 (32 : Nat)
 (Value.int IntKind.u64
 (Let.i (ns (7 : Nat))))))
 (Sy.Res.leaf
 (Exit.normal, (172 : Nat),
 [Value.slice (some (Addr.mk gl ol none)) n
 cl,
 Value.pointer
 (some (Addr.mk gr (0 : Nat) none)),
 Value.pointer
 (some (Addr.mk g4 (0 : Nat) none)),
 Value.bool false,
 Value.int IntKind.i64
 (Ex.wrapQ IntKind.i64
 (Ex.addQ (↑k : Int) (1 : Int)))],
 [Blk.mk (Let.n (ns (6 : Nat)))
 (Sy.Cont.obj
 (Obj.cells
 (Array.mk
 [Value.int IntKind.i64
 (Let.i (ns (0 : Nat))),
 Value.int IntKind.i64
 (Let.i (ns (1 : Nat))),
 Value.int IntKind.i64
 (Let.i (ns (2 : Nat))),
 Value.int IntKind.i64
 (Let.i (ns (3 : Nat))),
 Value.int IntKind.i64
 (Let.i (ns (4 : Nat))),
 Value.int IntKind.i64
 (Let.i (ns (5 : Nat)))])
 (29 : Nat)))
 true,
 Blk.mk gl (Sy.Cont.seg ol ys) false,
 Blk.mk gr
 (Sy.Cont.obj
 (Obj.cells
 (Array.setIfInBounds
 (Array.setIfInBounds
 (Array.setIfInBounds (regA xs)
 (31 : Nat)
 (Value.int IntKind.u64
 (0 : Int)))
 (32 : Nat)
 (Value.int IntKind.u64
 (Let.i (ns (7 : Nat)))))
 (33 : Nat)
 (Value.int IntKind.u64
 (Let.i (ns (8 : Nat)))))
 (42 : Nat)))
 true,
 Blk.mk g4 (regO zs) true]))))
 (Sy.Res.br
 (Ex.eqQ (Let.i (ns (0 : Nat))) (17 : Int))
 (Sy.Res.need
 (Array.size
 (Array.setIfInBounds (regA xs) (31 : Nat)
 (Value.int IntKind.u64 (0 : Int))) =
 (34 : Nat))
 (Sy.Res.need
 (Array.size
 (Array.setIfInBounds (regA xs)
 (31 : Nat)
 (Value.int IntKind.u64 (0 : Int))) =
 (34 : Nat) ∧
 (Array.setIfInBounds (regA xs) (31 : Nat)
 (Value.int IntKind.u64
 (0 : Int)))[(32 : Nat)]? =
 some
 (Value.int IntKind.u64
 (List.getD xs (32 : Nat)
 (0 : Int))) ∧
 (Array.setIfInBounds (regA xs)
 (31 : Nat)
 (Value.int IntKind.u64
 (0 : Int)))[(33 : Nat)]? =
 some
 (Value.int IntKind.u64
 (List.getD xs (33 : Nat)
 (0 : Int))))
 (Sy.Res.hyp True
 (Sy.Res.br
 (condB
 (List.getD xs (32 : Nat) (0 : Int))
 (List.getD xs (33 : Nat) (0 : Int))
 (Let.i (ns (5 : Nat))))
 (Sy.Res.need
 ((0 : Int) ≤ Let.i (ns (1 : Nat)) ∧
 Let.i (ns (1 : Nat)) < (32 : Int))
 (Sy.Res.need
 ((0 : Nat) +
 Int.toNat
 (Let.i (ns (1 : Nat))) *
 (1 : Nat) <
 Array.size
 (Array.setIfInBounds (regA xs)
 (31 : Nat)
 (Value.int IntKind.u64
 (0 : Int))))
 (Sy.Res.leaf
 (Exit.normal, (172 : Nat),
 [Value.slice
 (some (Addr.mk gl ol none))
 n cl,
 Value.pointer
 (some
 (Addr.mk gr (0 : Nat)
 none)),
 Value.pointer
 (some
 (Addr.mk g4 (0 : Nat)
 none)),
 Value.bool false,
 Value.int IntKind.i64
 (Ex.wrapQ IntKind.i64
 (Ex.addQ (↑k : Int)
 (1 : Int)))],
 [Blk.mk (Let.n (ns (6 : Nat)))
 (Sy.Cont.obj
 (Obj.cells
 (Array.mk
 [Value.int IntKind.i64
 (Let.i
 (ns (0 : Nat))),
 Value.int
 IntKind.i64
 (Let.i
 (ns (1 : Nat))),
 Value.int
 IntKind.i64
 (Let.i
 (ns (2 : Nat))),
 Value.int
 IntKind.i64
 (Let.i
 (ns (3 : Nat))),
 Value.int
 IntKind.i64
 (Let.i
 (ns (4 : Nat))),
 Value.int
 IntKind.i64
 (Let.i
 (ns
 (5 : Nat)))])
 (29 : Nat)))
 true,
 Blk.mk gl (Sy.Cont.seg ol ys)
 false,
 Blk.mk gr
 (Sy.Cont.obj
 (Obj.cells
 (Array.setIfInBounds
 (Array.setIfInBounds
 (regA xs) (31 : Nat)
 (Value.int
 IntKind.u64
 (0 : Int)))
 ((0 : Nat) +
 Int.toNat
 (Let.i
 (ns
 (1 :
 Nat))) *
 (1 : Nat))
 (Value.int IntKind.u64
 (1 : Int)))
 (42 : Nat)))
 true,
 Blk.mk g4 (regO zs) true]))))
 (Sy.Res.need
 ((0 : Int) ≤ Let.i (ns (1 : Nat)) ∧
 Let.i (ns (1 : Nat)) < (32 : Int))
 (Sy.Res.need
 ((0 : Nat) +
 Int.toNat
 (Let.i (ns (1 : Nat))) *
 (1 : Nat) <
 Array.size
 (Array.setIfInBounds (regA xs)
 (31 : Nat)
 (Value.int IntKind.u64
 (0 : Int))))
 (Sy.Res.leaf
 (Exit.normal, (172 : Nat),
 [Value.slice
 (some (Addr.mk gl ol none))
 n cl,
 Value.pointer
 (some
 (Addr.mk gr (0 : Nat)
 none)),
 Value.pointer
 (some
 (Addr.mk g4 (0 : Nat)
 none)),
 Value.bool false,
 Value.int IntKind.i64
 (Ex.wrapQ IntKind.i64
 (Ex.addQ (↑k : Int)
 (1 : Int)))],
 [Blk.mk (Let.n (ns (6 : Nat)))
 (Sy.Cont.obj
 (Obj.cells
 (Array.mk
 [Value.int IntKind.i64
 (Let.i
 (ns (0 : Nat))),
 Value.int
 IntKind.i64
 (Let.i
 (ns (1 : Nat))),
 Value.int
 IntKind.i64
 (Let.i
 (ns (2 : Nat))),
 Value.int
 IntKind.i64
 (Let.i
 (ns (3 : Nat))),
 Value.int
 IntKind.i64
 (Let.i
 (ns (4 : Nat))),
 Value.int
 IntKind.i64
 (Let.i
 (ns
 (5 : Nat)))])
 (29 : Nat)))
 true,
 Blk.mk gl (Sy.Cont.seg ol ys)
 false,
 Blk.mk gr
 (Sy.Cont.obj
 (Obj.cells
 (Array.setIfInBounds
 (Array.setIfInBounds
 (regA xs) (31 : Nat)
 (Value.int
 IntKind.u64
 (0 : Int)))
 ((0 : Nat) +
 Int.toNat
 (Let.i
 (ns
 (1 :
 Nat))) *
 (1 : Nat))
 (Value.int IntKind.u64
 (0 : Int)))
 (42 : Nat)))
 true,
 Blk.mk g4 (regO zs)
 true]))))))))
 (Sy.Res.need
 (Array.size
 (Array.setIfInBounds (regA xs) (31 : Nat)
 (Value.int IntKind.u64 (0 : Int))) =
 (34 : Nat))
 (Sy.Res.need
 (Array.size (regA zs) =
 Array.size
 (Array.setIfInBounds (regA xs)
 (31 : Nat)
 (Value.int IntKind.u64 (0 : Int))) ∧
 (34 : Nat) =
 Array.size
 (Array.setIfInBounds (regA xs)
 (31 : Nat)
 (Value.int IntKind.u64
 (0 : Int))) ∧
 (Array.all
 (Array.setIfInBounds (regA xs)
 (31 : Nat)
 (Value.int IntKind.u64 (0 : Int)))
 fun (x : Value) =>
 Value.oneCell' x) =
 true)
 (Sy.Res.leaf
 (Exit.ret, (172 : Nat),
 [Value.slice (some (Addr.mk gl ol none))
 n cl,
 Value.pointer
 (some (Addr.mk gr (0 : Nat) none)),
 Value.pointer
 (some (Addr.mk g4 (0 : Nat) none)),
 Value.bool false,
 Value.int IntKind.i64 (↑k : Int)],
 [Blk.mk (Let.n (ns (6 : Nat)))
 (Sy.Cont.obj
 (Obj.cells
 (Array.mk
 [Value.int IntKind.i64
 (Let.i (ns (0 : Nat))),
 Value.int IntKind.i64
 (Let.i (ns (1 : Nat))),
 Value.int IntKind.i64
 (Let.i (ns (2 : Nat))),
 Value.int IntKind.i64
 (Let.i (ns (3 : Nat))),
 Value.int IntKind.i64
 (Let.i (ns (4 : Nat))),
 Value.int IntKind.i64
 (Let.i (ns (5 : Nat)))])
 (29 : Nat)))
 true,
 Blk.mk gl (Sy.Cont.seg ol ys) false,
 Blk.mk gr
 (Sy.Cont.obj
 (Obj.cells
 (Array.setIfInBounds (regA xs)
 (31 : Nat)
 (Value.int IntKind.u64
 (0 : Int)))
 (42 : Nat)))
 true,
 Blk.mk g4
 (Sy.Cont.obj
 (Obj.cells
 (Array.setIfInBounds (regA xs)
 (31 : Nat)
 (Value.int IntKind.u64
 (0 : Int)))
 (42 : Nat)))
 true])))))))))))))))))))))))))))))))))))))))
 (Sy.Res.leaf
 (Exit.exit (0 : Nat), (172 : Nat),
 [Value.slice (some (Addr.mk gl ol none)) n cl, Value.pointer (some (Addr.mk gr (0 : Nat) none)),
 Value.pointer (some (Addr.mk g4 (0 : Nat) none)), Value.bool false, Value.int IntKind.i64 (↑k : Int)],
 memR gl ol gr g4 ys xs zs))
theorem runB_run (gl ol cl n gr g4 k : Nat) (ys : List Value) (xs zs : List Int) (rest : List Value) : Sy.Ran (Sy.pieceT Try.prog (ctxR xs) 80 fRun bodyR 172 (slR gl ol cl n gr g4 k) rest (memR gl ol gr g4 ys xs zs) [1, 2, 4, 5, 6]) runB_o (runB_R gl ol cl n gr g4 k ys xs zs rest) := ⟨fun ns => by kernel_rfl, fun ns => by kernel_rfl⟩

theorem regA_set (xs : List Int) (j : Nat) (v : Int) : (regA xs).setIfInBounds j (.int .u64 v) = regA (xs.set j v) := by
  apply Array.ext'
  simp [regA, regC, List.map_set]
theorem regA_size (xs : List Int) : (regA xs).size = xs.length := by simp [regA, regC]
theorem regA_get {xs : List Int} {j : Nat} (h : j < xs.length) : (regA xs)[j]? = some (.int .u64 (xs.getD j 0)) := by
  simp [regA, regC, h]
theorem reg_at {xs : List Int} {j : Nat} (h : j < xs.length) (t : TypeId) (f : Nat × Nat) : (Sy.Cont.obj (.cells (regA xs) t f)).at j = some (.int .u64 (xs.getD j 0)) := by
  simp only [Sy.Cont.at]
  have := regA_get h
  rw [← Array.getElem?_toList] at this
  exact this
theorem regA_one (xs : List Int) : (regA xs).all (fun x => x.oneCell') = true := by
  simp [regA, regC, Value.oneCell']
theorem regA_mk (xs : List Int) : Array.mk (regC xs) = regA xs := rfl

theorem eq_t (a b : Int) : (Ex.eqQ a b = true) = (a = b) := by rw [Ex.eqQ_eq]; simp
theorem eq_f (a b : Int) : (Ex.eqQ a b = false) = ¬ (a = b) := by rw [Ex.eqQ_eq]; simp
theorem le_t (a b : Int) : (Ex.leQ a b = true) = (a ≤ b) := by rw [Ex.leQ_eq]; simp
theorem le_f (a b : Int) : (Ex.leQ a b = false) = ¬ (a ≤ b) := by rw [Ex.leQ_eq]; simp

theorem holdsA_met (C : Array Value) (a b c : Int) : Sy.Meets Try.prog (holdsA C a b c) := by
  refine Sy.meets_of Sy.S0_holds mixed (hold_run C a b c) fun hok ns => ?_
  obtain ⟨-, h1, h2⟩ : C.size = 34 ∧ C[32]? = some (Value.int .u64 a) ∧ C[33]? = some (Value.int .u64 b) := hok
  have e1 : (Sy.Cont.obj (.cells C tR (0, 0))).at 32 = some (.int .u64 a) := by rw [← h1]; simp [Sy.Cont.at]
  have e2 : (Sy.Cont.obj (.cells C tR (0, 0))).at 33 = some (.int .u64 b) := by rw [← h2]; simp [Sy.Cont.at]
  simp only [hold_R, Sy.Res.holds, e1, e2, some_int, exists_eq', true_and, eq_t, eq_f]
  refine ⟨fun h hx hy => ?_, fun h0 => ⟨fun h hx hy => ?_, fun h1 => ⟨fun h hx hy => ?_, fun h2 => ⟨fun h hx hy => ?_, fun h3 => ⟨fun h hx hy => ?_, fun h8 hx hy => ?_⟩⟩⟩⟩⟩
  all_goals
    refine Sy.plainO_leaf (List.mem_singleton_self _) rfl ?_
    simp only [← hx, ← hy, condB]
    first
      | rw [if_neg h0, if_neg h1, if_neg h2, if_neg h3, if_neg h8]
      | rw [if_neg h0, if_neg h1, if_neg h2, if_neg h3, if_pos h]
      | rw [if_neg h0, if_neg h1, if_neg h2, if_pos h]
      | rw [if_neg h0, if_neg h1, if_pos h]
      | rw [if_neg h0, if_pos h]
      | rw [if_pos h]

theorem ctxR_holds (xs : List Int) : (ctxR xs).holds Try.prog := Sy.mkS_holds (fun p hp a L => by
  rcases List.mem_singleton.1 hp with rfl
  exact holdsA_met _ _ _ _) (fun _ h => (by cases h)) (fun _ h => (by cases h))

noncomputable def loopR (gl ol cl gr g4 : Nat) (l : List I) (xs zs s' : List Int) : Sy.LoopC :=
  ⟨.loop bodyR, 172, slR gl ol cl l.length gr g4 0, xs.length = 34 ∧ l.length ≤ 1000000000 ∧ runL xs l = some s', ⟨[(gl, .seg ol (insCells l))], [(gr, regO xs), (g4, regO zs)], 0⟩,
    [(⟨fun _ => True, fun _ => [(gr, regO s'), (g4, regO zs)]⟩, .exit 0, fun _ => [(2, .pointer (some ⟨gr, 0, none⟩)), (4, .pointer (some ⟨g4, 0, none⟩)), (5, .bool false)])]⟩

theorem regO_set (xs : List Int) (j : Nat) (v : Int) : Sy.Cont.obj (.cells ((regA xs).setIfInBounds j (.int .u64 v)) tR (0, 0)) = regO (xs.set j v) := by rw [regA_set]; rfl

theorem runB_end {gl ol cl gr g4 k : Nat} {l : List I} {x0 xs zs s' : List Int} {x : I} {ys : List Int} {B : Blk} (hk : k < l.length) (hm : l.length ≤ 1000000000) (hs : stepR xs x = some ys) (hy : ys.length = 34) (hr : runL xs (x :: l.drop (k + 1)) = some s') :
    Sy.leafL (loopR gl ol cl gr g4 l x0 zs s') [1, 2, 4, 5, 6] (fun s : Nat × List Int => slR gl ol cl l.length gr g4 s.1) (fun s => memR gl ol gr g4 (insCells l) s.2 zs) (fun s => s.1 ≤ l.length ∧ s.2.length = 34 ∧ l.length ≤ 1000000000 ∧ runL s.2 (l.drop s.1) = some s') (fun s => l.length - s.1) (k, xs)
      (Exit.normal, 172, [Value.slice (some (Addr.mk gl ol none)) l.length cl, Value.pointer (some (Addr.mk gr 0 none)), Value.pointer (some (Addr.mk g4 0 none)), Value.bool false, Value.int IntKind.i64 (Ex.wrapQ IntKind.i64 (Ex.addQ (k : Int) 1))],
        [B, Blk.mk gl (Sy.Cont.seg ol (insCells l)) false, Blk.mk gr (regO ys) true, Blk.mk g4 (regO zs) true]) := by
  refine ⟨rfl, .inl ⟨rfl, (k + 1, ys), ⟨by show k + 1 ≤ _; omega, hy, hm, ?_⟩, (by show l.length - (k + 1) < l.length - k; omega), ?_, [1, 2, 3], by decide, rfl⟩⟩
  · simp only [runL, hs] at hr
    exact hr
  · rw [inc_i k (by omega)]; rfl

end Go.Proofs.Ytgaejhhipnpopaa
