/-
  LowerNumbers: the call.
-/
import Derived.Test.YtgaejhhipnpopaaLwR3
import Derived.Test.YtgaejhhipnpopaaLwW
namespace Go.Proofs.Ytgaejhhipnpopaa
set_option linter.unusedVariables false
set_option linter.unusedSimpArgs false
open Go Go.RowKit
open Sy (Let Blk)

abbrev fNums : FuncId := 4
def argI0 (v : Value) : Int := match v with
  | .int _ n => n
  | _ => 0

/-- What is left in the registers. -/
def leftR (r v : Int) : List Int := match runL zerosR (numL r v) with
  | some s => s
  | none => zerosR

noncomputable def ctxN (r v : Int) : Sy.Ctx := Sy.mkS [(28, fun a _ => numC (Sy.argI a 0) (Sy.argI a 1)), (fRun, fun a _ => runC (Sy.ptrN (Sy.argV a 1)) 0 (Sy.capN (Sy.argV a 1)) (numL r v) zerosR (leftR r v)),
  (fSame, fun a _ => sameC (Sy.ptrN (Sy.argV a 0)) (Sy.ptrN (Sy.argV a 1)) (Sy.capN (Sy.argV a 0)) (Sy.capN (Sy.argV a 1)) (numL r v) (numL r v)), (18, fun a _ => rnum0 (Sy.argI a 1) (Sy.argI a 2)), (fAwake, fun _ _ => awC)] [] []
def nums_o : Sy.O := (Sy.O.steps [1] (Sy.O.fork (Sy.O.steps [1] (Sy.O.fork (Sy.O.steps [0, 0, 0, 0, 0, 0, 0, 0] Sy.O.nil) (Sy.O.steps [1, 0, 1, 0, 0, 0, 0, 0, 0, 0, 0, 0, 0, 0, 0, 0, 0, 0, 0, 0, 0, 0, 0, 0, 0, 0] Sy.O.nil))) (Sy.O.steps [0, 1] (Sy.O.fork (Sy.O.steps [0, 0, 0, 0, 0, 0, 0] Sy.O.nil) (Sy.O.steps [0, 0, 0, 0, 1, 0, 0, 0, 0, 0, 0, 0, 2, 0, 1] (Sy.O.fork (Sy.O.steps [0, 0, 1, 0, 2, 1, 1, 1, 0, 0] (Sy.O.fork (Sy.O.steps [0] Sy.O.nil) Sy.O.nil)) (Sy.O.steps [0, 0, 0, 0, 0, 0] Sy.O.nil)))))))
noncomputable def nums_R (r : Int) (v : Int) (ns : Nat → Sy.Let) : Sy.Res (Value × List Blk) := Sy.Res.br (bif Ex.ltQ r (0 : Int) then true else Ex.ltQ (30 : Int) r)
 (Sy.Res.br (bif Ex.ltQ r (0 : Int) then true else Ex.ltQ (30 : Int) r)
 (Sy.Res.need True (Sy.Res.hyp True (Sy.Res.leaf (Value.bool true, [])))) (Sy.Res.leaf (Value.bool false, [])))
 (Sy.Res.need ((0 : Int) ≤ v ∧ v < (18446744073709551616 : Int))
 (Sy.Res.hyp (Nat.le (List.length (numL r v)) (Let.n (ns (1 : Nat))))
 (Sy.Res.br (bif Ex.ltQ r (0 : Int) then true else Ex.ltQ (30 : Int) r) (Sy.Res.leaf (Value.bool false, []))
 (Sy.Res.need
 ((34 : Nat) = (34 : Nat) ∧
 List.length (leftR r v) = (34 : Nat) ∧
 List.length (numL r v) ≤ (1000000000 : Nat) ∧ runL zerosR (numL r v) = some (leftR r v))
 (Sy.Res.hyp True
 (Sy.Res.need
 ((34 : Nat) = Array.size (Array.mk (regC (leftR r v))) ∧
 (34 : Nat) = Array.size (Array.mk (regC (leftR r v))) ∧
 (Array.all (Array.mk (regC (leftR r v))) fun (x : Value) => Value.oneCell' x) = true)
 (Sy.Res.need ((0 : Int) ≤ v ∧ v < (18446744073709551616 : Int))
 (Sy.Res.hyp (Nat.le (List.length (numL r v)) (Let.n (ns (4 : Nat))))
 (Sy.Res.need (Nat.le (List.length (numL r v)) (1000000000 : Nat))
 (Sy.Res.hyp True
 (Sy.Res.br (bif bif true then decide (numL r v = numL r v) else false then true else false)
 (Sy.Res.need ((0 : Int) ≤ r ∧ r < (32 : Int))
 (Sy.Res.need
 (∃ (i : Int),
 Sy.Cont.at (Sy.Cont.obj (Obj.cells (Array.mk (regC (leftR r v))) (42 : Nat)))
 ((0 : Nat) + Int.toNat r * (1 : Nat)) =
 some (Value.int IntKind.u64 i))
 (Sy.Res.hyp
 (Sy.Cont.at (Sy.Cont.obj (Obj.cells (Array.mk (regC (leftR r v))) (42 : Nat)))
 ((0 : Nat) + Int.toNat r * (1 : Nat)) =
 some (Value.int IntKind.u64 (Let.i (ns (5 : Nat)))))
 (Sy.Res.br (bif true then Ex.eqQ (Let.i (ns (5 : Nat))) v else false)
 (Sy.Res.need True (Sy.Res.hyp True (Sy.Res.leaf (Value.bool true, []))))
 (Sy.Res.leaf (Value.bool false, []))))))
 (Sy.Res.leaf (Value.bool false, [])))))))))))))
theorem nums_run (r v : Int) : Sy.Ran (Sy.inT Try.prog (ctxN r v) 80 fNums #[.int .i64 r, .int .u64 v] [] Sy.noB) nums_o (nums_R r v) := ⟨fun ns => by kernel_rfl, fun ns => by kernel_rfl⟩

end Go.Proofs.Ytgaejhhipnpopaa
