/-
  awake (of the atoms' laws).
-/
import Derived.Test.YtgloeampkecjmaaSyI
import Derived.Test.YtgloeampkecjmaaMix
namespace Go.Proofs.Ytgloeampkecjmaa
set_option linter.unusedVariables false
set_option linter.unusedSimpArgs false
open Go Go.RowKit

abbrev fAwake : FuncId := 4
set_option maxRecDepth 1000000 in
noncomputable def aw_o : Sy.O := (Sy.O.steps [0, 0, 0, 0, 0, 0, 0, 1, 0, 0, 0, 2, 0, 0, 1, 0, 0, 0, 0, 0, 0, 0, 1, 0, 0, 0, 2, 0, 0, 1, 0, 0, 0, 0, 0, 0, 0, 6, 0, 0, 0, 6, 0, 0, 6, 0, 6, 0, 0, 6, 0, 8, 0, 9, 0, 0, 0, 6, 0, 7] (Sy.O.steps [0, 0, 7, 0, 0, 0, 7, 0, 0, 7, 0, 7, 0, 0, 7, 0, 6, 0, 5, 0, 7, 0, 0, 0, 9, 0, 8, 11, 0, 0, 0, 1, 2, 3, 1, 0, 4, 2, 0, 5, 1, 0, 6, 11, 1, 10, 1, 9, 11, 0, 0, 11, 0, 0, 1, 10, 1, 9, 0, 7] (Sy.O.steps [0, 9, 0, 8, 0, 0, 8, 0, 0, 0, 12, 0, 1, 2, 3, 8, 0, 0, 8, 8, 0, 0, 0, 8, 1, 0, 0, 0, 8, 1, 0, 0, 0, 4, 0, 0, 4, 0, 4, 0, 0, 4, 0, 5, 0, 11, 0, 0, 0, 0, 0, 0, 0, 0, 4, 0, 5, 0, 0, 5] (Sy.O.steps [0, 0, 0, 5, 0, 0, 5, 0, 5, 0, 0, 5, 0, 4, 0, 3, 0, 5, 0, 0, 0, 6, 0, 1, 13, 0, 0, 0, 1, 2, 3, 1, 0, 4, 1, 0, 5, 6, 7, 2, 0, 11, 1, 1, 12, 0, 0, 0, 1, 6, 0, 1, 0, 0, 4, 0, 1, 13, 0, 0] (Sy.O.steps [0, 1, 1, 0, 2, 3, 4, 2, 0, 8, 5, 0, 0, 5, 0, 0, 0, 13, 0, 1, 2, 3, 8, 0, 0, 8, 5, 0, 0, 0, 1, 4, 0, 1, 5, 1, 0, 0, 5, 1, 0, 0, 5, 13, 0, 1, 2, 3, 0, 0, 4, 5, 6, 7, 0, 0, 8, 9, 0, 0] (Sy.O.steps [0, 0, 0, 9, 0, 0, 0] Sy.O.nil))))))

theorem awake_any (W : World) : Calls Try.prog fAwake #[] W fun e w' => e = .returned (.bool true) ∧ Below W.heap.size W w' :=
  Sy.calls_shutC Sy.S0_holds mixed (n := 200) (o := aw_o) [] (fun _ h => by cases h) (fun ns => by kernel_rfl) (fun ns => by kernel_rfl) W

def awC : Sy.CallC := Sy.plainC fAwake #[] (.bool true)
theorem awC_met : Sy.Meets Try.prog awC := Sy.meets_plain awake_any

noncomputable def Saw : Sy.Ctx := Sy.mkS [(fAwake, fun _ _ => awC)] [] []
theorem Saw_holds : Saw.holds Try.prog := Sy.mkS_holds (fun p hp a L => by
  rcases List.mem_singleton.1 hp with rfl
  exact awC_met) (fun _ h => (by cases h)) (fun _ h => (by cases h))

end Go.Proofs.Ytgloeampkecjmaa
