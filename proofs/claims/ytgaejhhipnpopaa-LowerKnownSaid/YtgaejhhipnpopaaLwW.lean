/-
  awake.
-/
import Derived.Test.YtgaejhhipnpopaaSyG
import Derived.Test.YtgaejhhipnpopaaMix
namespace Go.Proofs.Ytgaejhhipnpopaa
open Go Go.RowKit

abbrev fAwake : FuncId := 9
def aw_o : Sy.O := (Sy.O.steps [0, 0, 0, 0, 0, 0, 0, 0, 0, 0, 0, 0, 0, 0, 0, 0, 0, 0, 0, 0, 0, 0, 0, 0, 0, 0, 0, 0, 0, 0, 0, 0, 0, 0, 0, 0, 0, 0, 0, 1, 0, 0, 0, 0, 0, 0, 0, 0, 0, 0, 0, 0, 0, 0, 0, 0, 3, 0, 0, 0] (Sy.O.steps [0, 0, 0, 0, 0, 0, 0, 0, 0, 0, 0, 0, 0, 0, 0, 0, 0, 0, 0, 0, 0, 0, 2, 0, 1, 0, 2, 0, 2, 0, 2, 0, 2, 0, 0, 0, 0, 0, 0, 0, 0, 2, 0, 0, 0, 0, 0, 0, 0, 0, 0, 0, 0, 0, 0, 0, 0, 0, 0, 0] (Sy.O.steps [0, 0, 0, 0, 0, 0, 0, 0, 0, 0, 0, 0, 0, 0, 0, 0, 0, 0, 4, 0, 0, 0, 0, 0, 0, 0, 4, 0, 4, 0, 4, 0, 0, 0, 0, 4, 0, 0, 0, 0, 4, 0, 0, 0, 0, 4, 0, 2, 0, 0, 0, 10, 0, 0, 0, 0, 0, 0, 0, 0] (Sy.O.steps [0, 0, 0, 1, 0, 0, 2, 3, 4, 5, 0, 0, 6, 7, 8, 9, 10, 0, 0, 11, 12, 13, 14, 0, 0, 15, 16, 17, 18, 19, 0, 0, 0, 0, 0, 0, 0, 0, 1, 0, 0, 2, 3, 4, 5, 0, 0, 6, 7, 8, 9, 10, 11, 0, 0, 12, 13, 14, 0, 0] (Sy.O.steps [0, 0, 12, 0, 0, 0, 0, 0, 0, 0, 0, 0, 0, 0, 0, 0, 0, 0, 0, 0, 0, 1, 0, 0, 0, 0, 3, 0, 0, 3, 0, 0, 3, 0, 7, 0, 0, 0, 0, 0, 0, 0, 13, 0, 0, 0, 0, 0, 0, 0, 0, 0, 0, 0, 0, 0, 0, 0, 14, 0] (Sy.O.steps [0, 0, 0, 0, 0, 0, 0, 0, 0, 0, 0, 0, 0, 0, 0, 0, 0, 0, 0, 0, 0, 0, 0, 0, 1, 0, 0, 0, 0, 0, 0, 0, 0, 0, 0, 0, 0, 0, 0, 0, 0, 0, 0, 0, 0, 0, 0, 0, 0, 0, 0, 0, 0, 0, 0, 0, 0, 0, 0, 0] (Sy.O.steps [0, 0, 0, 0, 0, 0, 0, 1, 0, 0, 0, 0, 0, 0, 0, 0, 0, 0, 0, 0, 0, 0, 0, 0, 3, 0, 0, 0, 0, 0, 0, 0, 0, 0, 0, 0, 0, 0, 0, 0, 0, 0, 0, 0, 0, 0, 0, 0, 0, 0, 2, 0, 1, 0, 2, 0, 2, 0, 2, 0] (Sy.O.steps [2, 0, 0, 0, 0, 0, 0, 0, 0, 2, 0, 0, 0, 0, 0, 0, 0, 0, 0, 0, 0, 0, 0, 0, 0, 0, 0, 0, 0, 0, 0, 0, 0, 0, 0, 0, 0, 0, 0, 0, 0, 0, 0, 0, 0, 0, 4, 0, 0, 0, 0, 0, 0, 0, 4, 0, 4, 0, 4, 0] (Sy.O.steps [0, 0, 0, 4, 0, 0, 0, 0, 4, 0, 0, 0, 0, 4, 0, 2, 0, 0, 0, 10, 0, 0, 0, 0, 0, 0, 0, 0, 0, 0, 0, 1, 0, 0, 2, 3, 4, 5, 0, 0, 6, 7, 8, 9, 10, 0, 0, 11, 12, 13, 14, 0, 0, 15, 16, 17, 18, 19, 0, 0] (Sy.O.steps [0, 0, 0, 1, 0, 0, 2, 3, 4, 0, 0, 5, 6, 7, 0, 0, 0, 0, 12, 0, 0, 0, 0, 0, 0, 0, 0, 0, 0, 0, 0, 0, 0, 0, 0, 0, 0, 1, 0, 0, 0, 0, 3, 0, 0, 3, 0, 0, 3, 0, 7, 0, 0, 0, 0, 0, 0, 0, 13, 0] (Sy.O.steps [0, 0, 0, 0, 0, 0, 0, 0, 0, 0, 0] Sy.O.nil)))))))))))

theorem awake_any (W : World) : Calls Try.prog fAwake #[] W fun e w' => e = .returned (.bool true) ∧ Below W.heap.size W w' :=
  Sy.calls_shut Sy.S0_holds mixed (n := 200) (o := aw_o) [] (fun _ h => by cases h) (fun ns => by kernel_rfl) (fun ns => by kernel_rfl) W

def awC : Sy.CallC := Sy.plainC fAwake #[] (.bool true)
theorem awC_met : Sy.Meets Try.prog awC := Sy.meets_plain awake_any

noncomputable def Saw : Sy.Ctx := Sy.mkS [(fAwake, fun _ _ => awC)] [] []
theorem Saw_holds : Saw.holds Try.prog := Sy.mkS_holds (fun p hp a L => by
  rcases List.mem_singleton.1 hp with rfl
  exact awC_met) (fun _ h => (by cases h)) (fun _ h => (by cases h))

end Go.Proofs.Ytgaejhhipnpopaa
