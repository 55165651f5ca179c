/-
  CheckLimits: the call.
-/
import Derived.Test.YtbgmkefehfjicaaCkA3
import Derived.Test.YtbgmkefehfjicaaCl0
import Derived.Test.YtbgmkefehfjicaaCl1
import Derived.Test.YtbgmkefehfjicaaCl2
import Derived.Test.YtbgmkefehfjicaaCl3
import Derived.Test.YtbgmkefehfjicaaCl4
import Derived.Test.YtbgmkefehfjicaaCl5
namespace Go.Proofs.Ytbgmkefehfjicaa
set_option linter.unusedVariables false
set_option linter.unusedSimpArgs false
open Go Go.RowKit
open Sy (Let Blk)

abbrev fLimits : FuncId := 5
noncomputable def olK (m : Int) (args : Array Value) : Sy.CallC := match args.toList with
  | [.string s] => @Bool.rec (fun _ => Sy.CallC) (@Bool.rec (fun _ => Sy.CallC) (@Bool.rec (fun _ => Sy.CallC) (@Bool.rec (fun _ => Sy.CallC) (@Bool.rec (fun _ => Sy.CallC) (@Bool.rec (fun _ => Sy.CallC) noC
      (Sy.graphC fOf #[.string tl5] [maxB m] (List.length ol5_ps) ol5_v ol5_nw) (Sy.eqS s tl5))
      (Sy.graphC fOf #[.string tl4] [maxB m] (List.length ol4_ps) ol4_v ol4_nw) (Sy.eqS s tl4))
      (Sy.graphC fOf #[.string tl3] [maxB m] (List.length ol3_ps) ol3_v ol3_nw) (Sy.eqS s tl3))
      (Sy.graphC fOf #[.string tl2] [maxB m] (List.length ol2_ps) ol2_v ol2_nw) (Sy.eqS s tl2))
      (Sy.graphC fOf #[.string tl1] [maxB m] (List.length ol1_ps) ol1_v ol1_nw) (Sy.eqS s tl1))
      (Sy.graphC fOf #[.string tl0] [maxB m] (List.length ol0_ps) ol0_v ol0_nw) (Sy.eqS s tl0)
  | _ => noC

theorem olK_met (m : Int) (args : Array Value) : Sy.Meets Try.prog (olK m args) := by
  unfold olK
  split
  · exact brec_met _ (brec_met _ (brec_met _ (brec_met _ (brec_met _ (brec_met _ noC_met (ol5_met m)) (ol4_met m)) (ol3_met m)) (ol2_met m)) (ol1_met m)) (ol0_met m)
  · exact noC_met

noncomputable def ctxLi (m : Int) : Sy.Ctx := Sy.mkS [(fOf, fun a _ => olK m a), (fAwake, fun _ _ => awkC m)] [] []
theorem ctxLi_holds (m : Int) : (ctxLi m).holds Try.prog := Sy.mkS_holds (fun p hp a L => by
  rcases List.mem_cons.1 hp with rfl | hp
  · exact olK_met m a
  rcases List.mem_singleton.1 hp with rfl
  exact aw_met m) (fun _ h => (by cases h)) (fun _ h => (by cases h))

set_option maxRecDepth 1000000 in
noncomputable def li_o : Sy.O := (Sy.O.pack 120 0x400000000000008000000000000100c000000000000080000000000000080000000000000000000000000000000000000000000000000000000000000000000000000000000000000000 (Sy.O.pack 118 0x2000000000100000000000002000000000000041a00000000000000000000f00000741d003c01000000000000000000000000000000000000000000000000000000000000000000000 (Sy.O.steps [32] (Sy.O.pack 11 0x1f07c00 (Sy.O.steps [32] (Sy.O.pack 40 0x80000000000001000000000000020000000000000000 Sy.O.nil))))))
set_option maxRecDepth 1000000 in
theorem li_met (m : Int) : Sy.Meets Try.prog (Sy.shutC' fLimits #[] [maxB m] True (.bool true)) :=
  Sy.meets_shutJ' (ctxLi_holds m) Sy.How.none_holds mixed (n := 300) (o := li_o) (fun ns => by kernel_rfl) (fun ns => by kernel_rfl)

end Go.Proofs.Ytbgmkefehfjicaa
