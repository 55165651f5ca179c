/-
  CheckKnown: the call.
-/
import Derived.Test.YtbgmkefehfjicaaCkA3
import Derived.Test.YtbgmkefehfjicaaCkB
import Derived.Test.YtbgmkefehfjicaaCkC
import Derived.Test.YtbgmkefehfjicaaCkD
import Derived.Test.YtbgmkefehfjicaaCkE
import Derived.Test.YtbgmkefehfjicaaCkF
namespace Go.Proofs.Ytbgmkefehfjicaa
set_option linter.unusedVariables false
set_option linter.unusedSimpArgs false
open Go Go.RowKit
open Sy (Let Blk)

noncomputable def refK (m : Int) (args : Array Value) : Sy.CallC := match args.toList with
  | [.string s, _, _] => (@Bool.rec (fun _ => Sy.CallC) (@Bool.rec (fun _ => Sy.CallC) (@Bool.rec (fun _ => Sy.CallC) (@Bool.rec (fun _ => Sy.CallC) (@Bool.rec (fun _ => Sy.CallC) (@Bool.rec (fun _ => Sy.CallC) (@Bool.rec (fun _ => Sy.CallC) (@Bool.rec (fun _ => Sy.CallC) (@Bool.rec (fun _ => Sy.CallC) (@Bool.rec (fun _ => Sy.CallC) noC (refC m tx9 23 26) (sameL s.data.toList tx9.data.toList)) (refC m tx8 23 36) (sameL s.data.toList tx8.data.toList)) (refC m tx7 25 32) (sameL s.data.toList tx7.data.toList)) (refC m tx6 25 36) (sameL s.data.toList tx6.data.toList)) (refC m tx5 24 20) (sameL s.data.toList tx5.data.toList)) (refC m tx4 23 18) (sameL s.data.toList tx4.data.toList)) (refC m tx3 26 8) (sameL s.data.toList tx3.data.toList)) (refC m tx2 26 8) (sameL s.data.toList tx2.data.toList)) (refC m tx1 26 8) (sameL s.data.toList tx1.data.toList)) (refC m tx0 24 21) (sameL s.data.toList tx0.data.toList))
  | _ => noC

theorem refK_met (m : Int) (args : Array Value) : Sy.Meets Try.prog (refK m args) := by
  unfold refK
  split
  · exact brec_met _ (brec_met _ (brec_met _ (brec_met _ (brec_met _ (brec_met _ (brec_met _ (brec_met _ (brec_met _ (brec_met _ (noC_met) (re9_met m)) (re8_met m)) (re7_met m)) (re6_met m)) (re5_met m)) (re4_met m)) (re3_met m)) (re2_met m)) (re1_met m)) (re0_met m)
  · exact noC_met

noncomputable def ctxZ (m : Int) : Sy.Ctx := Sy.mkS [(fAwake, fun _ _ => awkC m), (fRefused, fun a _ => refK m a)] [] []
theorem ctxZ_holds (m : Int) : (ctxZ m).holds Try.prog := Sy.mkS_holds (fun p hp a L => by
  rcases List.mem_cons.1 hp with rfl | hp
  · exact aw_met m
  rcases List.mem_singleton.1 hp with rfl
  exact refK_met m a) (fun _ h => (by cases h)) (fun _ h => (by cases h))

set_option maxRecDepth 1000000 in
noncomputable def kn_o : Sy.O := (Sy.O.pack 39 0x0 Sy.O.nil)
set_option maxRecDepth 1000000 in
theorem kn_met (m : Int) : Sy.Meets Try.prog (Sy.shutC' fKnown #[] [maxB m] True (.bool true)) :=
  Sy.meets_shutJ' (ctxZ_holds m) Sy.How.none_holds mixed (n := 300) (o := kn_o) (fun ns => by kernel_rfl) (fun ns => by kernel_rfl)

end Go.Proofs.Ytbgmkefehfjicaa
