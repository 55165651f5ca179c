/-
  Contracts for closed runs: strings.Contains.
-/
import Derived.Test.YtbgmkefehfjicaaLxK
import Derived.Test.YtbgmkefehfjicaaSh
namespace Go.Proofs.Ytbgmkefehfjicaa
set_option linter.unusedVariables false
set_option linter.unusedSimpArgs false
open Go Go.RowKit
open Sy (Let Blk)

abbrev fContains : FuncId := 86

/-- What internal/bytealg.MaxLen holds: whatever. -/
def maxB (m : Int) : Nat × Sy.Cont := (0, .seg 0 [.int .i64 m])

noncomputable def conK (m : Int) (args : Array Value) : Sy.CallC := match args.toList with
  | [.string s, .string sub] => match Nat.ble s.size 4294967280 with
    | true => Sy.shutC' fContains #[.string s, .string sub] [maxB m] True (.bool (Lib.contains s.data.toList sub.data.toList))
    | false => noC
  | _ => noC

theorem conK_met (m : Int) (args : Array Value) : Sy.Meets Try.prog (conK m args) := by
  unfold conK
  split
  · split
    · rename_i s sub _ _ hs
      intro _ W hpre
      have hs := Nat.le_of_ble_eq_true hs
      have hm : W.cell? ⟨0, 0, none⟩ = some (.int .i64 m) := Sy.cell_at (ct := .seg 0 [.int .i64 m]) rfl (hpre.rd _ (List.mem_singleton_self _)) rfl rfl
      refine (Try.strings_Contains s sub m W (by omega) hm).mono ?_
      rintro e W' ⟨rfl, rfl⟩
      exact ⟨_, List.mem_singleton_self _, [], rfl, rfl, trivial, rfl, rfl, rfl, Nat.le_refl _, fun _ _ _ => rfl, fun _ hp => (by cases hp), List.nodup_nil⟩
    · exact noC_met
  · exact noC_met

noncomputable def ctxM (m : Int) : Sy.Ctx := Sy.mkS [(fContains, fun a _ => conK m a)] [] []
theorem ctxM_holds (m : Int) : (ctxM m).holds Try.prog := Sy.mkS_holds (fun p hp a L => by
  rcases List.mem_singleton.1 hp with rfl
  exact conK_met m a) (fun _ h => (by cases h)) (fun _ h => (by cases h))

end Go.Proofs.Ytbgmkefehfjicaa
