/-
  A cell's calls.
-/
import Derived.Test.YtjohknpmhlildaaExE
import Derived.Test.YtjohknpmhlildaaMix
namespace Go.Proofs.Ytjohknpmhlildaa
open Go Go.RowKit
open Ex (Cont num)

theorem cas_ptr : Ex.IsCas Try.prog 57 .ptr := ⟨_, rfl, by kernel_rfl, rfl, by kernel_rfl, by kernel_rfl⟩
theorem cas_u64 : Ex.IsCas Try.prog 58 (.int .u64) := ⟨_, rfl, by kernel_rfl, rfl, by kernel_rfl, by kernel_rfl⟩

def ptr (g : Nat) : Option Addr := some ⟨g, 0, none⟩

abbrev fSwapP : FuncId := 43
abbrev fAwake : FuncId := 5

noncomputable def awakeS : Ex.Ctx := Ex.mkCtx [] [] [] [] [] [] [] [] [] [(fSwapP, 14)]
  [fun h => Ex.casC (num h 11) 87 (.pointer none) (.pointer (ptr (num h 0))), fun h => Ex.casC (num h 12) 87 (.pointer (ptr (num h 1))) (.pointer none)]
  [(42, 1, [10]), (45, 1, [1]), (45, 2, [6]), (54, 0, [6, 9])]
theorem awakeS_holds : awakeS.holds Try.prog := Ex.mk_holds Ex.nil_c Ex.nil_l

theorem awake_any (W : World) : Calls Try.prog fAwake #[] W fun e w' => e = .returned (.bool true) ∧ Below W.heap.size W w' :=
  Ex.calls_value awakeS_holds mixed 200 (.bool true) (fun ns _ => [
      (true, Ex.OpMeets Try.prog (callFunc 57 #[.pointer (ptr (ns 0)), .pointer none, .pointer (ptr (ns 11))]) (Ex.casC (ns 0) 87 (.pointer none) (.pointer (ptr (ns 11))))),
      (true, Ex.OpMeets Try.prog (callFunc 57 #[.pointer (ptr (ns 0)), .pointer (ptr (ns 11)), .pointer none]) (Ex.casC (ns 0) 87 (.pointer (ptr (ns 11))) (.pointer none)))])
    (fun ns ls => by kernel_rfl) (fun ns ls => by kernel_rfl) (fun _ _ => ⟨Ex.casPtr_met cas_ptr _ _ _ _, Ex.casPtr_met cas_ptr _ _ _ _, trivial⟩) W

end Go.Proofs.Ytjohknpmhlildaa
