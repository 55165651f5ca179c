/-
  The program draws the orders that Go leaves open.
-/
import Derived.Test.YtbgmkefehfjicaaProg
import Derived.KernelRfl
namespace Go.Proofs.Ytbgmkefehfjicaa
open Go

theorem mixed : Try.prog.follows .mixedOrders = true := by kernel_rfl

end Go.Proofs.Ytbgmkefehfjicaa
