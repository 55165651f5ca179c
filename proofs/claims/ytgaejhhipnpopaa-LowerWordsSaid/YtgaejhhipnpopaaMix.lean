/-
  The program draws the orders that Go leaves open.
-/
import Derived.Test.YtgaejhhipnpopaaProg
import Derived.KernelRfl
namespace Go.Proofs.Ytgaejhhipnpopaa
open Go

theorem mixed : Try.prog.follows .mixedOrders = true := by kernel_rfl

end Go.Proofs.Ytgaejhhipnpopaa
