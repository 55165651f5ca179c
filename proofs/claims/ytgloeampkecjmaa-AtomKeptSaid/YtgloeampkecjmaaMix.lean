/-
  The program draws the orders that Go leaves open.
-/
import Derived.Test.YtgloeampkecjmaaProg
import Derived.KernelRfl
namespace Go.Proofs.Ytgloeampkecjmaa
open Go

theorem mixed : Try.prog.follows .mixedOrders = true := by kernel_rfl

end Go.Proofs.Ytgloeampkecjmaa
