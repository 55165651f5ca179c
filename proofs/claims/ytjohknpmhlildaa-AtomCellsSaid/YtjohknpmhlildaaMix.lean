/-
  The program draws the orders that Go leaves open.
-/
import Derived.Test.YtjohknpmhlildaaProg
import Derived.KernelRfl
namespace Go.Proofs.Ytjohknpmhlildaa
open Go

theorem mixed : Try.prog.follows .mixedOrders = true := by kernel_rfl

end Go.Proofs.Ytjohknpmhlildaa
