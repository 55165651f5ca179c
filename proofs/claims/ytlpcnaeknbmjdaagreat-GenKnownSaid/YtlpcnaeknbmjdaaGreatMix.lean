/-
  The program draws the orders that Go leaves open.
-/
import Derived.Test.YtlpcnaeknbmjdaaGreatProg
import Derived.KernelRfl
namespace Go.Proofs.YtlpcnaeknbmjdaaGreat
open Go

theorem mixed : Tryz.prog.follows .mixedOrders = true := by kernel_rfl

end Go.Proofs.YtlpcnaeknbmjdaaGreat
