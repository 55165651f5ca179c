/-
  Contexts of the checks' closed runs.
-/
import Derived.Test.YtbgmkefehfjicaaLxC
import Derived.Test.YtbgmkefehfjicaaLxC2
import Derived.Test.YtbgmkefehfjicaaSyM
import Derived.Test.YtbgmkefehfjicaaRpC
namespace Go.Proofs.Ytbgmkefehfjicaa
set_option linter.unusedVariables false
set_option linter.unusedSimpArgs false
open Go Go.RowKit
open Sy (Let Blk)

abbrev fRefused : FuncId := 8
abbrev fAwake : FuncId := 7
abbrev fKnown : FuncId := 3

/-- Functions that store what they make into what was there. -/
noncomputable def stays (f : FuncId) : Bool := Nat.beq f 89 || Nat.beq f 92 || Nat.beq f 69 || Nat.beq f 39 || Nat.beq f 37 || Nat.beq f 33
noncomputable def ckH : Sy.How := ⟨fun f => !stays f, stays, mcRp⟩
theorem ckH_holds : ckH.holds Try.prog := ⟨mcRp_met⟩

theorem brec_met {a b : Sy.CallC} (t : Bool) (ha : Sy.Meets Try.prog a) (hb : Sy.Meets Try.prog b) : Sy.Meets Try.prog (@Bool.rec (fun _ => Sy.CallC) a b t) := by
  cases t
  · exact ha
  · exact hb

/-- Two texts, one by one. -/
noncomputable def sameL : List UInt8 → List UInt8 → Bool := fun l t => @List.rec UInt8 (fun _ => List UInt8 → Bool) (fun t => @List.rec UInt8 (fun _ => Bool) true (fun _ _ _ => false) t) (fun x _ ih t => @List.rec UInt8 (fun _ => Bool) false (fun y r _ => @Bool.rec (fun _ => Bool) false (ih r) (Nat.beq x.toNat y.toNat)) t) l t

noncomputable def refC (m : Int) (s : ByteArray) (code col : Int) : Sy.CallC := Sy.shutC' fRefused #[.string s, .int .i64 code, .int .i64 col] [maxB m] True (.bool true)
noncomputable def awkC (m : Int) : Sy.CallC := Sy.shutC' fAwake #[] [maxB m] True (.bool true)
def tx0 : ByteArray := bt [115, 104, 97, 114, 101, 100, 32, 120, 59, 32, 115, 104, 97, 114, 101, 100, 32, 121, 44, 32, 120, 59]
def tx1 : ByteArray := bt [115, 104, 97, 114, 101, 100, 32, 97, 91, 51, 93, 59]
def tx2 : ByteArray := bt [115, 104, 97, 114, 101, 100, 32, 97, 91, 48, 93, 59]
def tx3 : ByteArray := bt [115, 104, 97, 114, 101, 100, 32, 97, 91, 50, 48, 52, 56, 93, 59]
def tx4 : ByteArray := bt [116, 104, 114, 101, 97, 100, 32, 123, 32, 108, 101, 116, 32, 120, 32, 61, 32, 120, 59, 32, 125]
def tx5 : ByteArray := bt [115, 104, 97, 114, 101, 100, 32, 120, 59, 32, 116, 104, 114, 101, 97, 100, 32, 123, 32, 108, 101, 116, 32, 120, 32, 61, 32, 49, 59, 32, 125]
def tx6 : ByteArray := bt [115, 104, 97, 114, 101, 100, 32, 120, 59, 32, 116, 104, 114, 101, 97, 100, 32, 123, 32, 108, 101, 116, 32, 114, 32, 61, 32, 108, 111, 97, 100, 40, 120, 44, 32, 114, 101, 108, 41, 59, 32, 125]
def tx7 : ByteArray := bt [115, 104, 97, 114, 101, 100, 32, 120, 59, 32, 116, 104, 114, 101, 97, 100, 32, 123, 32, 115, 116, 111, 114, 101, 40, 120, 44, 32, 49, 44, 32, 97, 99, 113, 41, 59, 32, 125]
def tx8 : ByteArray := bt [115, 104, 97, 114, 101, 100, 32, 97, 91, 50, 93, 59, 32, 116, 104, 114, 101, 97, 100, 32, 123, 32, 108, 101, 116, 32, 114, 32, 61, 32, 108, 111, 97, 100, 40, 97, 44, 32, 115, 99, 41, 59, 32, 125]
def tx9 : ByteArray := bt [115, 104, 97, 114, 101, 100, 32, 120, 59, 32, 116, 104, 114, 101, 97, 100, 32, 123, 32, 112, 114, 105, 110, 116, 40, 120, 41, 59, 32, 125]

end Go.Proofs.Ytbgmkefehfjicaa
