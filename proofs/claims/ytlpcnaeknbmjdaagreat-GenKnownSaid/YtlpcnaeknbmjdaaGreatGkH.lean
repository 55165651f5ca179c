/-
  Contexts of the closed runs of the words.
-/
import Derived.Test.YtlpcnaeknbmjdaaGreatSyM
import Derived.Test.YtlpcnaeknbmjdaaGreatRpC
namespace Go.Proofs.YtlpcnaeknbmjdaaGreat
set_option linter.unusedVariables false
set_option linter.unusedSimpArgs false
open Go Go.RowKit
open Sy (Let Blk)

abbrev fThread : FuncId := 16
abbrev fAwake : FuncId := 9
abbrev fKnown : FuncId := 7
abbrev fOf : FuncId := 18

noncomputable def stays (f : FuncId) : Bool := Nat.beq f 59 || Nat.beq f 60 || Nat.beq f 99 || Nat.beq f 100 || Nat.beq f 102 || Nat.beq f 104 || Nat.beq f 107 || Nat.beq f 130 || Nat.beq f 131 || Nat.beq f 53
noncomputable def gkH : Sy.How := ⟨fun f => !stays f, stays, mcRp⟩
theorem gkH_holds : gkH.holds Tryz.prog := ⟨mcRp_met⟩

theorem brec_met {a b : Sy.CallC} (t : Bool) (ha : Sy.Meets Tryz.prog a) (hb : Sy.Meets Tryz.prog b) : Sy.Meets Tryz.prog (@Bool.rec (fun _ => Sy.CallC) a b t) := by
  cases t
  · exact ha
  · exact hb

noncomputable def eqNL (l : List Nat) : List Nat → Bool := @List.rec Nat (fun _ => List Nat → Bool) (fun t => @List.rec Nat (fun _ => Bool) true (fun _ _ _ => false) t) (fun x _ ih t => @List.rec Nat (fun _ => Bool) false (fun y r _ => @Bool.rec (fun _ => Bool) false (ih r) (Nat.beq x y)) t) l
def tg0 : ByteArray := ⟨#[116, 104, 114, 101, 97, 100, 32, 123, 32, 125]⟩
def tg1 : ByteArray := ⟨#[115, 104, 97, 114, 101, 100, 32, 120, 59, 32, 116, 104, 114, 101, 97, 100, 32, 123, 32, 108, 101, 116, 32, 114, 32, 61, 32, 108, 111, 97, 100, 40, 120, 44, 32, 114, 108, 120, 41, 59, 32, 125]⟩
def tg2 : ByteArray := ⟨#[115, 104, 97, 114, 101, 100, 32, 120, 59, 32, 116, 104, 114, 101, 97, 100, 32, 123, 32, 115, 116, 111, 114, 101, 40, 120, 44, 32, 49, 44, 32, 115, 99, 41, 59, 32, 125]⟩
def tg3 : ByteArray := ⟨#[115, 104, 97, 114, 101, 100, 32, 120, 59, 32, 116, 104, 114, 101, 97, 100, 32, 123, 32, 108, 101, 116, 32, 114, 32, 61, 32, 102, 97, 100, 100, 40, 120, 44, 32, 49, 44, 32, 97, 99, 113, 114, 101, 108, 41, 59, 32, 125]⟩
def tg4 : ByteArray := ⟨#[115, 104, 97, 114, 101, 100, 32, 120, 59, 32, 116, 104, 114, 101, 97, 100, 32, 123, 32, 108, 101, 116, 32, 114, 32, 61, 32, 120, 99, 104, 103, 40, 120, 44, 32, 49, 44, 32, 114, 108, 120, 41, 59, 32, 125]⟩
def tq0 : List Nat := [116, 104, 114, 101, 97, 100, 32, 123, 32, 119, 104, 105, 108, 101, 32, 40, 49, 41, 32, 123, 32, 125, 32, 125, 32, 116, 104, 114, 101, 97, 100, 32, 123, 32, 125]
def tq1 : List Nat := [115, 104, 97, 114, 101, 100, 32, 120, 59, 32, 116, 104, 114, 101, 97, 100, 32, 123, 32, 108, 101, 116, 32, 114, 32, 61, 32, 102, 97, 100, 100, 40, 120, 44, 32, 49, 44, 32, 114, 101, 108, 41, 59, 32, 125, 32, 116, 104, 114, 101, 97, 100, 32, 123, 32, 108, 101, 116, 32, 114, 32, 61, 32, 99, 97, 115, 40, 120, 44, 32, 49, 44, 32, 50, 44, 32, 115, 99, 41, 59, 32, 125]

end Go.Proofs.YtlpcnaeknbmjdaaGreat
