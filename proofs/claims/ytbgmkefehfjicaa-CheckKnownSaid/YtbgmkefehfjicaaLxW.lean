/-
  The reference's lexer: the Words.
-/
import Derived.Test.YtbgmkefehfjicaaLxS
namespace Go.Proofs.Ytbgmkefehfjicaa
set_option linter.unusedVariables false
set_option linter.unusedSimpArgs false
open Go Go.RowKit
open Sy (Let Blk)

abbrev fIsWord : FuncId := 53
def iw_o : Sy.O := (Sy.O.steps [0, 0, 0, 0] (Sy.O.fork Sy.O.nil (Sy.O.steps [0, 0, 0, 0] (Sy.O.fork Sy.O.nil (Sy.O.steps [0, 0, 0, 0] (Sy.O.fork Sy.O.nil (Sy.O.steps [0, 0, 0, 0] (Sy.O.fork Sy.O.nil (Sy.O.steps [0, 0, 0, 0] (Sy.O.fork Sy.O.nil (Sy.O.steps [0, 0, 0, 0] (Sy.O.fork Sy.O.nil (Sy.O.steps [0, 0, 0, 0] (Sy.O.fork Sy.O.nil (Sy.O.steps [0, 0, 0, 0] (Sy.O.fork Sy.O.nil (Sy.O.steps [0, 0, 0, 0] (Sy.O.fork Sy.O.nil (Sy.O.steps [0, 0, 0, 0] (Sy.O.fork Sy.O.nil (Sy.O.steps [0, 0, 0, 0] (Sy.O.fork Sy.O.nil (Sy.O.steps [0, 0, 0, 0] (Sy.O.fork Sy.O.nil (Sy.O.steps [0, 0, 0, 0] (Sy.O.fork Sy.O.nil (Sy.O.steps [0, 0, 0, 0] (Sy.O.fork Sy.O.nil (Sy.O.steps [0, 0, 0, 0] (Sy.O.fork Sy.O.nil (Sy.O.steps [0, 0, 0, 0] (Sy.O.fork Sy.O.nil (Sy.O.steps [0, 0, 0, 0] (Sy.O.fork Sy.O.nil (Sy.O.steps [0, 0, 0, 0] (Sy.O.fork Sy.O.nil (Sy.O.steps [0] Sy.O.nil)))))))))))))))))))))))))))))))))))))
noncomputable def iw_R (s : ByteArray) (ns : Nat → Sy.Let) : Sy.Res (Value × List Blk) := Sy.Res.br
 ([(115 : UInt8), (104 : UInt8), (97 : UInt8), (114 : UInt8), (101 : UInt8), (100 : UInt8)] == ByteArray.toList s)
 (Sy.Res.leaf (Value.bool true, []))
 (Sy.Res.br
 ([(116 : UInt8), (104 : UInt8), (114 : UInt8), (101 : UInt8), (97 : UInt8), (100 : UInt8)] == ByteArray.toList s)
 (Sy.Res.leaf (Value.bool true, []))
 (Sy.Res.br ([(108 : UInt8), (101 : UInt8), (116 : UInt8)] == ByteArray.toList s) (Sy.Res.leaf (Value.bool true, []))
 (Sy.Res.br ([(108 : UInt8), (111 : UInt8), (97 : UInt8), (100 : UInt8)] == ByteArray.toList s)
 (Sy.Res.leaf (Value.bool true, []))
 (Sy.Res.br ([(115 : UInt8), (116 : UInt8), (111 : UInt8), (114 : UInt8), (101 : UInt8)] == ByteArray.toList s)
 (Sy.Res.leaf (Value.bool true, []))
 (Sy.Res.br ([(120 : UInt8), (99 : UInt8), (104 : UInt8), (103 : UInt8)] == ByteArray.toList s)
 (Sy.Res.leaf (Value.bool true, []))
 (Sy.Res.br ([(102 : UInt8), (97 : UInt8), (100 : UInt8), (100 : UInt8)] == ByteArray.toList s)
 (Sy.Res.leaf (Value.bool true, []))
 (Sy.Res.br ([(99 : UInt8), (97 : UInt8), (115 : UInt8)] == ByteArray.toList s)
 (Sy.Res.leaf (Value.bool true, []))
 (Sy.Res.br
 ([(102 : UInt8), (101 : UInt8), (110 : UInt8), (99 : UInt8), (101 : UInt8)] == ByteArray.toList s)
 (Sy.Res.leaf (Value.bool true, []))
 (Sy.Res.br
 ([(112 : UInt8), (114 : UInt8), (105 : UInt8), (110 : UInt8), (116 : UInt8)] == ByteArray.toList s)
 (Sy.Res.leaf (Value.bool true, []))
 (Sy.Res.br ([(105 : UInt8), (102 : UInt8)] == ByteArray.toList s)
 (Sy.Res.leaf (Value.bool true, []))
 (Sy.Res.br ([(101 : UInt8), (108 : UInt8), (115 : UInt8), (101 : UInt8)] == ByteArray.toList s)
 (Sy.Res.leaf (Value.bool true, []))
 (Sy.Res.br
 ([(119 : UInt8), (104 : UInt8), (105 : UInt8), (108 : UInt8), (101 : UInt8)] ==
 ByteArray.toList s)
 (Sy.Res.leaf (Value.bool true, []))
 (Sy.Res.br ([(114 : UInt8), (108 : UInt8), (120 : UInt8)] == ByteArray.toList s)
 (Sy.Res.leaf (Value.bool true, []))
 (Sy.Res.br ([(97 : UInt8), (99 : UInt8), (113 : UInt8)] == ByteArray.toList s)
 (Sy.Res.leaf (Value.bool true, []))
 (Sy.Res.br ([(114 : UInt8), (101 : UInt8), (108 : UInt8)] == ByteArray.toList s)
 (Sy.Res.leaf (Value.bool true, []))
 (Sy.Res.br
 ([(97 : UInt8), (99 : UInt8), (113 : UInt8), (114 : UInt8), (101 : UInt8),
 (108 : UInt8)] ==
 ByteArray.toList s)
 (Sy.Res.leaf (Value.bool true, []))
 (Sy.Res.br ([(115 : UInt8), (99 : UInt8)] == ByteArray.toList s)
 (Sy.Res.leaf (Value.bool true, []))
 (Sy.Res.leaf (Value.bool false, [])))))))))))))))))))
theorem iw_run (s : ByteArray) : Sy.Ran (Sy.inC Try.prog Sy.S0 60 fIsWord #[.string s] [] Sy.noB) iw_o (iw_R s) := ⟨fun ns => by kernel_rfl, fun ns => by kernel_rfl⟩

/-- Is it one of the Words? -/
def isWordF (s : ByteArray) : Bool := bif ([115, 104, 97, 114, 101, 100] == s.toList) then true else bif ([116, 104, 114, 101, 97, 100] == s.toList) then true else bif ([108, 101, 116] == s.toList) then true else bif ([108, 111, 97, 100] == s.toList) then true else bif ([115, 116, 111, 114, 101] == s.toList) then true else bif ([120, 99, 104, 103] == s.toList) then true else bif ([102, 97, 100, 100] == s.toList) then true else bif ([99, 97, 115] == s.toList) then true else bif ([102, 101, 110, 99, 101] == s.toList) then true else bif ([112, 114, 105, 110, 116] == s.toList) then true else bif ([105, 102] == s.toList) then true else bif ([101, 108, 115, 101] == s.toList) then true else bif ([119, 104, 105, 108, 101] == s.toList) then true else bif ([114, 108, 120] == s.toList) then true else bif ([97, 99, 113] == s.toList) then true else bif ([114, 101, 108] == s.toList) then true else bif ([97, 99, 113, 114, 101, 108] == s.toList) then true else bif ([115, 99] == s.toList) then true else false
def iwC (s : ByteArray) : Sy.CallC := Sy.plainC fIsWord #[.string s] (.bool (isWordF s))
theorem iwC_met (s : ByteArray) : Sy.Meets Try.prog (iwC s) := by
  refine Sy.meets_ofC Sy.S0_holds mixed (iw_run s) fun hok ns => ?_
  simp only [iw_R, Sy.Res.holds]
  unfold iwC isWordF
  generalize ([115, 104, 97, 114, 101, 100] == s.toList) = b0
  generalize ([116, 104, 114, 101, 97, 100] == s.toList) = b1
  generalize ([108, 101, 116] == s.toList) = b2
  generalize ([108, 111, 97, 100] == s.toList) = b3
  generalize ([115, 116, 111, 114, 101] == s.toList) = b4
  generalize ([120, 99, 104, 103] == s.toList) = b5
  generalize ([102, 97, 100, 100] == s.toList) = b6
  generalize ([99, 97, 115] == s.toList) = b7
  generalize ([102, 101, 110, 99, 101] == s.toList) = b8
  generalize ([112, 114, 105, 110, 116] == s.toList) = b9
  generalize ([105, 102] == s.toList) = b10
  generalize ([101, 108, 115, 101] == s.toList) = b11
  generalize ([119, 104, 105, 108, 101] == s.toList) = b12
  generalize ([114, 108, 120] == s.toList) = b13
  generalize ([97, 99, 113] == s.toList) = b14
  generalize ([114, 101, 108] == s.toList) = b15
  generalize ([97, 99, 113, 114, 101, 108] == s.toList) = b16
  generalize ([115, 99] == s.toList) = b17
  repeat' (first | apply And.intro | intro)
  all_goals
    refine Sy.plainO_leaf (List.mem_singleton_self _) rfl ?_
    simp_all

end Go.Proofs.Ytbgmkefehfjicaa
