/-
  The reference's lexer: the Words.
-/
import Derived.Test.YtlpcnaeknbmjdaaGreatLxS
namespace Go.Proofs.YtlpcnaeknbmjdaaGreat
set_option linter.unusedVariables false
set_option linter.unusedSimpArgs false
open Go Go.RowKit
open Sy (Let Blk)

abbrev fIsWord : FuncId := 74
def iw_o : Sy.O := (Sy.O.steps [0, 0, 0, 0] (Sy.O.fork Sy.O.nil (Sy.O.steps [0, 0, 0, 0] (Sy.O.fork Sy.O.nil (Sy.O.steps [0, 0, 0, 0] (Sy.O.fork Sy.O.nil (Sy.O.steps [0, 0, 0, 0] (Sy.O.fork Sy.O.nil (Sy.O.steps [0, 0, 0, 0] (Sy.O.fork Sy.O.nil (Sy.O.steps [0, 0, 0, 0] (Sy.O.fork Sy.O.nil (Sy.O.steps [0, 0, 0, 0] (Sy.O.fork Sy.O.nil (Sy.O.steps [0, 0, 0, 0] (Sy.O.fork Sy.O.nil (Sy.O.steps [0, 0, 0, 0] (Sy.O.fork Sy.O.nil (Sy.O.steps [0, 0, 0, 0] (Sy.O.fork Sy.O.nil (Sy.O.steps [0, 0, 0, 0] (Sy.O.fork Sy.O.nil (Sy.O.steps [0, 0, 0, 0] (Sy.O.fork Sy.O.nil (Sy.O.steps [0, 0, 0, 0] (Sy.O.fork Sy.O.nil (Sy.O.steps [0, 0, 0, 0] (Sy.O.fork Sy.O.nil (Sy.O.steps [0, 0, 0, 0] (Sy.O.fork Sy.O.nil (Sy.O.steps [0, 0, 0, 0] (Sy.O.fork Sy.O.nil (Sy.O.steps [0, 0, 0, 0] (Sy.O.fork Sy.O.nil (Sy.O.steps [0, 0, 0, 0] (Sy.O.fork Sy.O.nil (Sy.O.steps [0] Sy.O.nil)))))))))))))))))))))))))))))))))))))
noncomputable def iw_R (s : ByteArray) (ns : Nat → Sy.Let) : Sy.Res (Value × List Blk) := Sy.Res.br
 (Sy.eqS
 (ByteArray.mk (Array.mk [(115 : UInt8), (104 : UInt8), (97 : UInt8), (114 : UInt8), (101 : UInt8), (100 : UInt8)]))
 s)
 (Sy.Res.leaf (Value.bool true, []))
 (Sy.Res.br
 (Sy.eqS
 (ByteArray.mk
 (Array.mk [(116 : UInt8), (104 : UInt8), (114 : UInt8), (101 : UInt8), (97 : UInt8), (100 : UInt8)]))
 s)
 (Sy.Res.leaf (Value.bool true, []))
 (Sy.Res.br (Sy.eqS (ByteArray.mk (Array.mk [(108 : UInt8), (101 : UInt8), (116 : UInt8)])) s)
 (Sy.Res.leaf (Value.bool true, []))
 (Sy.Res.br (Sy.eqS (ByteArray.mk (Array.mk [(108 : UInt8), (111 : UInt8), (97 : UInt8), (100 : UInt8)])) s)
 (Sy.Res.leaf (Value.bool true, []))
 (Sy.Res.br
 (Sy.eqS (ByteArray.mk (Array.mk [(115 : UInt8), (116 : UInt8), (111 : UInt8), (114 : UInt8), (101 : UInt8)]))
 s)
 (Sy.Res.leaf (Value.bool true, []))
 (Sy.Res.br (Sy.eqS (ByteArray.mk (Array.mk [(120 : UInt8), (99 : UInt8), (104 : UInt8), (103 : UInt8)])) s)
 (Sy.Res.leaf (Value.bool true, []))
 (Sy.Res.br (Sy.eqS (ByteArray.mk (Array.mk [(102 : UInt8), (97 : UInt8), (100 : UInt8), (100 : UInt8)])) s)
 (Sy.Res.leaf (Value.bool true, []))
 (Sy.Res.br (Sy.eqS (ByteArray.mk (Array.mk [(99 : UInt8), (97 : UInt8), (115 : UInt8)])) s)
 (Sy.Res.leaf (Value.bool true, []))
 (Sy.Res.br
 (Sy.eqS
 (ByteArray.mk (Array.mk [(102 : UInt8), (101 : UInt8), (110 : UInt8), (99 : UInt8), (101 : UInt8)]))
 s)
 (Sy.Res.leaf (Value.bool true, []))
 (Sy.Res.br
 (Sy.eqS
 (ByteArray.mk
 (Array.mk [(112 : UInt8), (114 : UInt8), (105 : UInt8), (110 : UInt8), (116 : UInt8)]))
 s)
 (Sy.Res.leaf (Value.bool true, []))
 (Sy.Res.br (Sy.eqS (ByteArray.mk (Array.mk [(105 : UInt8), (102 : UInt8)])) s)
 (Sy.Res.leaf (Value.bool true, []))
 (Sy.Res.br
 (Sy.eqS (ByteArray.mk (Array.mk [(101 : UInt8), (108 : UInt8), (115 : UInt8), (101 : UInt8)]))
 s)
 (Sy.Res.leaf (Value.bool true, []))
 (Sy.Res.br
 (Sy.eqS
 (ByteArray.mk
 (Array.mk [(119 : UInt8), (104 : UInt8), (105 : UInt8), (108 : UInt8), (101 : UInt8)]))
 s)
 (Sy.Res.leaf (Value.bool true, []))
 (Sy.Res.br (Sy.eqS (ByteArray.mk (Array.mk [(114 : UInt8), (108 : UInt8), (120 : UInt8)])) s)
 (Sy.Res.leaf (Value.bool true, []))
 (Sy.Res.br (Sy.eqS (ByteArray.mk (Array.mk [(97 : UInt8), (99 : UInt8), (113 : UInt8)])) s)
 (Sy.Res.leaf (Value.bool true, []))
 (Sy.Res.br
 (Sy.eqS (ByteArray.mk (Array.mk [(114 : UInt8), (101 : UInt8), (108 : UInt8)])) s)
 (Sy.Res.leaf (Value.bool true, []))
 (Sy.Res.br
 (Sy.eqS
 (ByteArray.mk
 (Array.mk
 [(97 : UInt8), (99 : UInt8), (113 : UInt8), (114 : UInt8), (101 : UInt8),
 (108 : UInt8)]))
 s)
 (Sy.Res.leaf (Value.bool true, []))
 (Sy.Res.br (Sy.eqS (ByteArray.mk (Array.mk [(115 : UInt8), (99 : UInt8)])) s)
 (Sy.Res.leaf (Value.bool true, []))
 (Sy.Res.leaf (Value.bool false, [])))))))))))))))))))
theorem iw_run (s : ByteArray) : Sy.Ran (Sy.inC Tryz.prog Sy.S0 60 fIsWord #[.string s] [] Sy.noB) iw_o (iw_R s) := ⟨fun ns => by kernel_rfl, fun ns => by kernel_rfl⟩

/-- Is it one of the Words? -/
noncomputable def isWordF (s : ByteArray) : Bool := bif (Sy.eqS ⟨⟨[115, 104, 97, 114, 101, 100]⟩⟩ s) then true else bif (Sy.eqS ⟨⟨[116, 104, 114, 101, 97, 100]⟩⟩ s) then true else bif (Sy.eqS ⟨⟨[108, 101, 116]⟩⟩ s) then true else bif (Sy.eqS ⟨⟨[108, 111, 97, 100]⟩⟩ s) then true else bif (Sy.eqS ⟨⟨[115, 116, 111, 114, 101]⟩⟩ s) then true else bif (Sy.eqS ⟨⟨[120, 99, 104, 103]⟩⟩ s) then true else bif (Sy.eqS ⟨⟨[102, 97, 100, 100]⟩⟩ s) then true else bif (Sy.eqS ⟨⟨[99, 97, 115]⟩⟩ s) then true else bif (Sy.eqS ⟨⟨[102, 101, 110, 99, 101]⟩⟩ s) then true else bif (Sy.eqS ⟨⟨[112, 114, 105, 110, 116]⟩⟩ s) then true else bif (Sy.eqS ⟨⟨[105, 102]⟩⟩ s) then true else bif (Sy.eqS ⟨⟨[101, 108, 115, 101]⟩⟩ s) then true else bif (Sy.eqS ⟨⟨[119, 104, 105, 108, 101]⟩⟩ s) then true else bif (Sy.eqS ⟨⟨[114, 108, 120]⟩⟩ s) then true else bif (Sy.eqS ⟨⟨[97, 99, 113]⟩⟩ s) then true else bif (Sy.eqS ⟨⟨[114, 101, 108]⟩⟩ s) then true else bif (Sy.eqS ⟨⟨[97, 99, 113, 114, 101, 108]⟩⟩ s) then true else bif (Sy.eqS ⟨⟨[115, 99]⟩⟩ s) then true else false
noncomputable def iwC (s : ByteArray) : Sy.CallC := Sy.plainC fIsWord #[.string s] (.bool (isWordF s))
theorem iwC_met (s : ByteArray) : Sy.Meets Tryz.prog (iwC s) := by
  refine Sy.meets_ofC Sy.S0_holds mixed (iw_run s) fun hok ns => ?_
  simp only [iw_R, Sy.Res.holds]
  unfold iwC isWordF
  generalize (Sy.eqS ⟨⟨[115, 104, 97, 114, 101, 100]⟩⟩ s) = b0
  generalize (Sy.eqS ⟨⟨[116, 104, 114, 101, 97, 100]⟩⟩ s) = b1
  generalize (Sy.eqS ⟨⟨[108, 101, 116]⟩⟩ s) = b2
  generalize (Sy.eqS ⟨⟨[108, 111, 97, 100]⟩⟩ s) = b3
  generalize (Sy.eqS ⟨⟨[115, 116, 111, 114, 101]⟩⟩ s) = b4
  generalize (Sy.eqS ⟨⟨[120, 99, 104, 103]⟩⟩ s) = b5
  generalize (Sy.eqS ⟨⟨[102, 97, 100, 100]⟩⟩ s) = b6
  generalize (Sy.eqS ⟨⟨[99, 97, 115]⟩⟩ s) = b7
  generalize (Sy.eqS ⟨⟨[102, 101, 110, 99, 101]⟩⟩ s) = b8
  generalize (Sy.eqS ⟨⟨[112, 114, 105, 110, 116]⟩⟩ s) = b9
  generalize (Sy.eqS ⟨⟨[105, 102]⟩⟩ s) = b10
  generalize (Sy.eqS ⟨⟨[101, 108, 115, 101]⟩⟩ s) = b11
  generalize (Sy.eqS ⟨⟨[119, 104, 105, 108, 101]⟩⟩ s) = b12
  generalize (Sy.eqS ⟨⟨[114, 108, 120]⟩⟩ s) = b13
  generalize (Sy.eqS ⟨⟨[97, 99, 113]⟩⟩ s) = b14
  generalize (Sy.eqS ⟨⟨[114, 101, 108]⟩⟩ s) = b15
  generalize (Sy.eqS ⟨⟨[97, 99, 113, 114, 101, 108]⟩⟩ s) = b16
  generalize (Sy.eqS ⟨⟨[115, 99]⟩⟩ s) = b17
  repeat' (first | apply And.intro | intro)
  all_goals
    refine Sy.plainO_leaf (List.mem_singleton_self _) rfl ?_
    simp_all

end Go.Proofs.YtlpcnaeknbmjdaaGreat
