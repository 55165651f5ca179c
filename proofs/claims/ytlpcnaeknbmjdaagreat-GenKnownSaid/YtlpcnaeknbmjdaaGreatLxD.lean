/-
  The reference's lexer: kinds of runes.
-/
import Derived.Test.YtlpcnaeknbmjdaaGreatLxR
namespace Go.Proofs.YtlpcnaeknbmjdaaGreat
set_option linter.unusedVariables false
set_option linter.unusedSimpArgs false
open Go Go.RowKit
open Sy (Let Blk)

abbrev fDigit : FuncId := 71
abbrev fLetter : FuncId := 73
abbrev fBlank : FuncId := 111
abbrev fSixteen : FuncId := 112

def ruV (r a n l c : Int) : Value := .agg #[.int .i64 r, .int .i64 a, .int .i64 n, .int .i64 l, .int .i64 c]
def dg_o : Sy.O := (Sy.O.steps [0, 0, 1, 0, 0, 1, 0, 0] Sy.O.nil)
noncomputable def dg_R (r : Int) (a : Int) (n : Int) (l : Int) (c : Int) (ns : Nat → Sy.Let) : Sy.Res (Value × List Blk) := Sy.Res.leaf
 (Value.bool (bif bif Ex.ltQ (0 : Int) n then Ex.leQ (48 : Int) r else false then Ex.leQ r (57 : Int) else false), [])
theorem dg_run (r a n l c : Int) : Sy.Ran (Sy.inT Tryz.prog Sy.S0 50 fDigit #[ruV r a n l c] [] Sy.noB) dg_o (dg_R r a n l c) := ⟨fun ns => by kernel_rfl, fun ns => by kernel_rfl⟩
def lt_o : Sy.O := (Sy.O.steps [0, 0] (Sy.O.fork (Sy.O.steps [0, 0, 0, 0, 0] (Sy.O.fork (Sy.O.steps [0, 0, 0, 0, 0, 0] (Sy.O.fork (Sy.O.steps [0, 0, 0, 0, 0, 0, 0, 0, 0, 0, 0, 0, 0, 0, 0, 0, 0] Sy.O.nil) (Sy.O.steps [0, 0, 0, 0, 0] (Sy.O.fork (Sy.O.steps [0, 0, 0, 0, 0, 0, 0] (Sy.O.fork (Sy.O.steps [0, 0, 0, 0, 0, 0, 0, 0, 0, 0] Sy.O.nil) (Sy.O.steps [0, 0, 0, 0, 0, 0] (Sy.O.fork (Sy.O.steps [0, 0, 0, 0, 0] Sy.O.nil) (Sy.O.steps [0, 0, 0, 0, 0] (Sy.O.fork (Sy.O.steps [0, 0, 0, 0, 0, 0] Sy.O.nil) (Sy.O.steps [0, 0, 0, 0] Sy.O.nil))))))) (Sy.O.steps [0, 0, 0, 0, 0, 0, 0, 0, 0, 0, 0, 0] (Sy.O.fork (Sy.O.steps [0, 0, 0, 0, 0] Sy.O.nil) (Sy.O.steps [0, 0, 0, 0, 0] (Sy.O.fork (Sy.O.steps [0, 0, 0, 0, 0, 0] Sy.O.nil) (Sy.O.steps [0, 0, 0, 0] Sy.O.nil))))))))) (Sy.O.steps [0, 0, 0, 0, 0, 0, 0, 0, 0, 0] (Sy.O.fork (Sy.O.steps [0, 0, 0, 0, 0, 0, 0] (Sy.O.fork (Sy.O.steps [0, 0, 0, 0, 0, 0, 0, 0, 0, 0] Sy.O.nil) (Sy.O.steps [0, 0, 0, 0, 0, 0] (Sy.O.fork (Sy.O.steps [0, 0, 0, 0, 0] Sy.O.nil) (Sy.O.steps [0, 0, 0, 0, 0] (Sy.O.fork (Sy.O.steps [0, 0, 0, 0, 0, 0] Sy.O.nil) (Sy.O.steps [0, 0, 0, 0] Sy.O.nil))))))) (Sy.O.steps [0, 0, 0, 0, 0, 0, 0, 0, 0, 0, 0, 0] (Sy.O.fork (Sy.O.steps [0, 0, 0, 0, 0] Sy.O.nil) (Sy.O.steps [0, 0, 0, 0, 0] (Sy.O.fork (Sy.O.steps [0, 0, 0, 0, 0, 0] Sy.O.nil) (Sy.O.steps [0, 0, 0, 0] Sy.O.nil))))))))) (Sy.O.steps [0, 0, 0, 0, 0, 0, 0, 0, 0, 0] Sy.O.nil)))
noncomputable def lt_R (r : Int) (a : Int) (n : Int) (l : Int) (c : Int) (ns : Nat → Sy.Let) : Sy.Res (Value × List Blk) := Sy.Res.br (Ex.ltQ (0 : Int) n)
 (Sy.Res.br (Ex.leQ (97 : Int) r)
 (Sy.Res.br (bif true then Ex.leQ r (122 : Int) else false) (Sy.Res.leaf (Value.bool true, []))
 (Sy.Res.br (Ex.leQ (65 : Int) r)
 (Sy.Res.br (bif false then true else bif true then Ex.leQ r (90 : Int) else false)
 (Sy.Res.leaf (Value.bool true, []))
 (Sy.Res.br (bif false then true else Ex.eqQ r (95 : Int)) (Sy.Res.leaf (Value.bool true, []))
 (Sy.Res.br (Ex.leQ (945 : Int) r)
 (Sy.Res.leaf
 (Value.bool
 (bif true then bif false then true else bif true then Ex.leQ r (969 : Int) else false else false),
 []))
 (Sy.Res.leaf (Value.bool false, [])))))
 (Sy.Res.br (bif false then true else Ex.eqQ r (95 : Int)) (Sy.Res.leaf (Value.bool true, []))
 (Sy.Res.br (Ex.leQ (945 : Int) r)
 (Sy.Res.leaf
 (Value.bool
 (bif true then bif false then true else bif true then Ex.leQ r (969 : Int) else false else false),
 []))
 (Sy.Res.leaf (Value.bool false, []))))))
 (Sy.Res.br (Ex.leQ (65 : Int) r)
 (Sy.Res.br (bif false then true else bif true then Ex.leQ r (90 : Int) else false)
 (Sy.Res.leaf (Value.bool true, []))
 (Sy.Res.br (bif false then true else Ex.eqQ r (95 : Int)) (Sy.Res.leaf (Value.bool true, []))
 (Sy.Res.br (Ex.leQ (945 : Int) r)
 (Sy.Res.leaf
 (Value.bool
 (bif true then bif false then true else bif true then Ex.leQ r (969 : Int) else false else false),
 []))
 (Sy.Res.leaf (Value.bool false, [])))))
 (Sy.Res.br (bif false then true else Ex.eqQ r (95 : Int)) (Sy.Res.leaf (Value.bool true, []))
 (Sy.Res.br (Ex.leQ (945 : Int) r)
 (Sy.Res.leaf
 (Value.bool
 (bif true then bif false then true else bif true then Ex.leQ r (969 : Int) else false else false),
 []))
 (Sy.Res.leaf (Value.bool false, []))))))
 (Sy.Res.leaf (Value.bool false, []))
theorem lt_run (r a n l c : Int) : Sy.Ran (Sy.inT Tryz.prog Sy.S0 50 fLetter #[ruV r a n l c] [] Sy.noB) lt_o (lt_R r a n l c) := ⟨fun ns => by kernel_rfl, fun ns => by kernel_rfl⟩
def bl_o : Sy.O := (Sy.O.steps [0, 0] (Sy.O.fork (Sy.O.steps [0, 0, 0, 0, 0] (Sy.O.fork (Sy.O.steps [0, 0, 0, 0, 0, 0, 0, 0, 0, 0, 0, 0, 0] Sy.O.nil) (Sy.O.steps [0, 0, 0, 0, 0, 0] (Sy.O.fork (Sy.O.steps [0, 0, 0, 0, 0, 0, 0, 0] Sy.O.nil) (Sy.O.steps [0, 0, 0, 0, 0, 0] (Sy.O.fork (Sy.O.steps [0, 0, 0] Sy.O.nil) (Sy.O.steps [0, 0, 0, 0, 0] Sy.O.nil))))))) (Sy.O.steps [0, 0, 0, 0, 0, 0, 0, 0] Sy.O.nil)))
noncomputable def bl_R (r : Int) (a : Int) (n : Int) (l : Int) (c : Int) (ns : Nat → Sy.Let) : Sy.Res (Value × List Blk) := Sy.Res.br (Ex.ltQ (0 : Int) n)
 (Sy.Res.br (Ex.eqQ r (9 : Int)) (Sy.Res.leaf (Value.bool true, []))
 (Sy.Res.br (bif false then true else Ex.eqQ r (10 : Int)) (Sy.Res.leaf (Value.bool true, []))
 (Sy.Res.br (bif false then true else Ex.eqQ r (13 : Int)) (Sy.Res.leaf (Value.bool true, []))
 (Sy.Res.leaf (Value.bool (bif true then bif false then true else Ex.eqQ r (32 : Int) else false), [])))))
 (Sy.Res.leaf (Value.bool false, []))
theorem bl_run (r a n l c : Int) : Sy.Ran (Sy.inT Tryz.prog Sy.S0 50 fBlank #[ruV r a n l c] [] Sy.noB) bl_o (bl_R r a n l c) := ⟨fun ns => by kernel_rfl, fun ns => by kernel_rfl⟩
def sx_o : Sy.O := (Sy.O.steps [0, 0, 0, 0, 1, 0, 0, 1, 0, 0] (Sy.O.fork (Sy.O.steps [1, 0] Sy.O.nil) (Sy.O.steps [1, 0, 1, 1, 0, 1, 1, 0] (Sy.O.fork (Sy.O.steps [1, 0] Sy.O.nil) (Sy.O.steps [1, 0, 1, 1, 0, 1, 1, 0] (Sy.O.fork (Sy.O.steps [1, 0] Sy.O.nil) Sy.O.nil))))))
noncomputable def sx_R (r : Int) (a : Int) (n : Int) (l : Int) (c : Int) (ns : Nat → Sy.Let) : Sy.Res (Value × List Blk) := Sy.Res.br (bif bif Ex.ltQ (0 : Int) n then Ex.leQ (48 : Int) r else false then Ex.leQ r (57 : Int) else false)
 (Sy.Res.leaf (Value.int IntKind.i64 (Ex.wrapQ IntKind.i64 (Ex.subQ' r (48 : Int))), []))
 (Sy.Res.br (bif bif Ex.ltQ (0 : Int) n then Ex.leQ (97 : Int) r else false then Ex.leQ r (102 : Int) else false)
 (Sy.Res.leaf (Value.int IntKind.i64 (Ex.wrapQ IntKind.i64 (Ex.subQ' r (87 : Int))), []))
 (Sy.Res.br (bif bif Ex.ltQ (0 : Int) n then Ex.leQ (65 : Int) r else false then Ex.leQ r (70 : Int) else false)
 (Sy.Res.leaf (Value.int IntKind.i64 (Ex.wrapQ IntKind.i64 (Ex.subQ' r (55 : Int))), []))
 (Sy.Res.leaf (Value.int IntKind.i64 (16 : Int), []))))
theorem sx_run (r a n l c : Int) : Sy.Ran (Sy.inT Tryz.prog Sy.S0 50 fSixteen #[ruV r a n l c] [] Sy.noB) sx_o (sx_R r a n l c) := ⟨fun ns => by kernel_rfl, fun ns => by kernel_rfl⟩

def dgF (r n : Int) : Bool := bif (bif Ex.ltQ 0 n then Ex.leQ 48 r else false) then Ex.leQ r 57 else false
def ltF (r n : Int) : Bool := bif Ex.ltQ 0 n then bif (bif Ex.leQ 97 r then Ex.leQ r 122 else false) then true else bif (bif Ex.leQ 65 r then Ex.leQ r 90 else false) then true else bif Ex.eqQ r 95 then true else bif Ex.leQ 945 r then Ex.leQ r 969 else false else false
def blF (r n : Int) : Bool := bif Ex.ltQ 0 n then bif Ex.eqQ r 9 then true else bif Ex.eqQ r 10 then true else bif Ex.eqQ r 13 then true else Ex.eqQ r 32 else false
def sxF (r n : Int) : Int := bif dgF r n then Ex.wrapQ .i64 (Ex.subQ' r 48) else bif (bif (bif Ex.ltQ 0 n then Ex.leQ 97 r else false) then Ex.leQ r 102 else false) then Ex.wrapQ .i64 (Ex.subQ' r 87) else bif (bif (bif Ex.ltQ 0 n then Ex.leQ 65 r else false) then Ex.leQ r 70 else false) then Ex.wrapQ .i64 (Ex.subQ' r 55) else 16

def ruC (f : FuncId) (r a n l c : Int) (v : Value) : Sy.CallC := Sy.plainC f #[ruV r a n l c] v
def dgC (r a n l c : Int) : Sy.CallC := ruC fDigit r a n l c (.bool (dgF r n))
def ltC (r a n l c : Int) : Sy.CallC := ruC fLetter r a n l c (.bool (ltF r n))
def blC (r a n l c : Int) : Sy.CallC := ruC fBlank r a n l c (.bool (blF r n))
def sxC (r a n l c : Int) : Sy.CallC := ruC fSixteen r a n l c (.int .i64 (sxF r n))

theorem cf_tt (b : Bool) : (bif true then b else false) = b := rfl
theorem cf_ft (b : Bool) : (bif false then true else b) = b := rfl

theorem dgC_met (r a n l c : Int) : Sy.Meets Tryz.prog (dgC r a n l c) := by
  refine Sy.meets_of Sy.S0_holds mixed (dg_run r a n l c) fun hok ns => ?_
  simp only [dg_R, Sy.Res.holds]
  repeat' (first | apply And.intro | intro)
  all_goals
    refine Sy.plainO_leaf (List.mem_singleton_self _) rfl ?_
    first | rfl | (simp_all [dgF])

theorem ltC_met (r a n l c : Int) : Sy.Meets Tryz.prog (ltC r a n l c) := by
  refine Sy.meets_of Sy.S0_holds mixed (lt_run r a n l c) fun hok ns => ?_
  simp only [lt_R, Sy.Res.holds, cf_tt, cf_ft]
  unfold ltC ruC ltF
  generalize Ex.ltQ 0 n = b0
  generalize Ex.leQ 97 r = b1
  generalize Ex.leQ r 122 = b2
  generalize Ex.leQ 65 r = b3
  generalize Ex.leQ r 90 = b4
  generalize Ex.eqQ r 95 = b5
  generalize Ex.leQ 945 r = b6
  generalize Ex.leQ r 969 = b7
  repeat' (first | apply And.intro | intro)
  all_goals
    refine Sy.plainO_leaf (List.mem_singleton_self _) rfl ?_
    simp_all

theorem blC_met (r a n l c : Int) : Sy.Meets Tryz.prog (blC r a n l c) := by
  refine Sy.meets_of Sy.S0_holds mixed (bl_run r a n l c) fun hok ns => ?_
  simp only [bl_R, Sy.Res.holds, cf_tt, cf_ft]
  unfold blC ruC blF
  generalize Ex.ltQ 0 n = b0
  generalize Ex.eqQ r 9 = b1
  generalize Ex.eqQ r 10 = b2
  generalize Ex.eqQ r 13 = b3
  generalize Ex.eqQ r 32 = b4
  repeat' (first | apply And.intro | intro)
  all_goals
    refine Sy.plainO_leaf (List.mem_singleton_self _) rfl ?_
    simp_all

theorem sxC_met (r a n l c : Int) : Sy.Meets Tryz.prog (sxC r a n l c) := by
  refine Sy.meets_of Sy.S0_holds mixed (sx_run r a n l c) fun hok ns => ?_
  simp only [sx_R, Sy.Res.holds]
  unfold sxC ruC sxF dgF
  repeat' (first | apply And.intro | intro)
  all_goals
    refine Sy.plainO_leaf (List.mem_singleton_self _) rfl ?_
    simp only [*, cond_true, cond_false]

end Go.Proofs.YtlpcnaeknbmjdaaGreat
