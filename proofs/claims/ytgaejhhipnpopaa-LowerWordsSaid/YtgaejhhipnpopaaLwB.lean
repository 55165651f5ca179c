/-
  lower.binary; the reference's plain and cond.
-/
import Derived.Test.YtgaejhhipnpopaaLwT
namespace Go.Proofs.Ytgaejhhipnpopaa
set_option linter.unusedVariables false
set_option linter.unusedSimpArgs false
open Go Go.RowKit
open Sy (Let Blk)

abbrev fBin : FuncId := 46
abbrev fPlain : FuncId := 48
abbrev fCond : FuncId := 49
def binCd (op : Int) : Int := if binOp op = 0 then binCond op else 0
def binC (op : Int) : Sy.CallC := ⟨fBin, #[.int .i64 op], 6 ≤ op ∧ op ≤ 19, ⟨[], [], 0⟩, [Sy.plainO (.tuple #[.int .i64 (binOp op), .int .i64 (binCd op)])]⟩
def plC (op : Int) : Sy.CallC := ⟨fPlain, #[.int .i64 op], True, ⟨[], [], 0⟩, [Sy.plainO (.int .i64 (binOp op))]⟩
def cdC (op : Int) : Sy.CallC := ⟨fCond, #[.int .i64 op], True, ⟨[], [], 0⟩, [Sy.plainO (.int .i64 (binCond op))]⟩
def bin_o : Sy.O := (Sy.O.fork Sy.O.nil (Sy.O.fork Sy.O.nil (Sy.O.fork Sy.O.nil (Sy.O.fork Sy.O.nil (Sy.O.fork Sy.O.nil (Sy.O.fork Sy.O.nil (Sy.O.fork Sy.O.nil (Sy.O.fork Sy.O.nil (Sy.O.fork Sy.O.nil (Sy.O.fork Sy.O.nil (Sy.O.fork Sy.O.nil (Sy.O.fork Sy.O.nil (Sy.O.fork Sy.O.nil Sy.O.nil)))))))))))))
noncomputable def bin_R (op : Int) (ns : Nat → Sy.Let) : Sy.Res (Value × List Blk) := Sy.Res.br (Ex.eqQ op (6 : Int))
 (Sy.Res.leaf (Value.tuple (Array.mk [Value.int IntKind.i64 (9 : Int), Value.int IntKind.i64 (0 : Int)]), []))
 (Sy.Res.br (Ex.eqQ op (7 : Int))
 (Sy.Res.leaf (Value.tuple (Array.mk [Value.int IntKind.i64 (3 : Int), Value.int IntKind.i64 (0 : Int)]), []))
 (Sy.Res.br (Ex.eqQ op (8 : Int))
 (Sy.Res.leaf (Value.tuple (Array.mk [Value.int IntKind.i64 (4 : Int), Value.int IntKind.i64 (0 : Int)]), []))
 (Sy.Res.br (Ex.eqQ op (9 : Int))
 (Sy.Res.leaf (Value.tuple (Array.mk [Value.int IntKind.i64 (10 : Int), Value.int IntKind.i64 (0 : Int)]), []))
 (Sy.Res.br (Ex.eqQ op (10 : Int))
 (Sy.Res.leaf (Value.tuple (Array.mk [Value.int IntKind.i64 (11 : Int), Value.int IntKind.i64 (0 : Int)]), []))
 (Sy.Res.br (Ex.eqQ op (11 : Int))
 (Sy.Res.leaf
 (Value.tuple (Array.mk [Value.int IntKind.i64 (5 : Int), Value.int IntKind.i64 (0 : Int)]), []))
 (Sy.Res.br (Ex.eqQ op (12 : Int))
 (Sy.Res.leaf
 (Value.tuple (Array.mk [Value.int IntKind.i64 (7 : Int), Value.int IntKind.i64 (0 : Int)]), []))
 (Sy.Res.br (Ex.eqQ op (13 : Int))
 (Sy.Res.leaf
 (Value.tuple (Array.mk [Value.int IntKind.i64 (6 : Int), Value.int IntKind.i64 (0 : Int)]), []))
 (Sy.Res.br (Ex.eqQ op (14 : Int))
 (Sy.Res.leaf
 (Value.tuple (Array.mk [Value.int IntKind.i64 (0 : Int), Value.int IntKind.i64 (0 : Int)]), []))
 (Sy.Res.br (Ex.eqQ op (15 : Int))
 (Sy.Res.leaf
 (Value.tuple (Array.mk [Value.int IntKind.i64 (0 : Int), Value.int IntKind.i64 (1 : Int)]), []))
 (Sy.Res.br (Ex.eqQ op (16 : Int))
 (Sy.Res.leaf
 (Value.tuple (Array.mk [Value.int IntKind.i64 (0 : Int), Value.int IntKind.i64 (3 : Int)]), []))
 (Sy.Res.br (Ex.eqQ op (17 : Int))
 (Sy.Res.leaf
 (Value.tuple (Array.mk [Value.int IntKind.i64 (0 : Int), Value.int IntKind.i64 (9 : Int)]),
 []))
 (Sy.Res.br (Ex.eqQ op (18 : Int))
 (Sy.Res.leaf
 (Value.tuple (Array.mk [Value.int IntKind.i64 (0 : Int), Value.int IntKind.i64 (8 : Int)]),
 []))
 (Sy.Res.leaf
 (Value.tuple (Array.mk [Value.int IntKind.i64 (0 : Int), Value.int IntKind.i64 (2 : Int)]),
 []))))))))))))))
theorem bin_run (op : Int) : Sy.Ran (Sy.inT Try.prog Sy.S0 60 fBin (binC op).args [] Sy.noB) bin_o (bin_R op) := ⟨fun ns => by kernel_rfl, fun ns => by kernel_rfl⟩
def pl_o : Sy.O := (Sy.O.fork Sy.O.nil (Sy.O.fork Sy.O.nil (Sy.O.fork Sy.O.nil (Sy.O.fork Sy.O.nil (Sy.O.fork Sy.O.nil (Sy.O.fork Sy.O.nil (Sy.O.fork Sy.O.nil (Sy.O.fork Sy.O.nil Sy.O.nil))))))))
noncomputable def pl_R (op : Int) (ns : Nat → Sy.Let) : Sy.Res (Value × List Blk) := Sy.Res.br (Ex.eqQ op (6 : Int)) (Sy.Res.leaf (Value.int IntKind.i64 (9 : Int), []))
 (Sy.Res.br (Ex.eqQ op (7 : Int)) (Sy.Res.leaf (Value.int IntKind.i64 (3 : Int), []))
 (Sy.Res.br (Ex.eqQ op (8 : Int)) (Sy.Res.leaf (Value.int IntKind.i64 (4 : Int), []))
 (Sy.Res.br (Ex.eqQ op (9 : Int)) (Sy.Res.leaf (Value.int IntKind.i64 (10 : Int), []))
 (Sy.Res.br (Ex.eqQ op (10 : Int)) (Sy.Res.leaf (Value.int IntKind.i64 (11 : Int), []))
 (Sy.Res.br (Ex.eqQ op (11 : Int)) (Sy.Res.leaf (Value.int IntKind.i64 (5 : Int), []))
 (Sy.Res.br (Ex.eqQ op (12 : Int)) (Sy.Res.leaf (Value.int IntKind.i64 (7 : Int), []))
 (Sy.Res.br (Ex.eqQ op (13 : Int)) (Sy.Res.leaf (Value.int IntKind.i64 (6 : Int), []))
 (Sy.Res.leaf (Value.int IntKind.i64 (0 : Int), [])))))))))
theorem pl_run (op : Int) : Sy.Ran (Sy.inT Try.prog Sy.S0 60 fPlain (plC op).args [] Sy.noB) pl_o (pl_R op) := ⟨fun ns => by kernel_rfl, fun ns => by kernel_rfl⟩
def cd_o : Sy.O := (Sy.O.fork Sy.O.nil (Sy.O.fork Sy.O.nil (Sy.O.fork Sy.O.nil (Sy.O.fork Sy.O.nil (Sy.O.fork Sy.O.nil Sy.O.nil)))))
noncomputable def cd_R (op : Int) (ns : Nat → Sy.Let) : Sy.Res (Value × List Blk) := Sy.Res.br (Ex.eqQ op (14 : Int)) (Sy.Res.leaf (Value.int IntKind.i64 (0 : Int), []))
 (Sy.Res.br (Ex.eqQ op (15 : Int)) (Sy.Res.leaf (Value.int IntKind.i64 (1 : Int), []))
 (Sy.Res.br (Ex.eqQ op (16 : Int)) (Sy.Res.leaf (Value.int IntKind.i64 (3 : Int), []))
 (Sy.Res.br (Ex.eqQ op (17 : Int)) (Sy.Res.leaf (Value.int IntKind.i64 (9 : Int), []))
 (Sy.Res.br (Ex.eqQ op (18 : Int)) (Sy.Res.leaf (Value.int IntKind.i64 (8 : Int), []))
 (Sy.Res.leaf (Value.int IntKind.i64 (2 : Int), []))))))
theorem cd_run (op : Int) : Sy.Ran (Sy.inT Try.prog Sy.S0 60 fCond (cdC op).args [] Sy.noB) cd_o (cd_R op) := ⟨fun ns => by kernel_rfl, fun ns => by kernel_rfl⟩

theorem binC_met (op : Int) : Sy.Meets Try.prog (binC op) := by
  refine Sy.meets_of Sy.S0_holds mixed (bin_run op) fun hok ns => ?_
  obtain ⟨h0, h1⟩ : 6 ≤ op ∧ op ≤ 19 := hok
  simp only [bin_R, Sy.Res.holds, Sy.b_and, Sy.b_or, Sy.b_not, Sy.b_f, Sy.b_and', Sy.b_or', Sy.q_lt, Sy.q_le, Sy.q_eq, Sy.b_tt, Sy.b_ft, not_true_eq_false, not_false_eq_true]
  repeat' refine And.intro (fun h => ?_) (fun h => ?_)
  all_goals first
    | (subst h; exact Sy.plainO_leaf (List.mem_singleton_self _) rfl rfl)
    | (obtain rfl : op = 19 := by omega
       exact Sy.plainO_leaf (List.mem_singleton_self _) rfl rfl)
theorem plC_met (op : Int) : Sy.Meets Try.prog (plC op) := by
  refine Sy.meets_of Sy.S0_holds mixed (pl_run op) fun hok ns => ?_
  simp only [pl_R, Sy.Res.holds, Sy.b_and, Sy.b_or, Sy.b_not, Sy.b_f, Sy.b_and', Sy.b_or', Sy.q_lt, Sy.q_le, Sy.q_eq, Sy.b_tt, Sy.b_ft, not_true_eq_false, not_false_eq_true]
  repeat' refine And.intro (fun h => ?_) (fun h => ?_)
  all_goals first
    | (subst h; exact Sy.plainO_leaf (List.mem_singleton_self _) rfl rfl)
    | exact Sy.plainO_leaf (List.mem_singleton_self _) rfl (by show _ = Value.int .i64 (binOp op); unfold binOp; simp only [*, if_false])
theorem cdC_met (op : Int) : Sy.Meets Try.prog (cdC op) := by
  refine Sy.meets_of Sy.S0_holds mixed (cd_run op) fun hok ns => ?_
  simp only [cd_R, Sy.Res.holds, Sy.b_and, Sy.b_or, Sy.b_not, Sy.b_f, Sy.b_and', Sy.b_or', Sy.q_lt, Sy.q_le, Sy.q_eq, Sy.b_tt, Sy.b_ft, not_true_eq_false, not_false_eq_true]
  repeat' refine And.intro (fun h => ?_) (fun h => ?_)
  all_goals first
    | (subst h; exact Sy.plainO_leaf (List.mem_singleton_self _) rfl rfl)
    | exact Sy.plainO_leaf (List.mem_singleton_self _) rfl (by show _ = Value.int .i64 (binCond op); unfold binCond; simp only [*, if_false])

end Go.Proofs.Ytgaejhhipnpopaa
