/-
  lower.needs.
-/
import Derived.Test.YtgaejhhipnpopaaLwB
namespace Go.Proofs.Ytgaejhhipnpopaa
set_option linter.unusedVariables false
set_option linter.unusedSimpArgs false
open Go Go.RowKit
open Sy (Let Blk)

theorem max_q (x y : Nat) (h : y < 9223372036854775807) : (bif Ex.ltQ (x : Int) (Ex.wrapQ .i64 (Ex.addQ (y : Int) 1)) then Ex.wrapQ .i64 (Ex.addQ (y : Int) 1) else (x : Int)) = ((max x (y + 1) : Nat) : Int) := by
  rw [Sy.inc_q y h, Ex.ltQ_eq]
  by_cases hlt : (x : Int) < ((y + 1 : Nat) : Int)
  · rw [decide_eq_true hlt]; simp only [cond_true]; omega
  · rw [decide_eq_false hlt]; simp only [cond_false]; omega

/-! lower.needs -/
abbrev fNeeds : FuncId := 30
def needsC (g o c : Nat) (l : List Nd) (loc : Int) (i0 : Nat) (i : Int) : Sy.CallC :=
  ⟨fNeeds, #[.slice (some ⟨g, o, none⟩) l.length c, .int .i64 i], isExpr loc l ∧ 0 ≤ i ∧ i < l.length ∧ i < i0, ⟨[(g, .seg o (ndCells l))], [], 0⟩, [Sy.plainO (.int .i64 ((tr l i.toNat).needs : Int))]⟩
noncomputable def ctxNd (g o c : Nat) (l : List Nd) (loc : Int) (i0 : Nat) : Sy.Ctx := Sy.mkS [(fNeeds, fun a _ => needsC g o c l loc i0 (Sy.argI a 1))] [] []
def nd_o : Sy.O := (Sy.O.steps [1, 0, 1, 1, 1, 1, 1, 1, 0, 0, 0, 0, 0] (Sy.O.fork Sy.O.nil (Sy.O.steps [0, 0] (Sy.O.fork (Sy.O.steps [0, 0, 0, 1] Sy.O.nil) (Sy.O.steps [0, 0, 1, 2, 0, 0, 4, 5, 6, 0, 0, 13, 0, 1, 1, 1, 0, 13, 0, 0, 1, 1, 0, 8, 9, 10] Sy.O.nil)))))
noncomputable def nd_R (g : Nat) (o : Nat) (c : Nat) (l : List Nd) (loc : Int) (i : Int) (i0 : Nat) (ns : Nat → Sy.Let) : Sy.Res (Value × List Blk) := Sy.Res.need ((0 : Int) ≤ i ∧ i < (↑(List.length l) : Int))
 (Sy.Res.need
 (∃ (i_1 : Int),
 Sy.Cont.at (Sy.Cont.seg o (ndCells l)) (o + Int.toNat i * (4 : Nat)) = some (Value.int IntKind.i64 i_1))
 (Sy.Res.hyp
 (Sy.Cont.at (Sy.Cont.seg o (ndCells l)) (o + Int.toNat i * (4 : Nat)) =
 some (Value.int IntKind.i64 (Let.i (ns (0 : Nat)))))
 (Sy.Res.need
 (∃ (i_1 : Int),
 Sy.Cont.at (Sy.Cont.seg o (ndCells l)) (o + Int.toNat i * (4 : Nat) + (1 : Nat)) =
 some (Value.int IntKind.u64 i_1))
 (Sy.Res.hyp
 (Sy.Cont.at (Sy.Cont.seg o (ndCells l)) (o + Int.toNat i * (4 : Nat) + (1 : Nat)) =
 some (Value.int IntKind.u64 (Let.i (ns (1 : Nat)))))
 (Sy.Res.need
 (∃ (i_1 : Int),
 Sy.Cont.at (Sy.Cont.seg o (ndCells l)) (o + Int.toNat i * (4 : Nat) + (1 : Nat) + (1 : Nat)) =
 some (Value.int IntKind.i64 i_1))
 (Sy.Res.hyp
 (Sy.Cont.at (Sy.Cont.seg o (ndCells l)) (o + Int.toNat i * (4 : Nat) + (1 : Nat) + (1 : Nat)) =
 some (Value.int IntKind.i64 (Let.i (ns (2 : Nat)))))
 (Sy.Res.need
 (∃ (i_1 : Int),
 Sy.Cont.at (Sy.Cont.seg o (ndCells l))
 (o + Int.toNat i * (4 : Nat) + (1 : Nat) + (1 : Nat) + (1 : Nat)) =
 some (Value.int IntKind.i64 i_1))
 (Sy.Res.hyp
 (Sy.Cont.at (Sy.Cont.seg o (ndCells l))
 (o + Int.toNat i * (4 : Nat) + (1 : Nat) + (1 : Nat) + (1 : Nat)) =
 some (Value.int IntKind.i64 (Let.i (ns (3 : Nat)))))
 (Sy.Res.br (Ex.leQ (Let.i (ns (0 : Nat))) (2 : Int))
 (Sy.Res.leaf (Value.int IntKind.i64 (1 : Int), []))
 (Sy.Res.br (Ex.leQ (Let.i (ns (0 : Nat))) (5 : Int))
 (Sy.Res.need
 (isExpr loc l ∧
 (0 : Int) ≤ Let.i (ns (2 : Nat)) ∧
 Let.i (ns (2 : Nat)) < (↑(List.length l) : Int) ∧ Let.i (ns (2 : Nat)) < (↑i0 : Int))
 (Sy.Res.hyp True
 (Sy.Res.leaf
 (Value.int IntKind.i64 (↑(E.needs (tr l (Int.toNat (Let.i (ns (2 : Nat)))))) : Int), []))))
 (Sy.Res.need
 (isExpr loc l ∧
 (0 : Int) ≤ Let.i (ns (2 : Nat)) ∧
 Let.i (ns (2 : Nat)) < (↑(List.length l) : Int) ∧ Let.i (ns (2 : Nat)) < (↑i0 : Int))
 (Sy.Res.hyp True
 (Sy.Res.need
 (isExpr loc l ∧
 (0 : Int) ≤ Let.i (ns (3 : Nat)) ∧
 Let.i (ns (3 : Nat)) < (↑(List.length l) : Int) ∧ Let.i (ns (3 : Nat)) < (↑i0 : Int))
 (Sy.Res.hyp True
 (Sy.Res.leaf
 (Value.int IntKind.i64
 (bif
 Ex.ltQ (↑(E.needs (tr l (Int.toNat (Let.i (ns (2 : Nat)))))) : Int)
 (Ex.wrapQ IntKind.i64
 (Ex.addQ (↑(E.needs (tr l (Int.toNat (Let.i (ns (3 : Nat)))))) : Int)
 (1 : Int))) then
 Ex.wrapQ IntKind.i64
 (Ex.addQ (↑(E.needs (tr l (Int.toNat (Let.i (ns (3 : Nat)))))) : Int) (1 : Int))
 else (↑(E.needs (tr l (Int.toNat (Let.i (ns (2 : Nat)))))) : Int)),
 []))))))))))))))))
theorem nd_run (g o c : Nat) (l : List Nd) (loc i : Int) (i0 : Nat) : Sy.Ran (Sy.inT Try.prog (ctxNd g o c l loc i0) 60 fNeeds (needsC g o c l loc i0 i).args (Sy.blks (needsC g o c l loc i0 i).mem) Sy.noB) nd_o (nd_R g o c l loc i i0) := ⟨fun ns => by kernel_rfl, fun ns => by kernel_rfl⟩


theorem nd_atI {l : List Nd} {i : Int} {x : Nd} (h : l[i.toNat]? = some x) (o : Nat) :
    (Sy.Cont.seg o (ndCells l)).at (o + Int.toNat i * 4) = some (.int .i64 x.op) ∧ (Sy.Cont.seg o (ndCells l)).at (o + Int.toNat i * 4 + 1) = some (.int .u64 x.val) ∧
    (Sy.Cont.seg o (ndCells l)).at (o + Int.toNat i * 4 + 1 + 1) = some (.int .i64 x.a) ∧ (Sy.Cont.seg o (ndCells l)).at (o + Int.toNat i * 4 + 1 + 1 + 1) = some (.int .i64 x.b) := by
  have := nd_at h o
  simpa only [Int.toNat_natCast] using this

theorem needsC_step (g o c : Nat) (l : List Nd) (loc : Int) (i0 : Nat) (ih : ∀ i, Sy.Meets Try.prog (needsC g o c l loc i0 i)) (i : Int) : Sy.Meets Try.prog (needsC g o c l loc (i0 + 1) i) := by
  have HS : (ctxNd g o c l loc i0).holds Try.prog := Sy.mkS_holds (fun p hp a L => by
    rcases List.mem_singleton.1 hp with rfl
    exact ih _) (fun _ h => (by cases h)) (fun _ h => (by cases h))
  refine Sy.meets_of HS mixed (nd_run g o c l loc i i0) fun hok ns => ?_
  obtain ⟨hE, h0, h1, h2⟩ : isExpr loc l ∧ 0 ≤ i ∧ i < l.length ∧ i < ((i0 + 1 : Nat) : Int) := hok
  have hok := hE.1
  simp only [nd_R, Sy.Res.holds, Sy.b_and, Sy.b_or, Sy.b_not, Sy.b_f, Sy.b_and', Sy.b_or', Sy.q_lt, Sy.q_le, Sy.q_eq, Sy.b_tt, Sy.b_ft, not_true_eq_false, not_false_eq_true]
  have hlt : i.toNat < l.length := by omega
  have ea : l[i.toNat]? = some l[i.toNat] := List.getElem?_eq_getElem hlt
  obtain ⟨a0, a1, a2, a3⟩ := nd_atI ea o
  simp only [a0, a1, a2, a3, some_int, some_bool, exists_eq', true_and]
  generalize l[i.toNat] = x at *
  refine ⟨⟨h0, h1⟩, fun e0 e1 e2 e3 => ?_⟩
  simp only [← e0, ← e2, ← e3]
  have hx := hok _ x ea
  refine ⟨fun c2 => ?_, fun c2 => ⟨fun c5 => ⟨⟨hE, ?_⟩, fun _ => ?_⟩, fun c5 => ?_⟩⟩
  · refine Sy.plainO_leaf (List.mem_singleton_self _) rfl ?_
    by_cases h : x.op ≤ 1
    · rw [tr_num ea h]; rfl
    · rw [tr_loc ea (by omega)]; rfl
  · have := ok_a hx (by omega)
    omega
  · have := ok_a hx (by omega)
    refine Sy.plainO_leaf (List.mem_singleton_self _) rfl ?_
    rw [tr_un ea (by omega) (by omega) (by omega)]; rfl
  · have ha := ok_a hx (by omega)
    have hb := ok_b hx (by omega)
    refine ⟨⟨hE, by omega⟩, fun _ => ⟨⟨hE, by omega⟩, fun _ => Sy.plainO_leaf (List.mem_singleton_self _) rfl ?_⟩⟩
    have hs := tr_small hE (i := x.b.toNat) (by omega)
    have hn := (tr l x.b.toNat).needs_le
    have hl := hE.2.2.1
    rw [max_q _ _ (by omega), tr_bin ea (by omega) (by omega) (by omega)]; rfl

theorem needsC_met (g o c : Nat) (l : List Nd) (loc : Int) : ∀ (i0 : Nat) (i : Int), Sy.Meets Try.prog (needsC g o c l loc i0 i)
  | 0, i => fun hok => absurd hok.2.2.2 (by have := hok.2.1; omega)
  | i0 + 1, i => needsC_step g o c l loc i0 (fun j => needsC_met g o c l loc i0 j) i

end Go.Proofs.Ytgaejhhipnpopaa
