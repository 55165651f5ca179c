/-
  Needs and Expr, of both: the calls.
-/
import Derived.Test.YtgaejhhipnpopaaLwY
namespace Go.Proofs.Ytgaejhhipnpopaa
set_option linter.unusedVariables false
set_option linter.unusedSimpArgs false
open Go Go.RowKit
open Sy (Let Blk)

abbrev fTN : FuncId := 11
abbrev fTX : FuncId := 13
abbrev fRTN : FuncId := 20
abbrev fRTX : FuncId := 19

noncomputable def nE (l : List Nd) : Int := bif tru (isExpr 24 l) then ((tr l (l.length - 1)).needs : Int) else 0
noncomputable def nB (l : List Nd) : Int := bif tru (isExpr 24 l) then 0 else 1
def lenOk (l : List Nd) : Prop := (0 < l.length ∧ l.length ≤ 4398046511104) ∧ goodN l

noncomputable def tnC (g o c : Nat) (l : List Nd) : Sy.CallC := ⟨fTN, #[.slice (some ⟨g, o, none⟩) l.length c], lenOk l, ⟨[(g, .seg o (ndCells l))], [], 0⟩, [Sy.plainO (.tuple #[.int .i64 (nE l), .int .i64 (nB l)])]⟩
noncomputable def rtnC (g o c : Nat) (l : List Nd) : Sy.CallC := ⟨fRTN, #[.slice (some ⟨g, o, none⟩) l.length c], lenOk l, ⟨[(g, .seg o (ndCells l))], [], 0⟩, [Sy.plainO (.tuple #[.int .i64 (nE l), .int .i64 (nB l)])]⟩
noncomputable def ctxQ (g o c : Nat) (l : List Nd) : Sy.Ctx := Sy.mkS [(fMay, fun _ _ => mayC g o c l), (fNeeds, fun a _ => needsC g o c l 24 l.length (Sy.argI a 1)), (fExpr, fun a _ => exprC g o c l l.length (Sy.argI a 1) (Sy.argI a 2)),
  (fRX, fun a _ => rxC g o c l (Sy.argI a 1)), (fRN, fun _ _ => rnC g o c l), (fLay, fun a _ => rlay0 g o c l l.length (Sy.argI a 2) (Sy.argI a 3))] [] []
def tn_o : Sy.O := (Sy.O.steps [0, 0] (Sy.O.fork Sy.O.nil (Sy.O.steps [0, 0] Sy.O.nil)))
noncomputable def tn_R (g : Nat) (o : Nat) (c : Nat) (l : List Nd) (ns : Nat → Sy.Let) : Sy.Res (Value × List Blk) := Sy.Res.need ((0 : Nat) < List.length l ∧ List.length l ≤ (4398046511104 : Nat))
 (Sy.Res.hyp True
 (Sy.Res.br (!tru (isExpr (24 : Int) l))
 (Sy.Res.leaf (Value.tuple (Array.mk [Value.int IntKind.i64 (0 : Int), Value.int IntKind.i64 (1 : Int)]), []))
 (Sy.Res.need
 (isExpr (24 : Int) l ∧
 (0 : Int) ≤ Ex.wrapQ IntKind.i64 (Ex.subQ' (↑(List.length l) : Int) (1 : Int)) ∧
 Ex.wrapQ IntKind.i64 (Ex.subQ' (↑(List.length l) : Int) (1 : Int)) < (↑(List.length l) : Int) ∧
 Ex.wrapQ IntKind.i64 (Ex.subQ' (↑(List.length l) : Int) (1 : Int)) < (↑(List.length l) : Int))
 (Sy.Res.hyp True
 (Sy.Res.leaf
 (Value.tuple
 (Array.mk
 [Value.int IntKind.i64
 (↑(E.needs
 (tr l (Int.toNat (Ex.wrapQ IntKind.i64 (Ex.subQ' (↑(List.length l) : Int) (1 : Int)))))) :
 Int),
 Value.int IntKind.i64 (0 : Int)]),
 []))))))
theorem tn_run (g o c : Nat) (l : List Nd) : Sy.Ran (Sy.inT Try.prog (ctxQ g o c l) 60 fTN (tnC g o c l).args (Sy.blks (tnC g o c l).mem) Sy.noB) tn_o (tn_R g o c l) := ⟨fun ns => by kernel_rfl, fun ns => by kernel_rfl⟩
def rtn_o : Sy.O := (Sy.O.steps [0, 0] (Sy.O.fork Sy.O.nil (Sy.O.steps [0, 0] Sy.O.nil)))
noncomputable def rtn_R (g : Nat) (o : Nat) (c : Nat) (l : List Nd) (ns : Nat → Sy.Let) : Sy.Res (Value × List Blk) := Sy.Res.need (((0 : Int) ≤ (24 : Int) ∧ (24 : Int) ≤ (1000 : Int) ∧ goodN l) ∧ (0 : Nat) < List.length l)
 (Sy.Res.hyp True
 (Sy.Res.br (!tru (isExpr (24 : Int) l))
 (Sy.Res.leaf (Value.tuple (Array.mk [Value.int IntKind.i64 (0 : Int), Value.int IntKind.i64 (1 : Int)]), []))
 (Sy.Res.need (nodesOk (24 : Int) l ∧ (0 : Nat) < List.length l ∧ List.length l ≤ (65536 : Nat) ∧ onceOk l)
 (Sy.Res.hyp True
 (Sy.Res.leaf
 (Value.tuple
 (Array.mk
 [Value.int IntKind.i64 (↑(E.needs (tr l (List.length l - (1 : Nat)))) : Int),
 Value.int IntKind.i64 (0 : Int)]),
 []))))))
theorem rtn_run (g o c : Nat) (l : List Nd) : Sy.Ran (Sy.inT Try.prog (ctxQ g o c l) 60 fRTN (rtnC g o c l).args (Sy.blks (rtnC g o c l).mem) Sy.noB) rtn_o (rtn_R g o c l) := ⟨fun ns => by kernel_rfl, fun ns => by kernel_rfl⟩

/-- Expr: one call, told in three ways. -/
noncomputable def txArgs (g o c : Nat) (l : List Nd) (k : Int) : Array Value := #[.slice (some ⟨g, o, none⟩) l.length c, .int .i64 k]
noncomputable def rtxArgs (g o c : Nat) (l : List Nd) (k : Int) : Array Value := #[.slice none 0 0, .slice (some ⟨g, o, none⟩) l.length c, .int .i64 k]
def tx_o : Sy.O := (Sy.O.steps [0, 0] (Sy.O.fork (Sy.O.steps [0, 0, 0, 0, 0, 0, 0, 0, 0] Sy.O.nil) (Sy.O.steps [0, 0, 0, 0, 0, 0, 1] (Sy.O.fork Sy.O.nil (Sy.O.fork Sy.O.nil (Sy.O.steps [0, 0] Sy.O.nil))))))
noncomputable def tx_R (g : Nat) (o : Nat) (c : Nat) (l : List Nd) (k : Int) (ns : Nat → Sy.Let) : Sy.Res (Value × List Blk) := Sy.Res.need ((0 : Nat) < List.length l ∧ List.length l ≤ (4398046511104 : Nat))
 (Sy.Res.hyp True
 (Sy.Res.br (!tru (isExpr (24 : Int) l))
 (Sy.Res.leaf (Value.tuple (Array.mk [Value.slice none (0 : Nat) (0 : Nat), Value.int IntKind.i64 (1 : Int)]), []))
 (Sy.Res.need
 (isExpr (24 : Int) l ∧
 (0 : Int) ≤ Ex.wrapQ IntKind.i64 (Ex.subQ' (↑(List.length l) : Int) (1 : Int)) ∧
 Ex.wrapQ IntKind.i64 (Ex.subQ' (↑(List.length l) : Int) (1 : Int)) < (↑(List.length l) : Int) ∧
 Ex.wrapQ IntKind.i64 (Ex.subQ' (↑(List.length l) : Int) (1 : Int)) < (↑(List.length l) : Int))
 (Sy.Res.hyp True
 (Sy.Res.br (bif bif false then true else Ex.ltQ k (0 : Int) then true else Ex.leQ (5 : Int) k)
 (Sy.Res.leaf
 (Value.tuple (Array.mk [Value.slice none (0 : Nat) (0 : Nat), Value.int IntKind.i64 (1 : Int)]), []))
 (Sy.Res.br
 (Ex.ltQ (5 : Int)
 (Ex.wrapQ IntKind.i64
 (Ex.addQ k
 (↑(E.needs
 (tr l (Int.toNat (Ex.wrapQ IntKind.i64 (Ex.subQ' (↑(List.length l) : Int) (1 : Int)))))) :
 Int))))
 (Sy.Res.leaf
 (Value.tuple (Array.mk [Value.slice none (0 : Nat) (0 : Nat), Value.int IntKind.i64 (30 : Int)]), []))
 (Sy.Res.need
 ((isExpr (24 : Int) l ∧ goodN l) ∧
 (0 : Int) ≤ Ex.wrapQ IntKind.i64 (Ex.subQ' (↑(List.length l) : Int) (1 : Int)) ∧
 Ex.wrapQ IntKind.i64 (Ex.subQ' (↑(List.length l) : Int) (1 : Int)) < (↑(List.length l) : Int) ∧
 Ex.wrapQ IntKind.i64 (Ex.subQ' (↑(List.length l) : Int) (1 : Int)) < (↑(List.length l) : Int) ∧
 (0 : Int) ≤ k ∧
 k +
 (↑(E.needs
 (tr l
 (Int.toNat
 (Ex.wrapQ IntKind.i64 (Ex.subQ' (↑(List.length l) : Int) (1 : Int)))))) :
 Int) ≤
 (5 : Int))
 (Sy.Res.hyp
 (Nat.le
 (List.length
 (lay (tr l (Int.toNat (Ex.wrapQ IntKind.i64 (Ex.subQ' (↑(List.length l) : Int) (1 : Int)))))
 ((24 : Int) + k)))
 (Let.n (ns (1 : Nat))))
 (Sy.Res.leaf
 (Value.tuple
 (Array.mk
 [Value.slice (some (Addr.mk (Let.n (ns (0 : Nat))) (0 : Nat) none))
 (List.length
 (lay
 (tr l
 (Int.toNat (Ex.wrapQ IntKind.i64 (Ex.subQ' (↑(List.length l) : Int) (1 : Int)))))
 ((24 : Int) + k)))
 (Let.n (ns (1 : Nat))),
 Value.int IntKind.i64 (0 : Int)]),
 [Blk.mk (Let.n (ns (0 : Nat)))
 (Sy.Cont.row (29 : Nat) (6 : Nat)
 (List.length
 (lay
 (tr l (Int.toNat (Ex.wrapQ IntKind.i64 (Ex.subQ' (↑(List.length l) : Int) (1 : Int)))))
 ((24 : Int) + k)))
 (Let.n (ns (1 : Nat)))
 (insCells
 (lay
 (tr l (Int.toNat (Ex.wrapQ IntKind.i64 (Ex.subQ' (↑(List.length l) : Int) (1 : Int)))))
 ((24 : Int) + k))))
 true]))))))))))
theorem tx_run (g o c : Nat) (l : List Nd) (k : Int) : Sy.Ran (Sy.inT Try.prog (ctxQ g o c l) 60 fTX (txArgs g o c l k) [⟨g, .seg o (ndCells l), false⟩] (Sy.rowT tI)) tx_o (tx_R g o c l k) := ⟨fun ns => by kernel_rfl, fun ns => by kernel_rfl⟩
def rtx_o : Sy.O := (Sy.O.steps [0, 0, 1, 1] (Sy.O.fork Sy.O.nil (Sy.O.steps [0, 0] (Sy.O.fork Sy.O.nil (Sy.O.steps [0, 0] Sy.O.nil)))))
noncomputable def rtx_R (g : Nat) (o : Nat) (c : Nat) (l : List Nd) (k : Int) (ns : Nat → Sy.Let) : Sy.Res (Value × List Blk) := Sy.Res.need (((0 : Int) ≤ (24 : Int) ∧ (24 : Int) ≤ (1000 : Int) ∧ goodN l) ∧ (0 : Nat) < List.length l)
 (Sy.Res.hyp True
 (Sy.Res.br (bif bif !tru (isExpr (24 : Int) l) then true else Ex.ltQ k (0 : Int) then true else Ex.ltQ (4 : Int) k)
 (Sy.Res.leaf (Value.tuple (Array.mk [Value.slice none (0 : Nat) (0 : Nat), Value.int IntKind.i64 (1 : Int)]), []))
 (Sy.Res.need (nodesOk (24 : Int) l ∧ (0 : Nat) < List.length l ∧ List.length l ≤ (65536 : Nat) ∧ onceOk l)
 (Sy.Res.hyp True
 (Sy.Res.br
 (Ex.ltQ (5 : Int) (Ex.wrapQ IntKind.i64 (Ex.addQ k (↑(E.needs (tr l (List.length l - (1 : Nat)))) : Int))))
 (Sy.Res.leaf
 (Value.tuple (Array.mk [Value.slice none (0 : Nat) (0 : Nat), Value.int IntKind.i64 (30 : Int)]), []))
 (Sy.Res.need
 ((isExpr (24 : Int) l ∧ goodN l) ∧
 (0 : Int) ≤ Ex.wrapQ IntKind.i64 (Ex.subQ' (↑(List.length l) : Int) (1 : Int)) ∧
 Ex.wrapQ IntKind.i64 (Ex.subQ' (↑(List.length l) : Int) (1 : Int)) < (↑(List.length l) : Int) ∧
 Ex.wrapQ IntKind.i64 (Ex.subQ' (↑(List.length l) : Int) (1 : Int)) < (↑(List.length l) : Int) ∧
 (24 : Int) ≤ Ex.wrapQ IntKind.i64 (Ex.addQ (24 : Int) k) ∧
 Ex.wrapQ IntKind.i64 (Ex.addQ (24 : Int) k) +
 (↑(E.needs
 (tr l
 (Int.toNat (Ex.wrapQ IntKind.i64 (Ex.subQ' (↑(List.length l) : Int) (1 : Int)))))) :
 Int) ≤
 (29 : Int))
 (Sy.Res.hyp
 (Nat.le
 (List.length
 (lay (tr l (Int.toNat (Ex.wrapQ IntKind.i64 (Ex.subQ' (↑(List.length l) : Int) (1 : Int)))))
 (Ex.wrapQ IntKind.i64 (Ex.addQ (24 : Int) k))))
 (Let.n (ns (1 : Nat))))
 (Sy.Res.leaf
 (Value.tuple
 (Array.mk
 [Value.slice (some (Addr.mk (Let.n (ns (0 : Nat))) (0 : Nat) none))
 (List.length
 (lay
 (tr l (Int.toNat (Ex.wrapQ IntKind.i64 (Ex.subQ' (↑(List.length l) : Int) (1 : Int)))))
 (Ex.wrapQ IntKind.i64 (Ex.addQ (24 : Int) k))))
 (Let.n (ns (1 : Nat))),
 Value.int IntKind.i64 (0 : Int)]),
 [Blk.mk (Let.n (ns (0 : Nat)))
 (Sy.Cont.row (29 : Nat) (6 : Nat)
 (List.length
 (lay (tr l (Int.toNat (Ex.wrapQ IntKind.i64 (Ex.subQ' (↑(List.length l) : Int) (1 : Int)))))
 (Ex.wrapQ IntKind.i64 (Ex.addQ (24 : Int) k))))
 (Let.n (ns (1 : Nat)))
 (insCells
 (lay (tr l (Int.toNat (Ex.wrapQ IntKind.i64 (Ex.subQ' (↑(List.length l) : Int) (1 : Int)))))
 (Ex.wrapQ IntKind.i64 (Ex.addQ (24 : Int) k)))))
 true])))))))))
theorem rtx_run (g o c : Nat) (l : List Nd) (k : Int) : Sy.Ran (Sy.inT Try.prog (ctxQ g o c l) 60 fRTX (rtxArgs g o c l k) [⟨g, .seg o (ndCells l), false⟩] (Sy.rowT tI)) rtx_o (rtx_R g o c l k) := ⟨fun ns => by kernel_rfl, fun ns => by kernel_rfl⟩

theorem leftE {l : List Nd} (h : lenOk l) : Ex.wrapQ .i64 (Ex.subQ' (l.length : Int) 1) = ((l.length - 1 : Nat) : Int) := dec_q l.length h.1.1 (by have := h.1.2; omega)
theorem nE_pos {l : List Nd} (h : isExpr 24 l) : nE l = ((tr l (l.length - 1)).needs : Int) := by unfold nE; rw [tru_pos h]; rfl
theorem nE_neg {l : List Nd} (h : ¬ isExpr 24 l) : nE l = 0 := by unfold nE; rw [tru_neg h]; rfl
theorem nB_pos {l : List Nd} (h : isExpr 24 l) : nB l = 0 := by unfold nB; rw [tru_pos h]; rfl
theorem nB_neg {l : List Nd} (h : ¬ isExpr 24 l) : nB l = 1 := by unfold nB; rw [tru_neg h]; rfl

theorem ctxQ_holds (g o c : Nat) (l : List Nd) : (ctxQ g o c l).holds Try.prog := Sy.mkS_holds (fun p hp a L => by
  rcases List.mem_cons.1 hp with rfl | hp
  · exact mayC_met _ _ _ _
  rcases List.mem_cons.1 hp with rfl | hp
  · exact needsC_met _ _ _ _ _ _ _
  rcases List.mem_cons.1 hp with rfl | hp
  · exact exprC_met _ _ _ _ _ _ _
  rcases List.mem_cons.1 hp with rfl | hp
  · exact rxC_met _ _ _ _ _
  rcases List.mem_cons.1 hp with rfl | hp
  · exact rnC_met _ _ _ _
  rcases List.mem_singleton.1 hp with rfl
  exact (rlay_met _ _ _ _ _).1 _ _) (fun _ h => (by cases h)) (fun _ h => (by cases h))

theorem tnC_met (g o c : Nat) (l : List Nd) : Sy.Meets Try.prog (tnC g o c l) := by
  refine Sy.meets_of (ctxQ_holds g o c l) mixed (tn_run g o c l) fun hok ns => ?_
  have hl : lenOk l := hok
  simp only [tn_R, Sy.Res.holds, Sy.b_and, Sy.b_or, Sy.b_not, Sy.b_f, Sy.b_and', Sy.b_or', Sy.q_lt, Sy.q_le, Sy.q_eq, Sy.b_tt, Sy.b_ft, not_true_eq_false, not_false_eq_true, some_int, some_bool, exists_eq', true_and, tru_t, leftE hl, Int.toNat_natCast]
  have h0 := hl.1.1
  refine ⟨hl.1, fun _ => ⟨fun h => Sy.plainO_leaf (List.mem_singleton_self _) rfl (by rw [nE_neg h, nB_neg h]), fun h => ?_⟩⟩
  have hE : isExpr 24 l := Classical.byContradiction h
  exact ⟨⟨hE, by omega, by omega, by omega⟩, fun _ => Sy.plainO_leaf (List.mem_singleton_self _) rfl (by rw [nE_pos hE, nB_pos hE])⟩

theorem rtnC_met (g o c : Nat) (l : List Nd) : Sy.Meets Try.prog (rtnC g o c l) := by
  refine Sy.meets_of (ctxQ_holds g o c l) mixed (rtn_run g o c l) fun hok ns => ?_
  have hl : lenOk l := hok
  simp only [rtn_R, Sy.Res.holds, Sy.b_and, Sy.b_or, Sy.b_not, Sy.b_f, Sy.b_and', Sy.b_or', Sy.q_lt, Sy.q_le, Sy.q_eq, Sy.b_tt, Sy.b_ft, not_true_eq_false, not_false_eq_true, some_int, some_bool, exists_eq', true_and, tru_t]
  have h0 := hl.1.1
  refine ⟨⟨⟨by omega, by omega, hl.2⟩, h0⟩, fun _ => ⟨fun h => Sy.plainO_leaf (List.mem_singleton_self _) rfl (by rw [nE_neg h, nB_neg h]), fun h => ?_⟩⟩
  have hE : isExpr 24 l := Classical.byContradiction h
  exact ⟨hE, fun _ => Sy.plainO_leaf (List.mem_singleton_self _) rfl (by rw [nE_pos hE, nB_pos hE])⟩

def badX (l : List Nd) (k : Int) : Prop := ¬ isExpr 24 l ∨ k < 0 ∨ 5 ≤ k
def regX (l : List Nd) (k : Int) : Prop := isExpr 24 l ∧ 0 ≤ k ∧ k < 5 ∧ 5 < k + (tr l (l.length - 1)).needs
def okX (l : List Nd) (k : Int) : Prop := isExpr 24 l ∧ 0 ≤ k ∧ k + (tr l (l.length - 1)).needs ≤ 5
noncomputable def outL (l : List Nd) (k : Int) : List I := lay (tr l (l.length - 1)) (24 + k)

noncomputable def xBad (f : FuncId) (args : Array Value) (g o : Nat) (l : List Nd) (k : Int) : Sy.CallC := ⟨f, args, lenOk l ∧ badX l k, ⟨[(g, .seg o (ndCells l))], [], 0⟩, [Sy.plainO (.tuple #[.slice none 0 0, .int .i64 1])]⟩
noncomputable def xReg (f : FuncId) (args : Array Value) (g o : Nat) (l : List Nd) (k : Int) : Sy.CallC := ⟨f, args, lenOk l ∧ regX l k, ⟨[(g, .seg o (ndCells l))], [], 0⟩, [Sy.plainO (.tuple #[.slice none 0 0, .int .i64 30])]⟩
noncomputable def xOk (f : FuncId) (args : Array Value) (g o : Nat) (l : List Nd) (k : Int) : Sy.CallC := ⟨f, args, lenOk l ∧ okX l k, ⟨[(g, .seg o (ndCells l))], [], 2⟩, [Sy.rowO tI 6 (outL l k).length (insCells (outL l k)) fun s => .tuple #[s, .int .i64 0]]⟩

theorem txBad_met (g o c : Nat) (l : List Nd) (k : Int) : Sy.Meets Try.prog (xBad fTX (txArgs g o c l k) g o l k) := by
  refine Sy.meets_of (ctxQ_holds g o c l) mixed (tx_run g o c l k) fun hok ns => ?_
  obtain ⟨hl, hb⟩ : lenOk l ∧ badX l k := hok
  have h0 := hl.1.1
  simp only [tx_R, Sy.Res.holds, Sy.b_and, Sy.b_or, Sy.b_not, Sy.b_f, Sy.b_and', Sy.b_or', Sy.q_lt, Sy.q_le, Sy.q_eq, Sy.b_tt, Sy.b_ft, not_true_eq_false, not_false_eq_true, some_int, some_bool, exists_eq', true_and, tru_t, leftE hl, Int.toNat_natCast, false_or]
  refine ⟨hl.1, fun _ => ?_⟩
  refine ⟨fun h => Sy.plainO_leaf (List.mem_singleton_self _) rfl rfl, fun h => ?_⟩
  have hE : isExpr 24 l := Classical.byContradiction h
  refine ⟨⟨hE, by omega, by omega, by omega⟩, fun _ => ⟨fun h => Sy.plainO_leaf (List.mem_singleton_self _) rfl rfl, fun h => ?_⟩⟩
  rcases hb with hb | hb
  · exact absurd hE hb
  · exact absurd hb h

theorem txReg_met (g o c : Nat) (l : List Nd) (k : Int) : Sy.Meets Try.prog (xReg fTX (txArgs g o c l k) g o l k) := by
  refine Sy.meets_of (ctxQ_holds g o c l) mixed (tx_run g o c l k) fun hok ns => ?_
  obtain ⟨hl, hb⟩ : lenOk l ∧ regX l k := hok
  have h0 := hl.1.1
  have hE := hb.1
  have hm := hE.2.2.1
  have hx := tr_small hE (i := l.length - 1) (by omega)
  have hn := (tr l (l.length - 1)).needs_le
  simp only [tx_R, Sy.Res.holds, Sy.b_and, Sy.b_or, Sy.b_not, Sy.b_f, Sy.b_and', Sy.b_or', Sy.q_lt, Sy.q_le, Sy.q_eq, Sy.b_tt, Sy.b_ft, not_true_eq_false, not_false_eq_true, some_int, some_bool, exists_eq', true_and, tru_t, leftE hl, Int.toNat_natCast, false_or]
  refine ⟨hl.1, fun _ => ?_⟩
  obtain ⟨-, b0, b1, b2⟩ := hb
  refine ⟨fun h => absurd hE h, fun h => ⟨⟨hE, by omega, by omega, by omega⟩, fun _ => ⟨fun h => absurd h (by omega), fun h => ?_⟩⟩⟩
  rw [add_small (by omega) (by omega)]
  exact ⟨fun _ => Sy.plainO_leaf (List.mem_singleton_self _) rfl rfl, fun h => absurd b2 h⟩

theorem txOk_met (g o c : Nat) (l : List Nd) (k : Int) : Sy.Meets Try.prog (xOk fTX (txArgs g o c l k) g o l k) := by
  refine Sy.meets_of (ctxQ_holds g o c l) mixed (tx_run g o c l k) fun hok ns => ?_
  obtain ⟨hl, hb⟩ : lenOk l ∧ okX l k := hok
  have h0 := hl.1.1
  have hE := hb.1
  have hm := hE.2.2.1
  have hx := tr_small hE (i := l.length - 1) (by omega)
  have hn := (tr l (l.length - 1)).needs_le
  simp only [tx_R, Sy.Res.holds, Sy.b_and, Sy.b_or, Sy.b_not, Sy.b_f, Sy.b_and', Sy.b_or', Sy.q_lt, Sy.q_le, Sy.q_eq, Sy.b_tt, Sy.b_ft, not_true_eq_false, not_false_eq_true, some_int, some_bool, exists_eq', true_and, tru_t, leftE hl, Int.toNat_natCast, false_or]
  refine ⟨hl.1, fun _ => ?_⟩
  obtain ⟨-, b0, b1⟩ := hb
  have hp := (tr l (l.length - 1)).needs_pos
  refine ⟨fun h => absurd hE h, fun h => ⟨⟨hE, by omega, by omega, by omega⟩, fun _ => ⟨fun h => absurd h (by omega), fun h => ?_⟩⟩⟩
  rw [add_small (by omega) (by omega)]
  exact ⟨fun h => absurd h (by omega), fun h => ⟨⟨⟨hE, hl.2⟩, by omega, by omega, by omega, b0, b1⟩, fun hc => Sy.rowO_leaf' (List.mem_singleton_self _) rfl 0 rfl rfl rfl rfl hc⟩⟩

theorem rtxBad_met (g o c : Nat) (l : List Nd) (k : Int) : Sy.Meets Try.prog (xBad fRTX (rtxArgs g o c l k) g o l k) := by
  refine Sy.meets_of (ctxQ_holds g o c l) mixed (rtx_run g o c l k) fun hok ns => ?_
  obtain ⟨hl, hb⟩ : lenOk l ∧ badX l k := hok
  have h0 := hl.1.1
  simp only [rtx_R, Sy.Res.holds, Sy.b_and, Sy.b_or, Sy.b_not, Sy.b_f, Sy.b_and', Sy.b_or', Sy.q_lt, Sy.q_le, Sy.q_eq, Sy.b_tt, Sy.b_ft, not_true_eq_false, not_false_eq_true, some_int, some_bool, exists_eq', true_and, tru_t, leftE hl, Int.toNat_natCast, false_or]
  refine ⟨⟨⟨by omega, by omega, hl.2⟩, h0⟩, fun _ => ?_⟩
  refine ⟨fun h => Sy.plainO_leaf (List.mem_singleton_self _) rfl rfl, fun h => ?_⟩
  exact absurd (hb.elim (fun hb => .inl (.inl hb)) fun hb => hb.elim (fun hb => .inl (.inr hb)) fun hb => .inr (by omega)) h

theorem rtxReg_met (g o c : Nat) (l : List Nd) (k : Int) : Sy.Meets Try.prog (xReg fRTX (rtxArgs g o c l k) g o l k) := by
  refine Sy.meets_of (ctxQ_holds g o c l) mixed (rtx_run g o c l k) fun hok ns => ?_
  obtain ⟨hl, hb⟩ : lenOk l ∧ regX l k := hok
  have h0 := hl.1.1
  have hE := hb.1
  have hm := hE.2.2.1
  have hx := tr_small hE (i := l.length - 1) (by omega)
  have hn := (tr l (l.length - 1)).needs_le
  have hw : 0 ≤ k → k < 5 → Ex.wrapQ .i64 (Ex.addQ 24 k) = 24 + k := fun a b => add_small (by omega) (by omega)
  simp only [rtx_R, Sy.Res.holds, Sy.b_and, Sy.b_or, Sy.b_not, Sy.b_f, Sy.b_and', Sy.b_or', Sy.q_lt, Sy.q_le, Sy.q_eq, Sy.b_tt, Sy.b_ft, not_true_eq_false, not_false_eq_true, some_int, some_bool, exists_eq', true_and, tru_t, leftE hl, Int.toNat_natCast, false_or]
  refine ⟨⟨⟨by omega, by omega, hl.2⟩, h0⟩, fun _ => ?_⟩
  obtain ⟨-, b0, b1, b2⟩ := hb
  refine ⟨fun h => absurd h fun h => h.elim (fun h => h.elim (fun h => h hE) (by omega)) (by omega), fun h => ⟨hE, fun _ => ?_⟩⟩
  rw [add_small (by omega) (by omega)]
  exact ⟨fun _ => Sy.plainO_leaf (List.mem_singleton_self _) rfl rfl, fun h => absurd b2 h⟩

theorem rtxOk_met (g o c : Nat) (l : List Nd) (k : Int) : Sy.Meets Try.prog (xOk fRTX (rtxArgs g o c l k) g o l k) := by
  refine Sy.meets_of (ctxQ_holds g o c l) mixed (rtx_run g o c l k) fun hok ns => ?_
  obtain ⟨hl, hb⟩ : lenOk l ∧ okX l k := hok
  have h0 := hl.1.1
  have hE := hb.1
  have hm := hE.2.2.1
  have hx := tr_small hE (i := l.length - 1) (by omega)
  have hn := (tr l (l.length - 1)).needs_le
  have hw : 0 ≤ k → k < 5 → Ex.wrapQ .i64 (Ex.addQ 24 k) = 24 + k := fun a b => add_small (by omega) (by omega)
  simp only [rtx_R, Sy.Res.holds, Sy.b_and, Sy.b_or, Sy.b_not, Sy.b_f, Sy.b_and', Sy.b_or', Sy.q_lt, Sy.q_le, Sy.q_eq, Sy.b_tt, Sy.b_ft, not_true_eq_false, not_false_eq_true, some_int, some_bool, exists_eq', true_and, tru_t, leftE hl, Int.toNat_natCast, false_or]
  refine ⟨⟨⟨by omega, by omega, hl.2⟩, h0⟩, fun _ => ?_⟩
  obtain ⟨-, b0, b1⟩ := hb
  have hp := (tr l (l.length - 1)).needs_pos
  refine ⟨fun h => absurd h fun h => h.elim (fun h => h.elim (fun h => h hE) (by omega)) (by omega), fun h => ⟨hE, fun _ => ?_⟩⟩
  rw [add_small (by omega) (by omega), hw (by omega) (by omega)]
  exact ⟨fun h => absurd h (by omega), fun h => ⟨⟨⟨hE, hl.2⟩, by omega, by omega, by omega, by omega, by omega⟩, fun hc => Sy.rowO_leaf' (List.mem_singleton_self _) rfl 0 rfl rfl rfl rfl hc⟩⟩

end Go.Proofs.Ytgaejhhipnpopaa
