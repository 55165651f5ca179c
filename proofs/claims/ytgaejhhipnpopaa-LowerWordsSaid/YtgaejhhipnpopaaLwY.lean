/-
  The reference's needs: the call; its lay.
-/
import Derived.Test.YtgaejhhipnpopaaLwV
namespace Go.Proofs.Ytgaejhhipnpopaa
set_option linter.unusedVariables false
set_option linter.unusedSimpArgs false
open Go Go.RowKit
open Sy (Let Blk)

noncomputable def rnC (g o c : Nat) (l : List Nd) : Sy.CallC := ⟨fRN, #[.slice (some ⟨g, o, none⟩) l.length c], isExpr 24 l, ⟨[(g, .seg o (ndCells l))], [], 0⟩, [Sy.plainO (.int .i64 (tr l (l.length - 1)).needs)]⟩
noncomputable def ctxRN (g o c : Nat) (l : List Nd) : Sy.Ctx := Sy.mkS [] [(fRN, fun a _ => loopV g o c (Sy.ptrN (a.get 3)) l)] []
def rn_o : Sy.O := (Sy.O.steps [1, 1, 0, 1, 0, 1, 0, 1, 1, 1] Sy.O.nil)
noncomputable def rn_R (g : Nat) (o : Nat) (c : Nat) (l : List Nd) (ns : Nat → Sy.Let) : Sy.Res (Value × List Blk) := Sy.Res.need
 ((0 : Int) ≤ Int.ofNat (List.length l) ∧
 Int.toNat (Int.ofNat (List.length l)) * (8 : Nat) ≤ (281474976710656 : Nat) ∧
 Int.toNat (Int.ofNat (List.length l)) ≤ (9223372036854775807 : Nat))
 (Sy.Res.need (nodesOk (24 : Int) l ∧ (0 : Nat) < List.length l ∧ List.length l ≤ (65536 : Nat) ∧ onceOk l)
 (Sy.Res.hyp True
 (Sy.Res.need
 ((0 : Int) ≤ Ex.wrapQ IntKind.i64 (Ex.subQ' (↑(List.length l) : Int) (1 : Int)) ∧
 Ex.wrapQ IntKind.i64 (Ex.subQ' (↑(List.length l) : Int) (1 : Int)) < (↑(List.length l) : Int))
 (Sy.Res.need
 (∃ (i : Int),
 Sy.Cont.at (Sy.Cont.row (3 : Nat) (1 : Nat) (List.length l) (List.length l) (needV l (List.length l)))
 ((0 : Nat) +
 Int.toNat (Ex.wrapQ IntKind.i64 (Ex.subQ' (↑(List.length l) : Int) (1 : Int))) * (1 : Nat)) =
 some (Value.int IntKind.i64 i))
 (Sy.Res.hyp
 (Sy.Cont.at (Sy.Cont.row (3 : Nat) (1 : Nat) (List.length l) (List.length l) (needV l (List.length l)))
 ((0 : Nat) +
 Int.toNat (Ex.wrapQ IntKind.i64 (Ex.subQ' (↑(List.length l) : Int) (1 : Int))) * (1 : Nat)) =
 some (Value.int IntKind.i64 (Let.i (ns (2 : Nat)))))
 (Sy.Res.leaf (Value.int IntKind.i64 (Let.i (ns (2 : Nat))), [])))))))
theorem rn_run (g o c : Nat) (l : List Nd) : Sy.Ran (Sy.inT Try.prog (ctxRN g o c l) 50 fRN (rnC g o c l).args (Sy.blks (rnC g o c l).mem) Sy.noB) rn_o (rn_R g o c l) := ⟨fun ns => by kernel_rfl, fun ns => by kernel_rfl⟩

theorem rnC_met (g o c : Nat) (l : List Nd) : Sy.Meets Try.prog (rnC g o c l) := by
  have HS : (ctxRN g o c l).holds Try.prog := Sy.mkS_holds (fun _ h => (by cases h)) (fun p hp a L => by
    rcases List.mem_singleton.1 hp with rfl
    exact loopV_met _ _ _ _ _) (fun _ h => (by cases h))
  refine Sy.meets_of HS mixed (rn_run g o c l) fun hok ns => ?_
  have hE : isExpr 24 l := hok
  have hpos := hE.2.1
  have hm := hE.2.2.1
  have e : l.length - 1 < l.length := by omega
  have at' : (Sy.Cont.row tInt 1 l.length l.length (needV l l.length)).at (0 + (l.length - 1) * 1) = some (.int .i64 (tr l (l.length - 1)).needs) := by
    show (needV l l.length)[0 + (l.length - 1) * 1]? = _
    rw [Nat.zero_add, Nat.mul_one, needV_get e, if_pos e]
  simp only [rn_R, Sy.Res.holds, Sy.b_and, Sy.b_or, Sy.b_not, Sy.b_f, Sy.b_and', Sy.b_or', Sy.q_lt, Sy.q_le, Sy.q_eq, Sy.b_tt, Sy.b_ft, not_true_eq_false, not_false_eq_true, dec_q l.length hpos (by omega), Int.toNat_natCast, at', some_int, some_bool, exists_eq', true_and]
  refine ⟨⟨Int.natCast_nonneg _, ?_, ?_⟩, hE, fun _ => ⟨by omega, fun h => Sy.plainO_leaf (List.mem_singleton_self _) rfl (by rw [← h])⟩⟩
  · show l.length * 8 ≤ _
    omega
  · show l.length ≤ _
    omega

abbrev fLay : FuncId := 37
abbrev fRNum : FuncId := 18
/-- Behind a row. -/
noncomputable def rlayA (g o c : Nat) (l : List Nd) (i0 : Nat) (gl n cap : Nat) (xs : List Value) (i t : Int) : Sy.CallC :=
  ⟨fLay, #[.slice (some ⟨gl, 0, none⟩) n cap, .slice (some ⟨g, o, none⟩) l.length c, .int .i64 i, .int .i64 t], ((isExpr 24 l ∧ goodN l) ∧ n + (lay (tr l i.toNat) t).length ≤ 900000) ∧ 0 ≤ i ∧ i < l.length ∧ i < i0 ∧ 24 ≤ t ∧ t + (tr l i.toNat).needs ≤ 29,
   ⟨[(g, .seg o (ndCells l))], [(gl, .row tI 6 n cap xs)], 2⟩, [Sy.rowO tI 6 (n + (lay (tr l i.toNat) t).length) (xs ++ insCells (lay (tr l i.toNat) t)) id]⟩
/-- Behind nothing. -/
noncomputable def rlay0 (g o c : Nat) (l : List Nd) (i0 : Nat) (i t : Int) : Sy.CallC :=
  ⟨fLay, #[.slice none 0 0, .slice (some ⟨g, o, none⟩) l.length c, .int .i64 i, .int .i64 t], (isExpr 24 l ∧ goodN l) ∧ 0 ≤ i ∧ i < l.length ∧ i < i0 ∧ 24 ≤ t ∧ t + (tr l i.toNat).needs ≤ 29,
   ⟨[(g, .seg o (ndCells l))], [], 2⟩, [Sy.rowO tI 6 (lay (tr l i.toNat) t).length (insCells (lay (tr l i.toNat) t)) id]⟩

/-- The row that an argument tells of. -/
def Sy.lenV (v : Value) : Nat := match v with
  | .slice _ n _ => n
  | _ => 0
/-- The cells of the first row among the blocks. -/
def Sy.firstRow : List Blk → List Value
  | [] => []
  | b :: L => match b.ct with
    | .row _ _ _ _ xs => xs
    | _ => Sy.firstRow L

noncomputable def ctxY (g o c : Nat) (l : List Nd) (i0 : Nat) : Sy.Ctx := Sy.mkS [(fLay, fun a L => rlay0 g o c l i0 (Sy.argI a 2) (Sy.argI a 3)), (fLay, fun a L => rlayA g o c l i0 (Sy.ptrN (Sy.argV a 0)) (Sy.lenV (Sy.argV a 0)) (Sy.capN (Sy.argV a 0)) (Sy.firstRow L) (Sy.argI a 2) (Sy.argI a 3)),
  (fRNum, fun a _ => rnum0 (Sy.argI a 1) (Sy.argI a 2)), (fRNum, fun a L => rnumA (Sy.ptrN (Sy.argV a 0)) (Sy.lenV (Sy.argV a 0)) (Sy.capN (Sy.argV a 0)) (Sy.firstRow L) (Sy.argI a 1) (Sy.argI a 2)),
  (fPlain, fun a _ => plC (Sy.argI a 0)), (fCond, fun a _ => cdC (Sy.argI a 0))] [] []
def la_o : Sy.O := (Sy.O.steps [1, 0, 1, 1, 1, 1, 1, 1, 0, 0, 0, 0, 0] (Sy.O.fork (Sy.O.steps [0, 0, 1, 2] Sy.O.nil) (Sy.O.steps [0, 0] (Sy.O.fork (Sy.O.steps [0, 0, 0, 0, 0, 3, 0, 1, 1, 0, 2] Sy.O.nil) (Sy.O.steps [0, 0, 1, 1, 1, 2, 0] (Sy.O.fork (Sy.O.steps [0, 0, 0, 1, 0, 1, 1, 0, 0] Sy.O.nil) (Sy.O.fork (Sy.O.steps [0, 0, 0, 1, 0, 1, 1, 0, 0] Sy.O.nil) (Sy.O.fork (Sy.O.steps [0, 0, 0, 1, 0, 1, 1, 0, 0] Sy.O.nil) (Sy.O.steps [2, 0, 1, 1, 0, 2, 0, 0] (Sy.O.fork (Sy.O.steps [2, 0, 0, 0, 0, 0, 1, 0, 1, 1, 0, 0] Sy.O.nil) (Sy.O.steps [2, 0, 0, 0, 0, 0, 1, 0, 1, 1, 0, 0] Sy.O.nil)))))))))))
noncomputable def la_R (g : Nat) (o : Nat) (c : Nat) (l : List Nd) (gl : Nat) (n : Nat) (cap : Nat) (xs : List Value) (i : Int) (t : Int) (i0 : Nat) (ns : Nat → Sy.Let) : Sy.Res (Value × List Blk) := Sy.Res.need ((0 : Int) ≤ i ∧ i < (↑(List.length l) : Int))
 (Sy.Res.need
 (∃ (i_1 : Int),
 Sy.Cont.at (Sy.Cont.seg o (ndCells l)) (o + Int.toNat i * (4 : Nat)) = some (Value.int IntKind.i64 i_1))
 (Sy.Res.hyp
 (Sy.Cont.at (Sy.Cont.seg o (ndCells l)) (o + Int.toNat i * (4 : Nat)) =
 some (Value.int IntKind.i64 (Let.i (ns (0 : Nat)))))
 (Sy.Res.need
 (∃ (i_1 : Int),
 Sy.Cont.at (Sy.Cont.seg o (ndCells l)) (o + Int.toNat i * (4 : Nat) + (1 : Nat)) =
 some (Value.int IntKind.u64 i_1))
 (Sy.Res.hyp
 (Sy.Cont.at (Sy.Cont.seg o (ndCells l)) (o + Int.toNat i * (4 : Nat) + (1 : Nat)) =
 some (Value.int IntKind.u64 (Let.i (ns (1 : Nat)))))
 (Sy.Res.need
 (∃ (i_1 : Int),
 Sy.Cont.at (Sy.Cont.seg o (ndCells l)) (o + Int.toNat i * (4 : Nat) + (1 : Nat) + (1 : Nat)) =
 some (Value.int IntKind.i64 i_1))
 (Sy.Res.hyp
 (Sy.Cont.at (Sy.Cont.seg o (ndCells l)) (o + Int.toNat i * (4 : Nat) + (1 : Nat) + (1 : Nat)) =
 some (Value.int IntKind.i64 (Let.i (ns (2 : Nat)))))
 (Sy.Res.need
 (∃ (i_1 : Int),
 Sy.Cont.at (Sy.Cont.seg o (ndCells l))
 (o + Int.toNat i * (4 : Nat) + (1 : Nat) + (1 : Nat) + (1 : Nat)) =
 some (Value.int IntKind.i64 i_1))
 (Sy.Res.hyp
 (Sy.Cont.at (Sy.Cont.seg o (ndCells l))
 (o + Int.toNat i * (4 : Nat) + (1 : Nat) + (1 : Nat) + (1 : Nat)) =
 some (Value.int IntKind.i64 (Let.i (ns (3 : Nat)))))
 (Sy.Res.br (Ex.eqQ (Let.i (ns (0 : Nat))) (1 : Int))
 (Sy.Res.need (goodU (Let.i (ns (1 : Nat))) ∧ n ≤ (1000000 : Nat))
 (Sy.Res.hyp (Nat.le (n + List.length (numL t (Let.i (ns (1 : Nat))))) (Let.n (ns (6 : Nat))))
 (Sy.Res.leaf
 (Value.slice (some (Addr.mk (Let.n (ns (5 : Nat))) (0 : Nat) none))
 (n + List.length (numL t (Let.i (ns (1 : Nat))))) (Let.n (ns (6 : Nat))),
 [Blk.mk (Let.n (ns (5 : Nat)))
 (Sy.Cont.row (29 : Nat) (6 : Nat) (n + List.length (numL t (Let.i (ns (1 : Nat)))))
 (Let.n (ns (6 : Nat))) (xs ++ insCells (numL t (Let.i (ns (1 : Nat))))))
 true]))))
 (Sy.Res.br (Ex.eqQ (Let.i (ns (0 : Nat))) (2 : Int))
 (Sy.Res.need (n + (1 : Nat) ≤ (9223372036854775807 : Nat))
 (Sy.Res.need ((n + (1 : Nat)) * (48 : Nat) ≤ (140737488355328 : Nat))
 (Sy.Res.hyp (Nat.le (n + (1 : Nat)) (Let.n (ns (7 : Nat))))
 (Sy.Res.leaf
 (Value.slice (some (Addr.mk (Let.n (ns (6 : Nat))) (0 : Nat) none)) (n + (1 : Nat))
 (Let.n (ns (7 : Nat))),
 [Blk.mk (Let.n (ns (6 : Nat)))
 (Sy.Cont.row (29 : Nat) (6 : Nat) (n + (1 : Nat)) (Let.n (ns (7 : Nat)))
 (xs ++
 [Value.int IntKind.i64 (6 : Int), Value.int IntKind.i64 t,
 Value.int IntKind.i64 (31 : Int),
 Value.int IntKind.i64 (Ex.wrapQ IntKind.i64 (Let.i (ns (1 : Nat)))),
 Value.int IntKind.i64 (0 : Int), Value.int IntKind.i64 (0 : Int)]))
 true])))))
 (Sy.Res.need
 (((isExpr (24 : Int) l ∧ goodN l) ∧
 n + List.length (lay (tr l (Int.toNat (Let.i (ns (2 : Nat))))) t) ≤ (900000 : Nat)) ∧
 (0 : Int) ≤ Let.i (ns (2 : Nat)) ∧
 Let.i (ns (2 : Nat)) < (↑(List.length l) : Int) ∧
 Let.i (ns (2 : Nat)) < (↑i0 : Int) ∧
 (24 : Int) ≤ t ∧
 t + (↑(E.needs (tr l (Int.toNat (Let.i (ns (2 : Nat)))))) : Int) ≤ (29 : Int))
 (Sy.Res.hyp
 (Nat.le (n + List.length (lay (tr l (Int.toNat (Let.i (ns (2 : Nat))))) t))
 (Let.n (ns (6 : Nat))))
 (Sy.Res.br (Ex.eqQ (Let.i (ns (0 : Nat))) (3 : Int))
 (Sy.Res.need
 (n + List.length (lay (tr l (Int.toNat (Let.i (ns (2 : Nat))))) t) + (1 : Nat) ≤
 (9223372036854775807 : Nat))
 (Sy.Res.need
 ((n + List.length (lay (tr l (Int.toNat (Let.i (ns (2 : Nat))))) t) + (1 : Nat)) *
 (48 : Nat) ≤
 (140737488355328 : Nat))
 (Sy.Res.hyp
 (Nat.le
 (n + List.length (lay (tr l (Int.toNat (Let.i (ns (2 : Nat))))) t) + (1 : Nat))
 (Let.n (ns (9 : Nat))))
 (Sy.Res.leaf
 (Value.slice (some (Addr.mk (Let.n (ns (8 : Nat))) (0 : Nat) none))
 (n + List.length (lay (tr l (Int.toNat (Let.i (ns (2 : Nat))))) t) + (1 : Nat))
 (Let.n (ns (9 : Nat))),
 [Blk.mk (Let.n (ns (8 : Nat)))
 (Sy.Cont.row (29 : Nat) (6 : Nat)
 (n + List.length (lay (tr l (Int.toNat (Let.i (ns (2 : Nat))))) t) +
 (1 : Nat))
 (Let.n (ns (9 : Nat)))
 (xs ++ insCells (lay (tr l (Int.toNat (Let.i (ns (2 : Nat))))) t) ++
 [Value.int IntKind.i64 (4 : Int), Value.int IntKind.i64 t,
 Value.int IntKind.i64 (31 : Int), Value.int IntKind.i64 t,
 Value.int IntKind.i64 (0 : Int), Value.int IntKind.i64 (0 : Int)]))
 true])))))
 (Sy.Res.br (Ex.eqQ (Let.i (ns (0 : Nat))) (4 : Int))
 (Sy.Res.need
 (n + List.length (lay (tr l (Int.toNat (Let.i (ns (2 : Nat))))) t) + (1 : Nat) ≤
 (9223372036854775807 : Nat))
 (Sy.Res.need
 ((n + List.length (lay (tr l (Int.toNat (Let.i (ns (2 : Nat))))) t) + (1 : Nat)) *
 (48 : Nat) ≤
 (140737488355328 : Nat))
 (Sy.Res.hyp
 (Nat.le
 (n + List.length (lay (tr l (Int.toNat (Let.i (ns (2 : Nat))))) t) + (1 : Nat))
 (Let.n (ns (9 : Nat))))
 (Sy.Res.leaf
 (Value.slice (some (Addr.mk (Let.n (ns (8 : Nat))) (0 : Nat) none))
 (n + List.length (lay (tr l (Int.toNat (Let.i (ns (2 : Nat))))) t) +
 (1 : Nat))
 (Let.n (ns (9 : Nat))),
 [Blk.mk (Let.n (ns (8 : Nat)))
 (Sy.Cont.row (29 : Nat) (6 : Nat)
 (n + List.length (lay (tr l (Int.toNat (Let.i (ns (2 : Nat))))) t) +
 (1 : Nat))
 (Let.n (ns (9 : Nat)))
 (xs ++ insCells (lay (tr l (Int.toNat (Let.i (ns (2 : Nat))))) t) ++
 [Value.int IntKind.i64 (8 : Int), Value.int IntKind.i64 t,
 Value.int IntKind.i64 (31 : Int), Value.int IntKind.i64 t,
 Value.int IntKind.i64 (0 : Int), Value.int IntKind.i64 (0 : Int)]))
 true])))))
 (Sy.Res.br (Ex.eqQ (Let.i (ns (0 : Nat))) (5 : Int))
 (Sy.Res.need
 (n + List.length (lay (tr l (Int.toNat (Let.i (ns (2 : Nat))))) t) + (2 : Nat) ≤
 (9223372036854775807 : Nat))
 (Sy.Res.need
 ((n + List.length (lay (tr l (Int.toNat (Let.i (ns (2 : Nat))))) t) + (2 : Nat)) *
 (48 : Nat) ≤
 (140737488355328 : Nat))
 (Sy.Res.hyp
 (Nat.le
 (n + List.length (lay (tr l (Int.toNat (Let.i (ns (2 : Nat))))) t) + (2 : Nat))
 (Let.n (ns (9 : Nat))))
 (Sy.Res.leaf
 (Value.slice (some (Addr.mk (Let.n (ns (8 : Nat))) (0 : Nat) none))
 (n + List.length (lay (tr l (Int.toNat (Let.i (ns (2 : Nat))))) t) +
 (2 : Nat))
 (Let.n (ns (9 : Nat))),
 [Blk.mk (Let.n (ns (8 : Nat)))
 (Sy.Cont.row (29 : Nat) (6 : Nat)
 (n + List.length (lay (tr l (Int.toNat (Let.i (ns (2 : Nat))))) t) +
 (2 : Nat))
 (Let.n (ns (9 : Nat)))
 (xs ++ insCells (lay (tr l (Int.toNat (Let.i (ns (2 : Nat))))) t) ++
 [Value.int IntKind.i64 (16 : Int), Value.int IntKind.i64 (0 : Int),
 Value.int IntKind.i64 t, Value.int IntKind.i64 (31 : Int),
 Value.int IntKind.i64 (0 : Int), Value.int IntKind.i64 (0 : Int),
 Value.int IntKind.i64 (17 : Int), Value.int IntKind.i64 t,
 Value.int IntKind.i64 (0 : Int), Value.int IntKind.i64 (0 : Int),
 Value.int IntKind.i64 (0 : Int), Value.int IntKind.i64 (0 : Int)]))
 true])))))
 (Sy.Res.need
 (((isExpr (24 : Int) l ∧ goodN l) ∧
 n + List.length (lay (tr l (Int.toNat (Let.i (ns (2 : Nat))))) t) +
 List.length
 (lay (tr l (Int.toNat (Let.i (ns (3 : Nat)))))
 (Ex.wrapQ IntKind.i64 (Ex.addQ t (1 : Int)))) ≤
 (900000 : Nat)) ∧
 (0 : Int) ≤ Let.i (ns (3 : Nat)) ∧
 Let.i (ns (3 : Nat)) < (↑(List.length l) : Int) ∧
 Let.i (ns (3 : Nat)) < (↑i0 : Int) ∧
 (24 : Int) ≤ Ex.wrapQ IntKind.i64 (Ex.addQ t (1 : Int)) ∧
 Ex.wrapQ IntKind.i64 (Ex.addQ t (1 : Int)) +
 (↑(E.needs (tr l (Int.toNat (Let.i (ns (3 : Nat)))))) : Int) ≤
 (29 : Int))
 (Sy.Res.hyp
 (Nat.le
 (n + List.length (lay (tr l (Int.toNat (Let.i (ns (2 : Nat))))) t) +
 List.length
 (lay (tr l (Int.toNat (Let.i (ns (3 : Nat)))))
 (Ex.wrapQ IntKind.i64 (Ex.addQ t (1 : Int)))))
 (Let.n (ns (8 : Nat))))
 (Sy.Res.need True
 (Sy.Res.hyp True
 (Sy.Res.br (!Ex.eqQ (binOp (Let.i (ns (0 : Nat)))) (0 : Int))
 (Sy.Res.need True
 (Sy.Res.hyp True
 (Sy.Res.need
 (n + List.length (lay (tr l (Int.toNat (Let.i (ns (2 : Nat))))) t) +
 List.length
 (lay (tr l (Int.toNat (Let.i (ns (3 : Nat)))))
 (Ex.wrapQ IntKind.i64 (Ex.addQ t (1 : Int)))) +
 (1 : Nat) ≤
 (9223372036854775807 : Nat))
 (Sy.Res.need
 ((n + List.length (lay (tr l (Int.toNat (Let.i (ns (2 : Nat))))) t) +
 List.length
 (lay (tr l (Int.toNat (Let.i (ns (3 : Nat)))))
 (Ex.wrapQ IntKind.i64 (Ex.addQ t (1 : Int)))) +
 (1 : Nat)) *
 (48 : Nat) ≤
 (140737488355328 : Nat))
 (Sy.Res.hyp
 (Nat.le
 (n +
 List.length
 (lay (tr l (Int.toNat (Let.i (ns (2 : Nat))))) t) +
 List.length
 (lay (tr l (Int.toNat (Let.i (ns (3 : Nat)))))
 (Ex.wrapQ IntKind.i64 (Ex.addQ t (1 : Int)))) +
 (1 : Nat))
 (Let.n (ns (11 : Nat))))
 (Sy.Res.leaf
 (Value.slice
 (some (Addr.mk (Let.n (ns (10 : Nat))) (0 : Nat) none))
 (n +
 List.length
 (lay (tr l (Int.toNat (Let.i (ns (2 : Nat))))) t) +
 List.length
 (lay (tr l (Int.toNat (Let.i (ns (3 : Nat)))))
 (Ex.wrapQ IntKind.i64 (Ex.addQ t (1 : Int)))) +
 (1 : Nat))
 (Let.n (ns (11 : Nat))),
 [Blk.mk (Let.n (ns (10 : Nat)))
 (Sy.Cont.row (29 : Nat) (6 : Nat)
 (n +
 List.length
 (lay (tr l (Int.toNat (Let.i (ns (2 : Nat)))))
 t) +
 List.length
 (lay (tr l (Int.toNat (Let.i (ns (3 : Nat)))))
 (Ex.wrapQ IntKind.i64 (Ex.addQ t (1 : Int)))) +
 (1 : Nat))
 (Let.n (ns (11 : Nat)))
 (xs ++
 insCells
 (lay (tr l (Int.toNat (Let.i (ns (2 : Nat)))))
 t) ++
 insCells
 (lay (tr l (Int.toNat (Let.i (ns (3 : Nat)))))
 (Ex.wrapQ IntKind.i64 (Ex.addQ t (1 : Int)))) ++
 [Value.int IntKind.i64 (binOp (Let.i (ns (0 : Nat)))),
 Value.int IntKind.i64 t, Value.int IntKind.i64 t,
 Value.int IntKind.i64
 (Ex.wrapQ IntKind.i64 (Ex.addQ t (1 : Int))),
 Value.int IntKind.i64 (0 : Int),
 Value.int IntKind.i64 (0 : Int)]))
 true])))))))
 (Sy.Res.need True
 (Sy.Res.hyp True
 (Sy.Res.need
 (n + List.length (lay (tr l (Int.toNat (Let.i (ns (2 : Nat))))) t) +
 List.length
 (lay (tr l (Int.toNat (Let.i (ns (3 : Nat)))))
 (Ex.wrapQ IntKind.i64 (Ex.addQ t (1 : Int)))) +
 (2 : Nat) ≤
 (9223372036854775807 : Nat))
 (Sy.Res.need
 ((n + List.length (lay (tr l (Int.toNat (Let.i (ns (2 : Nat))))) t) +
 List.length
 (lay (tr l (Int.toNat (Let.i (ns (3 : Nat)))))
 (Ex.wrapQ IntKind.i64 (Ex.addQ t (1 : Int)))) +
 (2 : Nat)) *
 (48 : Nat) ≤
 (140737488355328 : Nat))
 (Sy.Res.hyp
 (Nat.le
 (n +
 List.length
 (lay (tr l (Int.toNat (Let.i (ns (2 : Nat))))) t) +
 List.length
 (lay (tr l (Int.toNat (Let.i (ns (3 : Nat)))))
 (Ex.wrapQ IntKind.i64 (Ex.addQ t (1 : Int)))) +
 (2 : Nat))
 (Let.n (ns (11 : Nat))))
 (Sy.Res.leaf
 (Value.slice
 (some (Addr.mk (Let.n (ns (10 : Nat))) (0 : Nat) none))
 (n +
 List.length
 (lay (tr l (Int.toNat (Let.i (ns (2 : Nat))))) t) +
 List.length
 (lay (tr l (Int.toNat (Let.i (ns (3 : Nat)))))
 (Ex.wrapQ IntKind.i64 (Ex.addQ t (1 : Int)))) +
 (2 : Nat))
 (Let.n (ns (11 : Nat))),
 [Blk.mk (Let.n (ns (10 : Nat)))
 (Sy.Cont.row (29 : Nat) (6 : Nat)
 (n +
 List.length
 (lay (tr l (Int.toNat (Let.i (ns (2 : Nat)))))
 t) +
 List.length
 (lay (tr l (Int.toNat (Let.i (ns (3 : Nat)))))
 (Ex.wrapQ IntKind.i64 (Ex.addQ t (1 : Int)))) +
 (2 : Nat))
 (Let.n (ns (11 : Nat)))
 (xs ++
 insCells
 (lay (tr l (Int.toNat (Let.i (ns (2 : Nat)))))
 t) ++
 insCells
 (lay (tr l (Int.toNat (Let.i (ns (3 : Nat)))))
 (Ex.wrapQ IntKind.i64 (Ex.addQ t (1 : Int)))) ++
 [Value.int IntKind.i64 (16 : Int),
 Value.int IntKind.i64 (0 : Int),
 Value.int IntKind.i64 t,
 Value.int IntKind.i64
 (Ex.wrapQ IntKind.i64 (Ex.addQ t (1 : Int))),
 Value.int IntKind.i64 (0 : Int),
 Value.int IntKind.i64 (0 : Int),
 Value.int IntKind.i64 (17 : Int),
 Value.int IntKind.i64 t,
 Value.int IntKind.i64 (0 : Int),
 Value.int IntKind.i64 (0 : Int),
 Value.int IntKind.i64 (0 : Int),
 Value.int IntKind.i64
 (binCond (Let.i (ns (0 : Nat))))]))
 true])))))))))))))))))))))))))))
theorem la_run (g o c : Nat) (l : List Nd) (gl n cap : Nat) (xs : List Value) (i t : Int) (i0 : Nat) : Sy.Ran (Sy.inT Try.prog (ctxY g o c l i0) 60 fLay (rlayA g o c l i0 gl n cap xs i t).args (Sy.blks (rlayA g o c l i0 gl n cap xs i t).mem) Sy.rowB) la_o (la_R g o c l gl n cap xs i t i0) := ⟨fun ns => by kernel_rfl, fun ns => by kernel_rfl⟩
def l0_o : Sy.O := (Sy.O.steps [1, 0, 1, 1, 1, 1, 1, 1, 0, 0, 0, 0, 0] (Sy.O.fork (Sy.O.steps [0, 0, 0] Sy.O.nil) (Sy.O.steps [0, 0] (Sy.O.fork (Sy.O.steps [0, 0, 0, 0, 0, 0, 0, 0, 0] Sy.O.nil) (Sy.O.steps [0, 0, 0, 1, 2, 0] (Sy.O.fork (Sy.O.steps [0, 0, 0, 1, 0, 1, 1, 0, 0] Sy.O.nil) (Sy.O.fork (Sy.O.steps [0, 0, 0, 1, 0, 1, 1, 0, 0] Sy.O.nil) (Sy.O.fork (Sy.O.steps [0, 0, 0, 1, 0, 1, 1, 0, 0] Sy.O.nil) (Sy.O.steps [2, 0, 1, 1, 0, 2, 0, 0] (Sy.O.fork (Sy.O.steps [2, 0, 0, 0, 0, 0, 1, 0, 1, 1, 0, 0] Sy.O.nil) (Sy.O.steps [2, 0, 0, 0, 0, 0, 1, 0, 1, 1, 0, 0] Sy.O.nil)))))))))))
noncomputable def l0_R (g : Nat) (o : Nat) (c : Nat) (l : List Nd) (i : Int) (t : Int) (i0 : Nat) (ns : Nat → Sy.Let) : Sy.Res (Value × List Blk) := Sy.Res.need ((0 : Int) ≤ i ∧ i < (↑(List.length l) : Int))
 (Sy.Res.need
 (∃ (i_1 : Int),
 Sy.Cont.at (Sy.Cont.seg o (ndCells l)) (o + Int.toNat i * (4 : Nat)) = some (Value.int IntKind.i64 i_1))
 (Sy.Res.hyp
 (Sy.Cont.at (Sy.Cont.seg o (ndCells l)) (o + Int.toNat i * (4 : Nat)) =
 some (Value.int IntKind.i64 (Let.i (ns (0 : Nat)))))
 (Sy.Res.need
 (∃ (i_1 : Int),
 Sy.Cont.at (Sy.Cont.seg o (ndCells l)) (o + Int.toNat i * (4 : Nat) + (1 : Nat)) =
 some (Value.int IntKind.u64 i_1))
 (Sy.Res.hyp
 (Sy.Cont.at (Sy.Cont.seg o (ndCells l)) (o + Int.toNat i * (4 : Nat) + (1 : Nat)) =
 some (Value.int IntKind.u64 (Let.i (ns (1 : Nat)))))
 (Sy.Res.need
 (∃ (i_1 : Int),
 Sy.Cont.at (Sy.Cont.seg o (ndCells l)) (o + Int.toNat i * (4 : Nat) + (1 : Nat) + (1 : Nat)) =
 some (Value.int IntKind.i64 i_1))
 (Sy.Res.hyp
 (Sy.Cont.at (Sy.Cont.seg o (ndCells l)) (o + Int.toNat i * (4 : Nat) + (1 : Nat) + (1 : Nat)) =
 some (Value.int IntKind.i64 (Let.i (ns (2 : Nat)))))
 (Sy.Res.need
 (∃ (i_1 : Int),
 Sy.Cont.at (Sy.Cont.seg o (ndCells l))
 (o + Int.toNat i * (4 : Nat) + (1 : Nat) + (1 : Nat) + (1 : Nat)) =
 some (Value.int IntKind.i64 i_1))
 (Sy.Res.hyp
 (Sy.Cont.at (Sy.Cont.seg o (ndCells l))
 (o + Int.toNat i * (4 : Nat) + (1 : Nat) + (1 : Nat) + (1 : Nat)) =
 some (Value.int IntKind.i64 (Let.i (ns (3 : Nat)))))
 (Sy.Res.br (Ex.eqQ (Let.i (ns (0 : Nat))) (1 : Int))
 (Sy.Res.need
 ((0 : Int) ≤ Let.i (ns (1 : Nat)) ∧ Let.i (ns (1 : Nat)) < (18446744073709551616 : Int))
 (Sy.Res.hyp (Nat.le (List.length (numL t (Let.i (ns (1 : Nat))))) (Let.n (ns (6 : Nat))))
 (Sy.Res.leaf
 (Value.slice (some (Addr.mk (Let.n (ns (5 : Nat))) (0 : Nat) none))
 (List.length (numL t (Let.i (ns (1 : Nat))))) (Let.n (ns (6 : Nat))),
 [Blk.mk (Let.n (ns (5 : Nat)))
 (Sy.Cont.row (29 : Nat) (6 : Nat) (List.length (numL t (Let.i (ns (1 : Nat)))))
 (Let.n (ns (6 : Nat))) (insCells (numL t (Let.i (ns (1 : Nat))))))
 true]))))
 (Sy.Res.br (Ex.eqQ (Let.i (ns (0 : Nat))) (2 : Int))
 (Sy.Res.hyp (Nat.le (1 : Nat) (Let.n (ns (7 : Nat))))
 (Sy.Res.leaf
 (Value.slice (some (Addr.mk (Let.n (ns (6 : Nat))) (0 : Nat) none)) (1 : Nat)
 (Let.n (ns (7 : Nat))),
 [Blk.mk (Let.n (ns (6 : Nat)))
 (Sy.Cont.row (29 : Nat) (6 : Nat) (1 : Nat) (Let.n (ns (7 : Nat)))
 [Value.int IntKind.i64 (6 : Int), Value.int IntKind.i64 t,
 Value.int IntKind.i64 (31 : Int),
 Value.int IntKind.i64 (Ex.wrapQ IntKind.i64 (Let.i (ns (1 : Nat)))),
 Value.int IntKind.i64 (0 : Int), Value.int IntKind.i64 (0 : Int)])
 true,
 Blk.mk (Let.n (ns (5 : Nat)))
 (Sy.Cont.obj
 (Obj.cells
 (Array.mk
 [Value.int IntKind.i64 (6 : Int), Value.int IntKind.i64 t,
 Value.int IntKind.i64 (31 : Int),
 Value.int IntKind.i64 (Ex.wrapQ IntKind.i64 (Let.i (ns (1 : Nat)))),
 Value.int IntKind.i64 (0 : Int), Value.int IntKind.i64 (0 : Int)])
 (29 : Nat)))
 true])))
 (Sy.Res.need
 ((isExpr (24 : Int) l ∧ goodN l) ∧
 (0 : Int) ≤ Let.i (ns (2 : Nat)) ∧
 Let.i (ns (2 : Nat)) < (↑(List.length l) : Int) ∧
 Let.i (ns (2 : Nat)) < (↑i0 : Int) ∧
 (24 : Int) ≤ t ∧
 t + (↑(E.needs (tr l (Int.toNat (Let.i (ns (2 : Nat)))))) : Int) ≤ (29 : Int))
 (Sy.Res.hyp
 (Nat.le (List.length (lay (tr l (Int.toNat (Let.i (ns (2 : Nat))))) t))
 (Let.n (ns (6 : Nat))))
 (Sy.Res.br (Ex.eqQ (Let.i (ns (0 : Nat))) (3 : Int))
 (Sy.Res.need
 (List.length (lay (tr l (Int.toNat (Let.i (ns (2 : Nat))))) t) + (1 : Nat) ≤
 (9223372036854775807 : Nat))
 (Sy.Res.need
 ((List.length (lay (tr l (Int.toNat (Let.i (ns (2 : Nat))))) t) + (1 : Nat)) *
 (48 : Nat) ≤
 (140737488355328 : Nat))
 (Sy.Res.hyp
 (Nat.le (List.length (lay (tr l (Int.toNat (Let.i (ns (2 : Nat))))) t) + (1 : Nat))
 (Let.n (ns (9 : Nat))))
 (Sy.Res.leaf
 (Value.slice (some (Addr.mk (Let.n (ns (8 : Nat))) (0 : Nat) none))
 (List.length (lay (tr l (Int.toNat (Let.i (ns (2 : Nat))))) t) + (1 : Nat))
 (Let.n (ns (9 : Nat))),
 [Blk.mk (Let.n (ns (8 : Nat)))
 (Sy.Cont.row (29 : Nat) (6 : Nat)
 (List.length (lay (tr l (Int.toNat (Let.i (ns (2 : Nat))))) t) + (1 : Nat))
 (Let.n (ns (9 : Nat)))
 (insCells (lay (tr l (Int.toNat (Let.i (ns (2 : Nat))))) t) ++
 [Value.int IntKind.i64 (4 : Int), Value.int IntKind.i64 t,
 Value.int IntKind.i64 (31 : Int), Value.int IntKind.i64 t,
 Value.int IntKind.i64 (0 : Int), Value.int IntKind.i64 (0 : Int)]))
 true,
 Blk.mk (Let.n (ns (7 : Nat)))
 (Sy.Cont.obj
 (Obj.cells
 (Array.mk
 [Value.int IntKind.i64 (4 : Int), Value.int IntKind.i64 t,
 Value.int IntKind.i64 (31 : Int), Value.int IntKind.i64 t,
 Value.int IntKind.i64 (0 : Int), Value.int IntKind.i64 (0 : Int)])
 (29 : Nat)))
 true])))))
 (Sy.Res.br (Ex.eqQ (Let.i (ns (0 : Nat))) (4 : Int))
 (Sy.Res.need
 (List.length (lay (tr l (Int.toNat (Let.i (ns (2 : Nat))))) t) + (1 : Nat) ≤
 (9223372036854775807 : Nat))
 (Sy.Res.need
 ((List.length (lay (tr l (Int.toNat (Let.i (ns (2 : Nat))))) t) + (1 : Nat)) *
 (48 : Nat) ≤
 (140737488355328 : Nat))
 (Sy.Res.hyp
 (Nat.le (List.length (lay (tr l (Int.toNat (Let.i (ns (2 : Nat))))) t) + (1 : Nat))
 (Let.n (ns (9 : Nat))))
 (Sy.Res.leaf
 (Value.slice (some (Addr.mk (Let.n (ns (8 : Nat))) (0 : Nat) none))
 (List.length (lay (tr l (Int.toNat (Let.i (ns (2 : Nat))))) t) + (1 : Nat))
 (Let.n (ns (9 : Nat))),
 [Blk.mk (Let.n (ns (8 : Nat)))
 (Sy.Cont.row (29 : Nat) (6 : Nat)
 (List.length (lay (tr l (Int.toNat (Let.i (ns (2 : Nat))))) t) +
 (1 : Nat))
 (Let.n (ns (9 : Nat)))
 (insCells (lay (tr l (Int.toNat (Let.i (ns (2 : Nat))))) t) ++
 [Value.int IntKind.i64 (8 : Int), Value.int IntKind.i64 t,
 Value.int IntKind.i64 (31 : Int), Value.int IntKind.i64 t,
 Value.int IntKind.i64 (0 : Int), Value.int IntKind.i64 (0 : Int)]))
 true,
 Blk.mk (Let.n (ns (7 : Nat)))
 (Sy.Cont.obj
 (Obj.cells
 (Array.mk
 [Value.int IntKind.i64 (8 : Int), Value.int IntKind.i64 t,
 Value.int IntKind.i64 (31 : Int), Value.int IntKind.i64 t,
 Value.int IntKind.i64 (0 : Int), Value.int IntKind.i64 (0 : Int)])
 (29 : Nat)))
 true])))))
 (Sy.Res.br (Ex.eqQ (Let.i (ns (0 : Nat))) (5 : Int))
 (Sy.Res.need
 (List.length (lay (tr l (Int.toNat (Let.i (ns (2 : Nat))))) t) + (2 : Nat) ≤
 (9223372036854775807 : Nat))
 (Sy.Res.need
 ((List.length (lay (tr l (Int.toNat (Let.i (ns (2 : Nat))))) t) + (2 : Nat)) *
 (48 : Nat) ≤
 (140737488355328 : Nat))
 (Sy.Res.hyp
 (Nat.le
 (List.length (lay (tr l (Int.toNat (Let.i (ns (2 : Nat))))) t) + (2 : Nat))
 (Let.n (ns (9 : Nat))))
 (Sy.Res.leaf
 (Value.slice (some (Addr.mk (Let.n (ns (8 : Nat))) (0 : Nat) none))
 (List.length (lay (tr l (Int.toNat (Let.i (ns (2 : Nat))))) t) + (2 : Nat))
 (Let.n (ns (9 : Nat))),
 [Blk.mk (Let.n (ns (8 : Nat)))
 (Sy.Cont.row (29 : Nat) (6 : Nat)
 (List.length (lay (tr l (Int.toNat (Let.i (ns (2 : Nat))))) t) +
 (2 : Nat))
 (Let.n (ns (9 : Nat)))
 (insCells (lay (tr l (Int.toNat (Let.i (ns (2 : Nat))))) t) ++
 [Value.int IntKind.i64 (16 : Int), Value.int IntKind.i64 (0 : Int),
 Value.int IntKind.i64 t, Value.int IntKind.i64 (31 : Int),
 Value.int IntKind.i64 (0 : Int), Value.int IntKind.i64 (0 : Int),
 Value.int IntKind.i64 (17 : Int), Value.int IntKind.i64 t,
 Value.int IntKind.i64 (0 : Int), Value.int IntKind.i64 (0 : Int),
 Value.int IntKind.i64 (0 : Int), Value.int IntKind.i64 (0 : Int)]))
 true,
 Blk.mk (Let.n (ns (7 : Nat)))
 (Sy.Cont.obj
 (Obj.cells
 (Array.mk
 [Value.int IntKind.i64 (16 : Int), Value.int IntKind.i64 (0 : Int),
 Value.int IntKind.i64 t, Value.int IntKind.i64 (31 : Int),
 Value.int IntKind.i64 (0 : Int), Value.int IntKind.i64 (0 : Int),
 Value.int IntKind.i64 (17 : Int), Value.int IntKind.i64 t,
 Value.int IntKind.i64 (0 : Int), Value.int IntKind.i64 (0 : Int),
 Value.int IntKind.i64 (0 : Int), Value.int IntKind.i64 (0 : Int)])
 (29 : Nat)))
 true])))))
 (Sy.Res.need
 (((isExpr (24 : Int) l ∧ goodN l) ∧
 List.length (lay (tr l (Int.toNat (Let.i (ns (2 : Nat))))) t) +
 List.length
 (lay (tr l (Int.toNat (Let.i (ns (3 : Nat)))))
 (Ex.wrapQ IntKind.i64 (Ex.addQ t (1 : Int)))) ≤
 (900000 : Nat)) ∧
 (0 : Int) ≤ Let.i (ns (3 : Nat)) ∧
 Let.i (ns (3 : Nat)) < (↑(List.length l) : Int) ∧
 Let.i (ns (3 : Nat)) < (↑i0 : Int) ∧
 (24 : Int) ≤ Ex.wrapQ IntKind.i64 (Ex.addQ t (1 : Int)) ∧
 Ex.wrapQ IntKind.i64 (Ex.addQ t (1 : Int)) +
 (↑(E.needs (tr l (Int.toNat (Let.i (ns (3 : Nat)))))) : Int) ≤
 (29 : Int))
 (Sy.Res.hyp
 (Nat.le
 (List.length (lay (tr l (Int.toNat (Let.i (ns (2 : Nat))))) t) +
 List.length
 (lay (tr l (Int.toNat (Let.i (ns (3 : Nat)))))
 (Ex.wrapQ IntKind.i64 (Ex.addQ t (1 : Int)))))
 (Let.n (ns (8 : Nat))))
 (Sy.Res.need True
 (Sy.Res.hyp True
 (Sy.Res.br (!Ex.eqQ (binOp (Let.i (ns (0 : Nat)))) (0 : Int))
 (Sy.Res.need True
 (Sy.Res.hyp True
 (Sy.Res.need
 (List.length (lay (tr l (Int.toNat (Let.i (ns (2 : Nat))))) t) +
 List.length
 (lay (tr l (Int.toNat (Let.i (ns (3 : Nat)))))
 (Ex.wrapQ IntKind.i64 (Ex.addQ t (1 : Int)))) +
 (1 : Nat) ≤
 (9223372036854775807 : Nat))
 (Sy.Res.need
 ((List.length (lay (tr l (Int.toNat (Let.i (ns (2 : Nat))))) t) +
 List.length
 (lay (tr l (Int.toNat (Let.i (ns (3 : Nat)))))
 (Ex.wrapQ IntKind.i64 (Ex.addQ t (1 : Int)))) +
 (1 : Nat)) *
 (48 : Nat) ≤
 (140737488355328 : Nat))
 (Sy.Res.hyp
 (Nat.le
 (List.length (lay (tr l (Int.toNat (Let.i (ns (2 : Nat))))) t) +
 List.length
 (lay (tr l (Int.toNat (Let.i (ns (3 : Nat)))))
 (Ex.wrapQ IntKind.i64 (Ex.addQ t (1 : Int)))) +
 (1 : Nat))
 (Let.n (ns (11 : Nat))))
 (Sy.Res.leaf
 (Value.slice
 (some (Addr.mk (Let.n (ns (10 : Nat))) (0 : Nat) none))
 (List.length
 (lay (tr l (Int.toNat (Let.i (ns (2 : Nat))))) t) +
 List.length
 (lay (tr l (Int.toNat (Let.i (ns (3 : Nat)))))
 (Ex.wrapQ IntKind.i64 (Ex.addQ t (1 : Int)))) +
 (1 : Nat))
 (Let.n (ns (11 : Nat))),
 [Blk.mk (Let.n (ns (10 : Nat)))
 (Sy.Cont.row (29 : Nat) (6 : Nat)
 (List.length
 (lay (tr l (Int.toNat (Let.i (ns (2 : Nat))))) t) +
 List.length
 (lay (tr l (Int.toNat (Let.i (ns (3 : Nat)))))
 (Ex.wrapQ IntKind.i64 (Ex.addQ t (1 : Int)))) +
 (1 : Nat))
 (Let.n (ns (11 : Nat)))
 (insCells
 (lay (tr l (Int.toNat (Let.i (ns (2 : Nat))))) t) ++
 insCells
 (lay (tr l (Int.toNat (Let.i (ns (3 : Nat)))))
 (Ex.wrapQ IntKind.i64 (Ex.addQ t (1 : Int)))) ++
 [Value.int IntKind.i64 (binOp (Let.i (ns (0 : Nat)))),
 Value.int IntKind.i64 t, Value.int IntKind.i64 t,
 Value.int IntKind.i64
 (Ex.wrapQ IntKind.i64 (Ex.addQ t (1 : Int))),
 Value.int IntKind.i64 (0 : Int),
 Value.int IntKind.i64 (0 : Int)]))
 true,
 Blk.mk (Let.n (ns (9 : Nat)))
 (Sy.Cont.obj
 (Obj.cells
 (Array.mk
 [Value.int IntKind.i64 (binOp (Let.i (ns (0 : Nat)))),
 Value.int IntKind.i64 t, Value.int IntKind.i64 t,
 Value.int IntKind.i64
 (Ex.wrapQ IntKind.i64 (Ex.addQ t (1 : Int))),
 Value.int IntKind.i64 (0 : Int),
 Value.int IntKind.i64 (0 : Int)])
 (29 : Nat)))
 true])))))))
 (Sy.Res.need True
 (Sy.Res.hyp True
 (Sy.Res.need
 (List.length (lay (tr l (Int.toNat (Let.i (ns (2 : Nat))))) t) +
 List.length
 (lay (tr l (Int.toNat (Let.i (ns (3 : Nat)))))
 (Ex.wrapQ IntKind.i64 (Ex.addQ t (1 : Int)))) +
 (2 : Nat) ≤
 (9223372036854775807 : Nat))
 (Sy.Res.need
 ((List.length (lay (tr l (Int.toNat (Let.i (ns (2 : Nat))))) t) +
 List.length
 (lay (tr l (Int.toNat (Let.i (ns (3 : Nat)))))
 (Ex.wrapQ IntKind.i64 (Ex.addQ t (1 : Int)))) +
 (2 : Nat)) *
 (48 : Nat) ≤
 (140737488355328 : Nat))
 (Sy.Res.hyp
 (Nat.le
 (List.length (lay (tr l (Int.toNat (Let.i (ns (2 : Nat))))) t) +
 List.length
 (lay (tr l (Int.toNat (Let.i (ns (3 : Nat)))))
 (Ex.wrapQ IntKind.i64 (Ex.addQ t (1 : Int)))) +
 (2 : Nat))
 (Let.n (ns (11 : Nat))))
 (Sy.Res.leaf
 (Value.slice
 (some (Addr.mk (Let.n (ns (10 : Nat))) (0 : Nat) none))
 (List.length
 (lay (tr l (Int.toNat (Let.i (ns (2 : Nat))))) t) +
 List.length
 (lay (tr l (Int.toNat (Let.i (ns (3 : Nat)))))
 (Ex.wrapQ IntKind.i64 (Ex.addQ t (1 : Int)))) +
 (2 : Nat))
 (Let.n (ns (11 : Nat))),
 [Blk.mk (Let.n (ns (10 : Nat)))
 (Sy.Cont.row (29 : Nat) (6 : Nat)
 (List.length
 (lay (tr l (Int.toNat (Let.i (ns (2 : Nat))))) t) +
 List.length
 (lay (tr l (Int.toNat (Let.i (ns (3 : Nat)))))
 (Ex.wrapQ IntKind.i64 (Ex.addQ t (1 : Int)))) +
 (2 : Nat))
 (Let.n (ns (11 : Nat)))
 (insCells
 (lay (tr l (Int.toNat (Let.i (ns (2 : Nat))))) t) ++
 insCells
 (lay (tr l (Int.toNat (Let.i (ns (3 : Nat)))))
 (Ex.wrapQ IntKind.i64 (Ex.addQ t (1 : Int)))) ++
 [Value.int IntKind.i64 (16 : Int),
 Value.int IntKind.i64 (0 : Int),
 Value.int IntKind.i64 t,
 Value.int IntKind.i64
 (Ex.wrapQ IntKind.i64 (Ex.addQ t (1 : Int))),
 Value.int IntKind.i64 (0 : Int),
 Value.int IntKind.i64 (0 : Int),
 Value.int IntKind.i64 (17 : Int),
 Value.int IntKind.i64 t,
 Value.int IntKind.i64 (0 : Int),
 Value.int IntKind.i64 (0 : Int),
 Value.int IntKind.i64 (0 : Int),
 Value.int IntKind.i64
 (binCond (Let.i (ns (0 : Nat))))]))
 true,
 Blk.mk (Let.n (ns (9 : Nat)))
 (Sy.Cont.obj
 (Obj.cells
 (Array.mk
 [Value.int IntKind.i64 (16 : Int),
 Value.int IntKind.i64 (0 : Int),
 Value.int IntKind.i64 t,
 Value.int IntKind.i64
 (Ex.wrapQ IntKind.i64 (Ex.addQ t (1 : Int))),
 Value.int IntKind.i64 (0 : Int),
 Value.int IntKind.i64 (0 : Int),
 Value.int IntKind.i64 (17 : Int),
 Value.int IntKind.i64 t,
 Value.int IntKind.i64 (0 : Int),
 Value.int IntKind.i64 (0 : Int),
 Value.int IntKind.i64 (0 : Int),
 Value.int IntKind.i64
 (binCond (Let.i (ns (0 : Nat))))])
 (29 : Nat)))
 true])))))))))))))))))))))))))))
theorem l0_run (g o c : Nat) (l : List Nd) (i t : Int) (i0 : Nat) : Sy.Ran (Sy.inT Try.prog (ctxY g o c l i0) 60 fLay (rlay0 g o c l i0 i t).args (Sy.blks (rlay0 g o c l i0 i t).mem) (Sy.rowT tI)) l0_o (l0_R g o c l i t i0) := ⟨fun ns => by kernel_rfl, fun ns => by kernel_rfl⟩

theorem ctxY_holds (g o c : Nat) (l : List Nd) (i0 : Nat) (h0 : ∀ i t, Sy.Meets Try.prog (rlay0 g o c l i0 i t)) (hA : ∀ gl n cap xs i t, Sy.Meets Try.prog (rlayA g o c l i0 gl n cap xs i t)) : (ctxY g o c l i0).holds Try.prog := Sy.mkS_holds (fun p hp a L => by
  rcases List.mem_cons.1 hp with rfl | hp
  · exact h0 _ _
  rcases List.mem_cons.1 hp with rfl | hp
  · exact hA _ _ _ _ _ _
  rcases List.mem_cons.1 hp with rfl | hp
  · exact rnum0_met _ _
  rcases List.mem_cons.1 hp with rfl | hp
  · exact rnumA_met _ _ _ _ _ _
  rcases List.mem_cons.1 hp with rfl | hp
  · exact plC_met _
  rcases List.mem_singleton.1 hp with rfl
  exact cdC_met _) (fun _ h => (by cases h)) (fun _ h => (by cases h))

theorem rlayA_step (g o c : Nat) (l : List Nd) (i0 : Nat) (ih0 : ∀ i t, Sy.Meets Try.prog (rlay0 g o c l i0 i t)) (ihA : ∀ gl n cap xs i t, Sy.Meets Try.prog (rlayA g o c l i0 gl n cap xs i t)) (gl n cap : Nat) (xs : List Value) (i t : Int) : Sy.Meets Try.prog (rlayA g o c l (i0 + 1) gl n cap xs i t) := by
  refine Sy.meets_of (ctxY_holds g o c l i0 ih0 ihA) mixed (la_run g o c l gl n cap xs i t i0) fun hok ns => ?_
  obtain ⟨⟨⟨hE, hG⟩, hn⟩, h0, h1, h2, h3, h4⟩ : ((isExpr 24 l ∧ goodN l) ∧ n + (lay (tr l i.toNat) t).length ≤ 900000) ∧ 0 ≤ i ∧ i < l.length ∧ i < ((i0 + 1 : Nat) : Int) ∧ 24 ≤ t ∧ t + (tr l i.toNat).needs ≤ 29 := hok
  have hok := hE.1
  simp only [la_R, Sy.Res.holds, Sy.b_and, Sy.b_or, Sy.b_not, Sy.b_f, Sy.b_and', Sy.b_or', Sy.q_lt, Sy.q_le, Sy.q_eq, Sy.b_tt, Sy.b_ft, not_true_eq_false, not_false_eq_true]
  have hlt : i.toNat < l.length := by omega
  have ea : l[i.toNat]? = some l[i.toNat] := List.getElem?_eq_getElem hlt
  obtain ⟨a0, a1, a2, a3⟩ := nd_atI ea o
  simp only [a0, a1, a2, a3, some_int, some_bool, exists_eq', true_and]
  have hxv : goodU l[i.toNat].val := hG _ (List.getElem_mem hlt)
  generalize l[i.toNat] = x at *
  refine ⟨⟨h0, h1⟩, fun e0 e1 e2 e3 => ?_⟩
  have hnp := (tr l i.toNat).needs_pos
  have w25 : Ex.wrapQ .i64 (Ex.addQ t 1) = t + 1 := add_small (by omega) (by omega)
  simp only [← e0, ← e1, ← e2, ← e3, w25]
  have hx := hok _ x ea
  have un : 3 ≤ x.op → x.op ≤ 5 → 0 ≤ x.a ∧ x.a < i ∧ tr l i.toNat = .un x.op (tr l x.a.toNat) := fun u1 u2 => by
    have ha := ok_a hx u1
    exact ⟨ha.1, by omega, tr_un ea u1 u2 (by omega)⟩
  have whole := lay_fits hE (i := i.toNat) hlt t
  refine ⟨fun c1 => ⟨⟨hxv, by omega⟩, fun hc => Sy.rowO_leaf' (List.mem_singleton_self _) rfl 0 rfl rfl ?_ ?_ hc⟩, fun c1 => ⟨fun c2 => ⟨by omega, by omega, fun hc => Sy.rowO_leaf' (List.mem_singleton_self _) rfl 0 rfl rfl ?_ ?_ hc⟩, fun c2 => ?_⟩⟩
  · rw [tr_num ea (by omega)]; rfl
  · rw [tr_num ea (by omega)]; rfl
  · rw [tr_loc ea c2]; rfl
  · rw [tr_loc ea c2]
    have hv : Ex.wrapQ .i64 x.val = x.val := by
      unfold nodeOk at hx
      unfold goodU at hxv
      exact wrap_small hxv.1 (by omega)
    rw [hv]; rfl
  by_cases h6 : x.op ≤ 5
  · have hop : 3 ≤ x.op := by unfold nodeOk at hx; omega
    obtain ⟨ha0, ha1, eT⟩ := un hop h6
    have hf := lay_fits hE (i := x.a.toNat) (by omega) t
    rw [eT, E.needs] at h4
    rw [eT] at whole
    simp only [lay, List.length_append] at whole
    rw [eT] at hn
    simp only [lay, List.length_append] at hn
    have hu := unL_pos x.op t
    refine ⟨⟨⟨⟨hE, hG⟩, by omega⟩, ha0, by omega, by omega, h3, h4⟩, fun hc0 => ⟨fun c3 => ⟨by omega, by omega, fun hc1 => Sy.rowO_leaf' (List.mem_singleton_self _) rfl 0 rfl rfl ?_ ?_ hc1⟩, fun c3 => ⟨fun c4 => ⟨by omega, by omega, fun hc1 => Sy.rowO_leaf' (List.mem_singleton_self _) rfl 0 rfl rfl ?_ ?_ hc1⟩,
      fun c4 => ⟨fun c5 => ⟨by omega, by omega, fun hc1 => Sy.rowO_leaf' (List.mem_singleton_self _) rfl 0 rfl rfl ?_ ?_ hc1⟩, fun c5 => absurd h6 (by omega)⟩⟩⟩⟩
    · rw [eT]; simp [lay, unL, c3]; try omega
    · rw [eT]; simp [lay, unL, insCells, I.cells, c3]
    · rw [eT]; simp [lay, unL, c4]; try omega
    · rw [eT]; simp [lay, unL, insCells, I.cells, c4]
    · rw [eT]; simp [lay, unL, c5]; try omega
    · rw [eT]; simp [lay, unL, insCells, I.cells, c5]
  · have h19 : x.op ≤ 19 := by unfold nodeOk at hx; omega
    have ha := ok_a hx (by omega)
    have hb := ok_b hx (by omega)
    have eT : tr l i.toNat = .bin x.op (tr l x.a.toNat) (tr l x.b.toNat) := tr_bin ea (by omega) (by omega) (by omega)
    have hf := lay_fits hE (i := x.a.toNat) (by omega) t
    have hf2 := lay_fits hE (i := x.b.toNat) (by omega) (t + 1)
    rw [eT, E.needs] at h4
    rw [eT] at whole
    simp only [lay, List.length_append] at whole
    rw [eT] at hn
    simp only [lay, List.length_append] at hn
    refine ⟨⟨⟨⟨hE, hG⟩, by omega⟩, ha.1, by omega, by omega, h3, by omega⟩, fun hc0 => ⟨fun c3 => absurd c3 (by omega), fun c3 => ⟨fun c4 => absurd c4 (by omega), fun c4 => ⟨fun c5 => absurd c5 (by omega), fun c5 => ⟨⟨⟨⟨hE, hG⟩, by omega⟩, hb.1, by omega, by omega, by omega, by omega⟩, fun hc1 => fun _ =>
      ⟨fun hz => fun _ => ⟨by omega, by omega, fun hc2 => Sy.rowO_leaf' (List.mem_singleton_self _) rfl 0 rfl rfl ?_ ?_ hc2⟩, fun hz => fun _ => ⟨by omega, by omega, fun hc2 => Sy.rowO_leaf' (List.mem_singleton_self _) rfl 0 rfl rfl ?_ ?_ hc2⟩⟩⟩⟩⟩⟩⟩
    · rw [eT]; simp only [lay, binL, if_neg hz, List.length_append, List.length_cons, List.length_nil]; omega
    · rw [eT]; simp [lay, binL, if_neg hz, insCells, I.cells]
    · have hz : binOp x.op = 0 := Classical.byContradiction hz
      rw [eT]; simp only [lay, binL, if_pos hz, List.length_append, List.length_cons, List.length_nil]; omega
    · have hz : binOp x.op = 0 := Classical.byContradiction hz
      rw [eT]; simp [lay, binL, if_pos hz, insCells, I.cells]

theorem rlay0_step (g o c : Nat) (l : List Nd) (i0 : Nat) (ih0 : ∀ i t, Sy.Meets Try.prog (rlay0 g o c l i0 i t)) (ihA : ∀ gl n cap xs i t, Sy.Meets Try.prog (rlayA g o c l i0 gl n cap xs i t)) (i t : Int) : Sy.Meets Try.prog (rlay0 g o c l (i0 + 1) i t) := by
  refine Sy.meets_of (ctxY_holds g o c l i0 ih0 ihA) mixed (l0_run g o c l i t i0) fun hok ns => ?_
  obtain ⟨⟨hE, hG⟩, h0, h1, h2, h3, h4⟩ : (isExpr 24 l ∧ goodN l) ∧ 0 ≤ i ∧ i < l.length ∧ i < ((i0 + 1 : Nat) : Int) ∧ 24 ≤ t ∧ t + (tr l i.toNat).needs ≤ 29 := hok
  have hok := hE.1
  simp only [l0_R, Sy.Res.holds, Sy.b_and, Sy.b_or, Sy.b_not, Sy.b_f, Sy.b_and', Sy.b_or', Sy.q_lt, Sy.q_le, Sy.q_eq, Sy.b_tt, Sy.b_ft, not_true_eq_false, not_false_eq_true]
  have hlt : i.toNat < l.length := by omega
  have ea : l[i.toNat]? = some l[i.toNat] := List.getElem?_eq_getElem hlt
  obtain ⟨a0, a1, a2, a3⟩ := nd_atI ea o
  simp only [a0, a1, a2, a3, some_int, some_bool, exists_eq', true_and]
  have hxv : goodU l[i.toNat].val := hG _ (List.getElem_mem hlt)
  generalize l[i.toNat] = x at *
  refine ⟨⟨h0, h1⟩, fun e0 e1 e2 e3 => ?_⟩
  have hnp := (tr l i.toNat).needs_pos
  have w25 : Ex.wrapQ .i64 (Ex.addQ t 1) = t + 1 := add_small (by omega) (by omega)
  simp only [← e0, ← e1, ← e2, ← e3, w25]
  have hx := hok _ x ea
  have un : 3 ≤ x.op → x.op ≤ 5 → 0 ≤ x.a ∧ x.a < i ∧ tr l i.toNat = .un x.op (tr l x.a.toNat) := fun u1 u2 => by
    have ha := ok_a hx u1
    exact ⟨ha.1, by omega, tr_un ea u1 u2 (by omega)⟩
  have whole := lay_fits hE (i := i.toNat) hlt t
  refine ⟨fun c1 => ⟨hxv, fun hc => Sy.rowO_leaf' (List.mem_singleton_self _) rfl 0 rfl rfl ?_ ?_ hc⟩, fun c1 => ⟨fun c2 => fun hc => Sy.rowO_leaf' (List.mem_singleton_self _) rfl 0 rfl rfl ?_ ?_ hc, fun c2 => ?_⟩⟩
  · rw [tr_num ea (by omega)]; rfl
  · rw [tr_num ea (by omega)]; rfl
  · rw [tr_loc ea c2]; rfl
  · rw [tr_loc ea c2]
    have hv : Ex.wrapQ .i64 x.val = x.val := by
      unfold nodeOk at hx
      unfold goodU at hxv
      exact wrap_small hxv.1 (by omega)
    rw [hv]; rfl
  by_cases h6 : x.op ≤ 5
  · have hop : 3 ≤ x.op := by unfold nodeOk at hx; omega
    obtain ⟨ha0, ha1, eT⟩ := un hop h6
    have hf := lay_fits hE (i := x.a.toNat) (by omega) t
    rw [eT, E.needs] at h4
    rw [eT] at whole
    simp only [lay, List.length_append] at whole
    refine ⟨⟨⟨hE, hG⟩, ha0, by omega, by omega, h3, h4⟩, fun hc0 => ⟨fun c3 => ⟨by omega, by omega, fun hc1 => Sy.rowO_leaf' (List.mem_singleton_self _) rfl 0 rfl rfl ?_ ?_ hc1⟩, fun c3 => ⟨fun c4 => ⟨by omega, by omega, fun hc1 => Sy.rowO_leaf' (List.mem_singleton_self _) rfl 0 rfl rfl ?_ ?_ hc1⟩,
      fun c4 => ⟨fun c5 => ⟨by omega, by omega, fun hc1 => Sy.rowO_leaf' (List.mem_singleton_self _) rfl 0 rfl rfl ?_ ?_ hc1⟩, fun c5 => absurd h6 (by omega)⟩⟩⟩⟩
    · rw [eT]; simp [lay, unL, c3]
    · rw [eT]; simp [lay, unL, insCells, I.cells, c3]
    · rw [eT]; simp [lay, unL, c4]
    · rw [eT]; simp [lay, unL, insCells, I.cells, c4]
    · rw [eT]; simp [lay, unL, c5]
    · rw [eT]; simp [lay, unL, insCells, I.cells, c5]
  · have h19 : x.op ≤ 19 := by unfold nodeOk at hx; omega
    have ha := ok_a hx (by omega)
    have hb := ok_b hx (by omega)
    have eT : tr l i.toNat = .bin x.op (tr l x.a.toNat) (tr l x.b.toNat) := tr_bin ea (by omega) (by omega) (by omega)
    have hf := lay_fits hE (i := x.a.toNat) (by omega) t
    have hf2 := lay_fits hE (i := x.b.toNat) (by omega) (t + 1)
    rw [eT, E.needs] at h4
    rw [eT] at whole
    simp only [lay, List.length_append] at whole
    refine ⟨⟨⟨hE, hG⟩, ha.1, by omega, by omega, h3, by omega⟩, fun hc0 => ⟨fun c3 => absurd c3 (by omega), fun c3 => ⟨fun c4 => absurd c4 (by omega), fun c4 => ⟨fun c5 => absurd c5 (by omega), fun c5 => ⟨⟨⟨⟨hE, hG⟩, by omega⟩, hb.1, by omega, by omega, by omega, by omega⟩, fun hc1 => fun _ =>
      ⟨fun hz => fun _ => ⟨by omega, by omega, fun hc2 => Sy.rowO_leaf' (List.mem_singleton_self _) rfl 0 rfl rfl ?_ ?_ hc2⟩, fun hz => fun _ => ⟨by omega, by omega, fun hc2 => Sy.rowO_leaf' (List.mem_singleton_self _) rfl 0 rfl rfl ?_ ?_ hc2⟩⟩⟩⟩⟩⟩⟩
    · rw [eT]; simp only [lay, binL, if_neg hz, List.length_append, List.length_cons, List.length_nil]; omega
    · rw [eT]; simp [lay, binL, if_neg hz, insCells, I.cells]
    · have hz : binOp x.op = 0 := Classical.byContradiction hz
      rw [eT]; simp only [lay, binL, if_pos hz, List.length_append, List.length_cons, List.length_nil]; omega
    · have hz : binOp x.op = 0 := Classical.byContradiction hz
      rw [eT]; simp [lay, binL, if_pos hz, insCells, I.cells]

theorem rlay_met (g o c : Nat) (l : List Nd) : ∀ i0 : Nat, (∀ i t, Sy.Meets Try.prog (rlay0 g o c l i0 i t)) ∧ (∀ gl n cap xs i t, Sy.Meets Try.prog (rlayA g o c l i0 gl n cap xs i t))
  | 0 => ⟨fun i t hok => absurd hok.2.2.2.1 (by have := hok.2.1; omega), fun gl n cap xs i t hok => absurd hok.2.2.2.1 (by have := hok.2.1; omega)⟩
  | i0 + 1 => ⟨fun i t => rlay0_step g o c l i0 (rlay_met g o c l i0).1 (rlay_met g o c l i0).2 i t, fun gl n cap xs i t => rlayA_step g o c l i0 (rlay_met g o c l i0).1 (rlay_met g o c l i0).2 gl n cap xs i t⟩

end Go.Proofs.Ytgaejhhipnpopaa
