/-
  LowerValues: an expression's value, by the reference; the calls of regs and kept.
-/
import Derived.Test.YtgaejhhipnpopaaLwVb
namespace Go.Proofs.Ytgaejhhipnpopaa
set_option linter.unusedVariables false
set_option linter.unusedSimpArgs false
open Go Go.RowKit
open Sy (Let Blk)

noncomputable def atC (g o c : Nat) (l : List Nd) (i0 : Nat) (gx : Nat) (cx : Nat) (xs : List Int) (i : Int) : Sy.CallC :=
  ⟨fAt, #[.slice (some ⟨g, o, none⟩) l.length c, .int .i64 i, .slice (some ⟨gx, 0, none⟩) 24 cx], ((isExpr 24 l ∧ goodN l) ∧ xs.length = 34 ∧ goodLoc xs) ∧ 0 ≤ i ∧ i < l.length ∧ i < i0,
   ⟨[(g, .seg o (ndCells l)), (gx, .seg 0 (regC xs))], [], 0⟩, [Sy.plainO (.int .u64 (evalE xs (tr l i.toNat)))]⟩
noncomputable def ctxAt (g o c : Nat) (l : List Nd) (i0 gx : Nat) (cx : Nat) (xs : List Int) : Sy.Ctx := Sy.mkS [(fAt, fun a _ => atC g o c l i0 gx cx xs (Sy.argI a 1))] [(fAt, fun a _ => loopS0 (a.get 6) (Sy.intV (a.get 8)) (Sy.intV (a.get 9))), (fAt, fun a _ => loopS1 (a.get 6) (Sy.intV (a.get 8)) (Sy.intV (a.get 9)))] []
def atv_o : Sy.O := (Sy.O.steps [1, 0, 1, 1, 1, 1, 1, 1, 0, 0, 0, 0, 0] (Sy.O.fork (Sy.O.steps [0, 0] Sy.O.nil) (Sy.O.steps [0, 0] (Sy.O.fork (Sy.O.steps [0, 0, 1, 2, 1, 1, 1] Sy.O.nil) (Sy.O.steps [0, 0, 0, 1, 1, 2, 0] (Sy.O.fork Sy.O.nil (Sy.O.fork Sy.O.nil (Sy.O.fork (Sy.O.fork Sy.O.nil Sy.O.nil) (Sy.O.steps [2, 0, 0, 0, 0, 2, 0] (Sy.O.fork Sy.O.nil (Sy.O.fork Sy.O.nil (Sy.O.fork Sy.O.nil (Sy.O.fork (Sy.O.steps [0] Sy.O.nil) (Sy.O.fork (Sy.O.steps [1] Sy.O.nil) (Sy.O.fork Sy.O.nil (Sy.O.fork Sy.O.nil (Sy.O.fork Sy.O.nil (Sy.O.fork (Sy.O.fork Sy.O.nil Sy.O.nil) (Sy.O.fork (Sy.O.fork Sy.O.nil Sy.O.nil) (Sy.O.fork (Sy.O.fork Sy.O.nil Sy.O.nil) (Sy.O.fork (Sy.O.fork Sy.O.nil Sy.O.nil) (Sy.O.fork (Sy.O.fork Sy.O.nil Sy.O.nil) (Sy.O.fork Sy.O.nil Sy.O.nil)))))))))))))))))))))))
noncomputable def atv_R (g : Nat) (o : Nat) (c : Nat) (l : List Nd) (i0 : Nat) (gx : Nat) (cx : Nat) (xs : List Int) (i : Int) (ns : Nat → Sy.Let) : Sy.Res (Value × List Blk) := Sy.Res.need ((0 : Int) ≤ i ∧ i < (↑(List.length l) : Int))
 (Sy.Res.need
 (∃ (i_1 : Int),
 Sy.Cont.at (Sy.Cont.seg o (ndCells l)) (o + Int.toNat i * (4 : Nat)) = some (Value.int IntKind.i64 i_1))
 (Sy.Res.hyp
 (Sy.Cont.at (Sy.Cont.seg o (ndCells l)) (o + Int.toNat i * (4 : Nat)) =
 some (Value.int IntKind.i64 (Let.i (ns (0 : Nat)))))
 (Sy.Res.need
 (∃ (i_1 : Int),
 Sy.Cont.at (Sy.Cont.seg o (ndCells l)) (o + Int.toNat i * (4 : Nat) + (1 : Nat)) =
 some (Value.int IntKind.u64 i_1))
 (Sy.Res.hyp
 (Sy.Cont.at (Sy.Cont.seg o (ndCells l)) (o + Int.toNat i * (4 : Nat) + (1 : Nat)) =
 some (Value.int IntKind.u64 (Let.i (ns (1 : Nat)))))
 (Sy.Res.need
 (∃ (i_1 : Int),
 Sy.Cont.at (Sy.Cont.seg o (ndCells l)) (o + Int.toNat i * (4 : Nat) + (1 : Nat) + (1 : Nat)) =
 some (Value.int IntKind.i64 i_1))
 (Sy.Res.hyp
 (Sy.Cont.at (Sy.Cont.seg o (ndCells l)) (o + Int.toNat i * (4 : Nat) + (1 : Nat) + (1 : Nat)) =
 some (Value.int IntKind.i64 (Let.i (ns (2 : Nat)))))
 (Sy.Res.need
 (∃ (i_1 : Int),
 Sy.Cont.at (Sy.Cont.seg o (ndCells l))
 (o + Int.toNat i * (4 : Nat) + (1 : Nat) + (1 : Nat) + (1 : Nat)) =
 some (Value.int IntKind.i64 i_1))
 (Sy.Res.hyp
 (Sy.Cont.at (Sy.Cont.seg o (ndCells l))
 (o + Int.toNat i * (4 : Nat) + (1 : Nat) + (1 : Nat) + (1 : Nat)) =
 some (Value.int IntKind.i64 (Let.i (ns (3 : Nat)))))
 (Sy.Res.br (Ex.eqQ (Let.i (ns (0 : Nat))) (1 : Int))
 (Sy.Res.leaf (Value.int IntKind.u64 (Let.i (ns (1 : Nat))), []))
 (Sy.Res.br (Ex.eqQ (Let.i (ns (0 : Nat))) (2 : Int))
 (Sy.Res.need ((0 : Int) ≤ Let.i (ns (1 : Nat)) ∧ Let.i (ns (1 : Nat)) < (24 : Int))
 (Sy.Res.need
 (∃ (i : Int),
 Sy.Cont.at (Sy.Cont.seg (0 : Nat) (regC xs))
 ((0 : Nat) + Int.toNat (Let.i (ns (1 : Nat))) * (1 : Nat)) =
 some (Value.int IntKind.u64 i))
 (Sy.Res.hyp
 (Sy.Cont.at (Sy.Cont.seg (0 : Nat) (regC xs))
 ((0 : Nat) + Int.toNat (Let.i (ns (1 : Nat))) * (1 : Nat)) =
 some (Value.int IntKind.u64 (Let.i (ns (5 : Nat)))))
 (Sy.Res.leaf (Value.int IntKind.u64 (Let.i (ns (5 : Nat))), [])))))
 (Sy.Res.need
 (((isExpr (24 : Int) l ∧ goodN l) ∧ List.length xs = (34 : Nat) ∧ goodLoc xs) ∧
 (0 : Int) ≤ Let.i (ns (2 : Nat)) ∧
 Let.i (ns (2 : Nat)) < (↑(List.length l) : Int) ∧ Let.i (ns (2 : Nat)) < (↑i0 : Int))
 (Sy.Res.hyp True
 (Sy.Res.br (Ex.eqQ (Let.i (ns (0 : Nat))) (3 : Int))
 (Sy.Res.leaf
 (Value.int IntKind.u64
 (Ex.wrapQ IntKind.u64
 (Ex.subQ' (0 : Int) (evalE xs (tr l (Int.toNat (Let.i (ns (2 : Nat)))))))),
 []))
 (Sy.Res.br (Ex.eqQ (Let.i (ns (0 : Nat))) (4 : Int))
 (Sy.Res.leaf
 (Value.int IntKind.u64
 (Ex.wrapQ IntKind.u64
 (Ex.subQ' (18446744073709551615 : Int)
 (evalE xs (tr l (Int.toNat (Let.i (ns (2 : Nat)))))))),
 []))
 (Sy.Res.br (Ex.eqQ (Let.i (ns (0 : Nat))) (5 : Int))
 (Sy.Res.br (Ex.eqQ (evalE xs (tr l (Int.toNat (Let.i (ns (2 : Nat)))))) (0 : Int))
 (Sy.Res.leaf (Value.int IntKind.u64 (1 : Int), []))
 (Sy.Res.leaf (Value.int IntKind.u64 (0 : Int), [])))
 (Sy.Res.need
 (((isExpr (24 : Int) l ∧ goodN l) ∧ List.length xs = (34 : Nat) ∧ goodLoc xs) ∧
 (0 : Int) ≤ Let.i (ns (3 : Nat)) ∧
 Let.i (ns (3 : Nat)) < (↑(List.length l) : Int) ∧
 Let.i (ns (3 : Nat)) < (↑i0 : Int))
 (Sy.Res.hyp True
 (Sy.Res.br (Ex.eqQ (Let.i (ns (0 : Nat))) (6 : Int))
 (Sy.Res.leaf
 (Value.int IntKind.u64
 (Ex.wrapQ IntKind.u64
 (Ex.mulQ (evalE xs (tr l (Int.toNat (Let.i (ns (2 : Nat))))))
 (evalE xs (tr l (Int.toNat (Let.i (ns (3 : Nat)))))))),
 []))
 (Sy.Res.br (Ex.eqQ (Let.i (ns (0 : Nat))) (7 : Int))
 (Sy.Res.leaf
 (Value.int IntKind.u64
 (Ex.wrapQ IntKind.u64
 (Ex.addQ (evalE xs (tr l (Int.toNat (Let.i (ns (2 : Nat))))))
 (evalE xs (tr l (Int.toNat (Let.i (ns (3 : Nat)))))))),
 []))
 (Sy.Res.br (Ex.eqQ (Let.i (ns (0 : Nat))) (8 : Int))
 (Sy.Res.leaf
 (Value.int IntKind.u64
 (Ex.wrapQ IntKind.u64
 (Ex.subQ' (evalE xs (tr l (Int.toNat (Let.i (ns (2 : Nat))))))
 (evalE xs (tr l (Int.toNat (Let.i (ns (3 : Nat)))))))),
 []))
 (Sy.Res.br (Ex.eqQ (Let.i (ns (0 : Nat))) (9 : Int))
 (Sy.Res.need
 (goodU (evalE xs (tr l (Int.toNat (Let.i (ns (2 : Nat)))))) ∧
 (0 : Int) ≤ evalE xs (tr l (Int.toNat (Let.i (ns (3 : Nat))))))
 (Sy.Res.hyp True
 (Sy.Res.leaf
 (Value.int IntKind.u64
 (shlV (evalE xs (tr l (Int.toNat (Let.i (ns (2 : Nat))))))
 (evalE xs (tr l (Int.toNat (Let.i (ns (3 : Nat))))))),
 []))))
 (Sy.Res.br (Ex.eqQ (Let.i (ns (0 : Nat))) (10 : Int))
 (Sy.Res.need
 (goodU (evalE xs (tr l (Int.toNat (Let.i (ns (2 : Nat)))))) ∧
 (0 : Int) ≤ evalE xs (tr l (Int.toNat (Let.i (ns (3 : Nat))))))
 (Sy.Res.hyp True
 (Sy.Res.leaf
 (Value.int IntKind.u64
 (shrV (evalE xs (tr l (Int.toNat (Let.i (ns (2 : Nat))))))
 (evalE xs (tr l (Int.toNat (Let.i (ns (3 : Nat))))))),
 []))))
 (Sy.Res.br (Ex.eqQ (Let.i (ns (0 : Nat))) (11 : Int))
 (Sy.Res.leaf
 (Value.int IntKind.u64
 (Ex.andQ IntKind.u64
 (evalE xs (tr l (Int.toNat (Let.i (ns (2 : Nat))))))
 (evalE xs (tr l (Int.toNat (Let.i (ns (3 : Nat))))))),
 []))
 (Sy.Res.br (Ex.eqQ (Let.i (ns (0 : Nat))) (12 : Int))
 (Sy.Res.leaf
 (Value.int IntKind.u64
 (Ex.xorQ IntKind.u64
 (evalE xs (tr l (Int.toNat (Let.i (ns (2 : Nat))))))
 (evalE xs (tr l (Int.toNat (Let.i (ns (3 : Nat))))))),
 []))
 (Sy.Res.br (Ex.eqQ (Let.i (ns (0 : Nat))) (13 : Int))
 (Sy.Res.leaf
 (Value.int IntKind.u64
 (Ex.orQ IntKind.u64
 (evalE xs (tr l (Int.toNat (Let.i (ns (2 : Nat))))))
 (evalE xs (tr l (Int.toNat (Let.i (ns (3 : Nat))))))),
 []))
 (Sy.Res.br (Ex.eqQ (Let.i (ns (0 : Nat))) (14 : Int))
 (Sy.Res.br
 (Ex.eqQ (evalE xs (tr l (Int.toNat (Let.i (ns (2 : Nat))))))
 (evalE xs (tr l (Int.toNat (Let.i (ns (3 : Nat)))))))
 (Sy.Res.leaf (Value.int IntKind.u64 (1 : Int), []))
 (Sy.Res.leaf (Value.int IntKind.u64 (0 : Int), [])))
 (Sy.Res.br (Ex.eqQ (Let.i (ns (0 : Nat))) (15 : Int))
 (Sy.Res.br
 (!Ex.eqQ (evalE xs (tr l (Int.toNat (Let.i (ns (2 : Nat))))))
 (evalE xs (tr l (Int.toNat (Let.i (ns (3 : Nat)))))))
 (Sy.Res.leaf (Value.int IntKind.u64 (1 : Int), []))
 (Sy.Res.leaf (Value.int IntKind.u64 (0 : Int), [])))
 (Sy.Res.br (Ex.eqQ (Let.i (ns (0 : Nat))) (16 : Int))
 (Sy.Res.br
 (Ex.ltQ (evalE xs (tr l (Int.toNat (Let.i (ns (2 : Nat))))))
 (evalE xs (tr l (Int.toNat (Let.i (ns (3 : Nat)))))))
 (Sy.Res.leaf (Value.int IntKind.u64 (1 : Int), []))
 (Sy.Res.leaf (Value.int IntKind.u64 (0 : Int), [])))
 (Sy.Res.br (Ex.eqQ (Let.i (ns (0 : Nat))) (17 : Int))
 (Sy.Res.br
 (Ex.leQ
 (evalE xs (tr l (Int.toNat (Let.i (ns (2 : Nat))))))
 (evalE xs (tr l (Int.toNat (Let.i (ns (3 : Nat)))))))
 (Sy.Res.leaf (Value.int IntKind.u64 (1 : Int), []))
 (Sy.Res.leaf (Value.int IntKind.u64 (0 : Int), [])))
 (Sy.Res.br (Ex.eqQ (Let.i (ns (0 : Nat))) (18 : Int))
 (Sy.Res.br
 (Ex.ltQ
 (evalE xs (tr l (Int.toNat (Let.i (ns (3 : Nat))))))
 (evalE xs (tr l (Int.toNat (Let.i (ns (2 : Nat)))))))
 (Sy.Res.leaf (Value.int IntKind.u64 (1 : Int), []))
 (Sy.Res.leaf (Value.int IntKind.u64 (0 : Int), [])))
 (Sy.Res.br
 (Ex.leQ
 (evalE xs (tr l (Int.toNat (Let.i (ns (3 : Nat))))))
 (evalE xs (tr l (Int.toNat (Let.i (ns (2 : Nat)))))))
 (Sy.Res.leaf (Value.int IntKind.u64 (1 : Int), []))
 (Sy.Res.leaf
 (Value.int IntKind.u64 (0 : Int),
 [])))))))))))))))))))))))))))))))))
theorem atv_run (g o c : Nat) (l : List Nd) (i0 gx : Nat) (cx : Nat) (xs : List Int) (i : Int) : Sy.Ran (Sy.inT Try.prog (ctxAt g o c l i0 gx cx xs) 60 fAt (atC g o c l i0 gx cx xs i).args (Sy.blks (atC g o c l i0 gx cx xs i).mem) Sy.noB) atv_o (atv_R g o c l i0 gx cx xs i) := ⟨fun ns => by kernel_rfl, fun ns => by kernel_rfl⟩

theorem ctxAt_holds (g o c : Nat) (l : List Nd) (i0 gx cx : Nat) (xs : List Int) (ih : ∀ i, Sy.Meets Try.prog (atC g o c l i0 gx cx xs i)) : (ctxAt g o c l i0 gx cx xs).holds Try.prog := Sy.mkS_holds (fun p hp a L => by
  rcases List.mem_singleton.1 hp with rfl
  exact ih _) (fun p hp a L => by
  rcases List.mem_cons.1 hp with rfl | hp
  · exact loopS0_met _ _ _
  rcases List.mem_singleton.1 hp with rfl
  exact loopS1_met _ _ _) (fun _ h => (by cases h))

theorem locs_at {xs : List Int} {j : Nat} (h : j < xs.length) : (Sy.Cont.seg 0 (regC xs)).at (0 + j * 1) = some (.int .u64 (xs.getD j 0)) := by
  simp only [Sy.Cont.at]
  rw [if_pos (by omega), show 0 + j * 1 - 0 = j by omega]
  simp [regC, h, List.getD_eq_getElem?_getD]

theorem atC_step (g o c : Nat) (l : List Nd) (i0 gx cx : Nat) (xs : List Int) (ih : ∀ i, Sy.Meets Try.prog (atC g o c l i0 gx cx xs i)) (i : Int) : Sy.Meets Try.prog (atC g o c l (i0 + 1) gx cx xs i) := by
  refine Sy.meets_of (ctxAt_holds g o c l i0 gx cx xs ih) mixed (atv_run g o c l i0 gx cx xs i) fun hok ns => ?_
  obtain ⟨⟨⟨hE, hG⟩, hxl, hxg⟩, h0, h1, h2⟩ : ((isExpr 24 l ∧ goodN l) ∧ xs.length = 34 ∧ goodLoc xs) ∧ 0 ≤ i ∧ i < l.length ∧ i < ((i0 + 1 : Nat) : Int) := hok
  have hok := hE.1
  simp only [atv_R, Sy.Res.holds, Sy.b_and, Sy.b_or, Sy.b_not, Sy.b_f, Sy.b_and', Sy.b_or', Sy.q_lt, Sy.q_le, Sy.q_eq, Sy.b_tt, Sy.b_ft, not_true_eq_false, not_false_eq_true]
  have hlt : i.toNat < l.length := by omega
  have ea : l[i.toNat]? = some l[i.toNat] := List.getElem?_eq_getElem hlt
  obtain ⟨a0, a1, a2, a3⟩ := nd_atI ea o
  simp only [a0, a1, a2, a3, some_int, some_bool, exists_eq', true_and]
  have hxv : goodU l[i.toNat].val := hG _ (List.getElem_mem hlt)
  generalize l[i.toNat] = x at *
  refine ⟨⟨h0, h1⟩, fun e0 e1 e2 e3 => ?_⟩
  simp only [← e0, ← e1, ← e2, ← e3]
  have hx := hok _ x ea
  have leaf : ∀ v, evalE xs (tr l i.toNat) = v → Sy.leafC (atC g o c l (i0 + 1) gx cx xs i) (.int .u64 v, []) := fun v h => Sy.plainO_leaf (List.mem_singleton_self _) rfl (by rw [h])
  refine ⟨fun c1 => leaf _ (by rw [tr_num ea (by omega)]; rfl), fun c1 => ⟨fun c2 => ?_, fun c2 => ?_⟩⟩
  · have hv : 0 ≤ x.val ∧ x.val < 24 := by
      unfold nodeOk at hx
      unfold goodU at hxv
      omega
    simp only [locs_at (xs := xs) (j := x.val.toNat) (by omega), some_int, some_bool, exists_eq', true_and]
    refine ⟨hv, fun h5 => leaf _ ?_⟩
    rw [← h5, tr_loc ea c2]; rfl
  · have ho : 3 ≤ x.op ∧ x.op ≤ 19 := by unfold nodeOk at hx; omega
    have ha := ok_a hx ho.1
    have ea' : evalE xs (tr l x.a.toNat) = evalE xs (tr l x.a.toNat) := rfl
    have fa : fineE (tr l x.a.toNat) := tr_fine hok hG _ _ (Nat.lt_succ_self _) (by omega)
    have ga := evalE_good hxg _ fa
    refine ⟨⟨⟨⟨hE, hG⟩, hxl, hxg⟩, ha.1, by omega, by omega⟩, fun _ => ?_⟩
    have un : x.op ≤ 5 → evalE xs (tr l i.toNat) = unV x.op (evalE xs (tr l x.a.toNat)) := fun u2 => by rw [tr_un ea ho.1 u2 (by omega)]; rfl
    refine ⟨fun c3 => leaf _ (by rw [un (by omega), c3]; rfl), fun c3 => ⟨fun c4 => leaf _ (by rw [un (by omega), c4]; rfl), fun c4 => ⟨fun c5 => ⟨fun z => leaf _ (by rw [un (by omega), c5]; simp [unV, z]), fun z => leaf _ (by rw [un (by omega), c5]; simp [unV, z])⟩, fun c5 => ?_⟩⟩⟩
    have h6 : 6 ≤ x.op := by omega
    have hb := ok_b hx h6
    have fb : fineE (tr l x.b.toNat) := tr_fine hok hG _ _ (Nat.lt_succ_self _) (by omega)
    have gb := evalE_good hxg _ fb
    refine ⟨⟨⟨⟨hE, hG⟩, hxl, hxg⟩, hb.1, by omega, by omega⟩, fun _ => ?_⟩
    have bi : evalE xs (tr l i.toNat) = binV x.op (evalE xs (tr l x.a.toNat)) (evalE xs (tr l x.b.toNat)) := by rw [tr_bin ea h6 (by omega) (by omega)]; rfl
    rw [bi] at leaf
    generalize evalE xs (tr l x.a.toNat) = va at *
    generalize evalE xs (tr l x.b.toNat) = vb at *
    refine ⟨fun c6 => leaf _ (by rw [c6]; rfl), fun c6 => ⟨fun c7 => leaf _ (by rw [c7]; rfl), fun c7 => ⟨fun c8 => leaf _ (by rw [c8]; rfl), fun c8 => ⟨fun c9 => ⟨⟨ga, gb.1⟩, fun _ => leaf _ (by rw [c9, shlV_eq]; rfl)⟩, fun c9 => ⟨fun c10 => ⟨⟨ga, gb.1⟩, fun _ => leaf _ (by rw [c10, shrV_eq]; rfl)⟩, fun c10 => ⟨fun c11 => leaf _ (by rw [c11]; rfl), fun c11 => ⟨fun c12 => leaf _ (by rw [c12]; rfl), fun c12 => ⟨fun c13 => leaf _ (by rw [c13]; rfl), fun c13 => ?_⟩⟩⟩⟩⟩⟩⟩⟩
    refine ⟨fun c14 => ⟨fun z => leaf _ (by rw [c14]; simp [binV, z]), fun z => leaf _ (by rw [c14]; simp [binV, z])⟩, fun c14 => ⟨fun c15 => ⟨fun z => leaf _ (by rw [c15]; simp [binV, z]), fun z => leaf _ (by rw [c15]; simp [binV, Classical.byContradiction z])⟩, fun c15 => ⟨fun c16 => ⟨fun z => leaf _ (by rw [c16]; simp [binV, z]), fun z => leaf _ (by rw [c16]; simp [binV, z])⟩, fun c16 => ⟨fun c17 => ⟨fun z => leaf _ (by rw [c17]; simp [binV, z]), fun z => leaf _ (by rw [c17]; simp [binV, z])⟩, fun c17 => ⟨fun c18 => ⟨fun z => leaf _ (by rw [c18]; simp [binV, z]), fun z => leaf _ (by rw [c18]; simp [binV, z])⟩, fun c18 => ?_⟩⟩⟩⟩⟩
    have c19 : x.op = 19 := by omega
    exact ⟨fun z => leaf _ (by rw [c19]; simp [binV, z]), fun z => leaf _ (by rw [c19]; simp [binV, z])⟩

theorem atC_met (g o c : Nat) (l : List Nd) (gx cx : Nat) (xs : List Int) : ∀ (i0 : Nat) (i : Int), Sy.Meets Try.prog (atC g o c l i0 gx cx xs i)
  | 0, i => fun hok => absurd hok.2.2.2 (by have := hok.2.1; omega)
  | i0 + 1, i => atC_step g o c l i0 gx cx xs (atC_met g o c l gx cx xs i0) i

/-! The calls of regs and kept. -/
noncomputable def regsC (g o c m : Nat) (l xs : List Int) : Sy.CallC := ⟨fRegs, #[.slice (some ⟨g, o, none⟩) (.succ m) c], l.length = m + 1 ∧ xs = regsAt l m 31, ⟨[(g, .seg o (numC8 l))], [], 0⟩, [Sy.plainO (.agg (regA xs))]⟩
noncomputable def regs0C (A : Option Addr) (c : Nat) (xs : List Int) : Sy.CallC := ⟨fRegs, #[.slice A 0 c], xs = zerosR, ⟨[], [], 0⟩, [Sy.plainO (.agg (regA xs))]⟩
noncomputable def keptC (k e : Int) (xs ys : List Int) : Sy.CallC := ⟨fKept, #[.agg (regA xs), .agg (regA ys), .int .i64 k, .int .i64 e], (xs.length = 34 ∧ ys.length = 34) ∧ 0 ≤ k ∧ k < 5, ⟨[], [], 0⟩, [Sy.plainO (.bool (tru (keptP xs ys k e)))]⟩
noncomputable def ctxRg (g o c m : Nat) (l : List Int) : Sy.Ctx := Sy.mkS [] [(fRegs, fun a _ => loopRg g o c m (Sy.ptrN (a.get 3)) (Sy.ptrN (a.get 2)) l)] []
noncomputable def ctxKp (k e : Int) (xs ys : List Int) : Sy.Ctx := Sy.mkS [] [(fKept, fun a _ => loopKp (Sy.ptrN (a.get 4)) (Sy.ptrN (a.get 5)) k e xs ys)] []
def rgc_o : Sy.O := (Sy.O.steps [0, 2, 0, 0, 0, 0, 2, 0, 2, 0] Sy.O.nil)
noncomputable def rgc_R (g : Nat) (o : Nat) (c : Nat) (m : Nat) (l : List Int) (ns : Nat → Sy.Let) : Sy.Res (Value × List Blk) := Sy.Res.need (List.length l = m + (1 : Nat))
 (Sy.Res.hyp True
 (Sy.Res.leaf
 (Value.agg
 (Array.mk
 [Value.int IntKind.u64 (if nat_lit 0 < (31 : Nat) then rv l m (nat_lit 0) else (0 : Int)),
 Value.int IntKind.u64 (if nat_lit 1 < (31 : Nat) then rv l m (nat_lit 1) else (0 : Int)),
 Value.int IntKind.u64 (if nat_lit 2 < (31 : Nat) then rv l m (nat_lit 2) else (0 : Int)),
 Value.int IntKind.u64 (if nat_lit 3 < (31 : Nat) then rv l m (nat_lit 3) else (0 : Int)),
 Value.int IntKind.u64 (if nat_lit 4 < (31 : Nat) then rv l m (nat_lit 4) else (0 : Int)),
 Value.int IntKind.u64 (if nat_lit 5 < (31 : Nat) then rv l m (nat_lit 5) else (0 : Int)),
 Value.int IntKind.u64 (if nat_lit 6 < (31 : Nat) then rv l m (nat_lit 6) else (0 : Int)),
 Value.int IntKind.u64 (if nat_lit 7 < (31 : Nat) then rv l m (nat_lit 7) else (0 : Int)),
 Value.int IntKind.u64 (if nat_lit 8 < (31 : Nat) then rv l m (nat_lit 8) else (0 : Int)),
 Value.int IntKind.u64 (if nat_lit 9 < (31 : Nat) then rv l m (nat_lit 9) else (0 : Int)),
 Value.int IntKind.u64 (if nat_lit 10 < (31 : Nat) then rv l m (nat_lit 10) else (0 : Int)),
 Value.int IntKind.u64 (if nat_lit 11 < (31 : Nat) then rv l m (nat_lit 11) else (0 : Int)),
 Value.int IntKind.u64 (if nat_lit 12 < (31 : Nat) then rv l m (nat_lit 12) else (0 : Int)),
 Value.int IntKind.u64 (if nat_lit 13 < (31 : Nat) then rv l m (nat_lit 13) else (0 : Int)),
 Value.int IntKind.u64 (if nat_lit 14 < (31 : Nat) then rv l m (nat_lit 14) else (0 : Int)),
 Value.int IntKind.u64 (if nat_lit 15 < (31 : Nat) then rv l m (nat_lit 15) else (0 : Int)),
 Value.int IntKind.u64 (if nat_lit 16 < (31 : Nat) then rv l m (nat_lit 16) else (0 : Int)),
 Value.int IntKind.u64 (if nat_lit 17 < (31 : Nat) then rv l m (nat_lit 17) else (0 : Int)),
 Value.int IntKind.u64 (if nat_lit 18 < (31 : Nat) then rv l m (nat_lit 18) else (0 : Int)),
 Value.int IntKind.u64 (if nat_lit 19 < (31 : Nat) then rv l m (nat_lit 19) else (0 : Int)),
 Value.int IntKind.u64 (if nat_lit 20 < (31 : Nat) then rv l m (nat_lit 20) else (0 : Int)),
 Value.int IntKind.u64 (if nat_lit 21 < (31 : Nat) then rv l m (nat_lit 21) else (0 : Int)),
 Value.int IntKind.u64 (if nat_lit 22 < (31 : Nat) then rv l m (nat_lit 22) else (0 : Int)),
 Value.int IntKind.u64 (if nat_lit 23 < (31 : Nat) then rv l m (nat_lit 23) else (0 : Int)),
 Value.int IntKind.u64 (if nat_lit 24 < (31 : Nat) then rv l m (nat_lit 24) else (0 : Int)),
 Value.int IntKind.u64 (if nat_lit 25 < (31 : Nat) then rv l m (nat_lit 25) else (0 : Int)),
 Value.int IntKind.u64 (if nat_lit 26 < (31 : Nat) then rv l m (nat_lit 26) else (0 : Int)),
 Value.int IntKind.u64 (if nat_lit 27 < (31 : Nat) then rv l m (nat_lit 27) else (0 : Int)),
 Value.int IntKind.u64 (if nat_lit 28 < (31 : Nat) then rv l m (nat_lit 28) else (0 : Int)),
 Value.int IntKind.u64 (if nat_lit 29 < (31 : Nat) then rv l m (nat_lit 29) else (0 : Int)),
 Value.int IntKind.u64 (if nat_lit 30 < (31 : Nat) then rv l m (nat_lit 30) else (0 : Int)),
 Value.int IntKind.u64 (0 : Int), Value.int IntKind.u64 (0 : Int), Value.int IntKind.u64 (0 : Int)]),
 [])))
theorem rgc_run (g o c m : Nat) (l : List Int) : Sy.Ran (Sy.inT Try.prog (ctxRg g o c m l) 60 fRegs (regsC g o c m l []).args (Sy.blks (regsC g o c m l []).mem) Sy.noB) rgc_o (rgc_R g o c m l) := ⟨fun ns => by kernel_rfl, fun ns => by kernel_rfl⟩
def rg0_o : Sy.O := (Sy.O.steps [0, 0, 0, 0, 0, 0, 0, 0, 0, 0, 1, 0, 1, 0] Sy.O.nil)
noncomputable def rg0_R (A : Option Addr) (c : Nat) (ns : Nat → Sy.Let) : Sy.Res (Value × List Blk) := Sy.Res.leaf
 (Value.agg
 (Array.mk
 [Value.int IntKind.u64 (0 : Int), Value.int IntKind.u64 (0 : Int), Value.int IntKind.u64 (0 : Int),
 Value.int IntKind.u64 (0 : Int), Value.int IntKind.u64 (0 : Int), Value.int IntKind.u64 (0 : Int),
 Value.int IntKind.u64 (0 : Int), Value.int IntKind.u64 (0 : Int), Value.int IntKind.u64 (0 : Int),
 Value.int IntKind.u64 (0 : Int), Value.int IntKind.u64 (0 : Int), Value.int IntKind.u64 (0 : Int),
 Value.int IntKind.u64 (0 : Int), Value.int IntKind.u64 (0 : Int), Value.int IntKind.u64 (0 : Int),
 Value.int IntKind.u64 (0 : Int), Value.int IntKind.u64 (0 : Int), Value.int IntKind.u64 (0 : Int),
 Value.int IntKind.u64 (0 : Int), Value.int IntKind.u64 (0 : Int), Value.int IntKind.u64 (0 : Int),
 Value.int IntKind.u64 (0 : Int), Value.int IntKind.u64 (0 : Int), Value.int IntKind.u64 (0 : Int),
 Value.int IntKind.u64 (0 : Int), Value.int IntKind.u64 (0 : Int), Value.int IntKind.u64 (0 : Int),
 Value.int IntKind.u64 (0 : Int), Value.int IntKind.u64 (0 : Int), Value.int IntKind.u64 (0 : Int),
 Value.int IntKind.u64 (0 : Int), Value.int IntKind.u64 (0 : Int), Value.int IntKind.u64 (0 : Int),
 Value.int IntKind.u64 (0 : Int)]),
 [])
theorem rg0_run (A : Option Addr) (c : Nat) : Sy.Ran (Sy.inT Try.prog Sy.S0 60 fRegs (regs0C A c []).args [] Sy.noB) rg0_o (rg0_R A c) := ⟨fun ns => by kernel_rfl, fun ns => by kernel_rfl⟩
def kpc_o : Sy.O := (Sy.O.steps [0, 1, 0] (Sy.O.fork Sy.O.nil Sy.O.nil))
noncomputable def kpc_R (k : Int) (e : Int) (xs : List Int) (ys : List Int) (ns : Nat → Sy.Let) : Sy.Res (Value × List Blk) := Sy.Res.need ((List.length xs = (34 : Nat) ∧ List.length ys = (34 : Nat)) ∧ (0 : Int) ≤ k ∧ k < (5 : Int))
 (Sy.Res.both
 (Sy.Res.hyp
 (∀ (i : Nat),
 i < (31 : Nat) →
 List.getD xs i (0 : Int) ≠ List.getD ys i (0 : Int) →
 ¬((↑i : Int) < (24 : Int) + k ∨ (29 : Int) ≤ (↑i : Int) ∧ e ≤ (↑i : Int)))
 (Sy.Res.leaf (Value.bool true, [])))
 (Sy.Res.hyp (keptP xs ys k e → False) (Sy.Res.leaf (Value.bool false, []))))
theorem kpc_run (k e : Int) (xs ys : List Int) : Sy.Ran (Sy.inT Try.prog (ctxKp k e xs ys) 60 fKept (keptC k e xs ys).args [] Sy.noB) kpc_o (kpc_R k e xs ys) := ⟨fun ns => by kernel_rfl, fun ns => by kernel_rfl⟩

theorem regsC_met (g o c m : Nat) (l xs : List Int) : Sy.Meets Try.prog (regsC g o c m l xs) := by
  have HS : (ctxRg g o c m l).holds Try.prog := Sy.mkS_holds (fun _ h => (by cases h)) (fun p hp a L => by
    rcases List.mem_singleton.1 hp with rfl
    exact loopRg_met _ _ _ _ _ _ _) (fun _ h => (by cases h))
  refine Sy.meets_of HS mixed (rgc_run g o c m l) fun hok ns => ?_
  obtain ⟨hl, rfl⟩ : l.length = m + 1 ∧ xs = regsAt l m 31 := hok
  simp only [rgc_R, Sy.Res.holds]
  exact ⟨hl, fun _ => Sy.plainO_leaf (List.mem_singleton_self _) rfl rfl⟩
theorem regs0C_met (A : Option Addr) (c : Nat) (xs : List Int) : Sy.Meets Try.prog (regs0C A c xs) := by
  refine Sy.meets_of Sy.S0_holds mixed (rg0_run A c) fun hok ns => ?_
  have hx : xs = zerosR := hok
  subst hx
  exact Sy.plainO_leaf (List.mem_singleton_self _) rfl rfl
theorem keptC_met (k e : Int) (xs ys : List Int) : Sy.Meets Try.prog (keptC k e xs ys) := by
  have HS : (ctxKp k e xs ys).holds Try.prog := Sy.mkS_holds (fun _ h => (by cases h)) (fun p hp a L => by
    rcases List.mem_singleton.1 hp with rfl
    exact loopKp_met _ _ _ _ _ _) (fun _ h => (by cases h))
  refine Sy.meets_of HS mixed (kpc_run k e xs ys) fun hok ns => ?_
  simp only [kpc_R, Sy.Res.holds]
  exact ⟨hok, fun h => Sy.plainO_leaf (List.mem_singleton_self _) rfl (by rw [tru_pos (show keptP xs ys k e from h)]), fun h => Sy.plainO_leaf (List.mem_singleton_self _) rfl (by rw [tru_neg (show ¬ keptP xs ys k e from h)])⟩

end Go.Proofs.Ytgaejhhipnpopaa
