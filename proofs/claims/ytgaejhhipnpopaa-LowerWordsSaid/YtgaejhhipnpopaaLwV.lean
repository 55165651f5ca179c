/-
  The reference's Expression and May: the calls; its needs: the loop.
-/
import Derived.Test.YtgaejhhipnpopaaLwZ
namespace Go.Proofs.Ytgaejhhipnpopaa
set_option linter.unusedVariables false
set_option linter.unusedSimpArgs false
open Go Go.RowKit
open Sy (Let Blk)

noncomputable def rxC (g o c : Nat) (l : List Nd) (loc : Int) : Sy.CallC := ⟨fRX, #[.slice (some ⟨g, o, none⟩) l.length c, .int .i64 loc], (0 ≤ loc ∧ loc ≤ 1000 ∧ goodN l) ∧ 0 < l.length, ⟨[(g, .seg o (ndCells l))], [], 0⟩, [Sy.plainO (.bool (tru (isExpr loc l)))]⟩
noncomputable def ctxRX (g o c : Nat) (l : List Nd) (loc : Int) : Sy.Ctx := Sy.mkS [] [(fRX, fun a _ => loopZ1 g o c (Sy.ptrN (a.get 5)) l loc), (fRX, fun a _ => loopZ2 g o c (Sy.ptrN (a.get 5)) l loc)] []
def rx_o : Sy.O := (Sy.O.steps [1] (Sy.O.fork Sy.O.nil (Sy.O.steps [1, 1, 0, 1, 0] (Sy.O.fork (Sy.O.steps [1, 0] (Sy.O.fork Sy.O.nil Sy.O.nil)) Sy.O.nil))))
noncomputable def rx_R (g : Nat) (o : Nat) (c : Nat) (l : List Nd) (loc : Int) (ns : Nat → Sy.Let) : Sy.Res (Value × List Blk) := Sy.Res.br (bif Ex.eqQ (↑(List.length l) : Int) (0 : Int) then true else Ex.ltQ (65536 : Int) (↑(List.length l) : Int))
 (Sy.Res.leaf (Value.bool false, []))
 (Sy.Res.need
 ((0 : Int) ≤ Int.ofNat (List.length l) ∧
 Int.toNat (Int.ofNat (List.length l)) * (1 : Nat) ≤ (281474976710656 : Nat) ∧
 Int.toNat (Int.ofNat (List.length l)) ≤ (9223372036854775807 : Nat))
 (Sy.Res.need (((0 : Int) ≤ loc ∧ loc ≤ (1000 : Int) ∧ goodN l) ∧ List.length l ≤ (65536 : Nat))
 (Sy.Res.both
 (Sy.Res.hyp (nodesOk loc l ∧ List.Pairwise (fun (x1 x2 : Nat) => x1 ≠ x2) (refs l))
 (Sy.Res.need (((0 : Nat) < List.length l ∧ treeOk loc l) ∧ List.length l ≤ (65536 : Nat))
 (Sy.Res.both
 (Sy.Res.hyp
 (∀ (j : Nat),
 j < List.length l →
 List.countP.go (fun (x : Nat) => x == j) (refs l) (0 : Nat) =
 if j + (1 : Nat) < List.length l then (1 : Nat) else (0 : Nat))
 (Sy.Res.leaf (Value.bool true, [])))
 (Sy.Res.hyp (onceOk l → False) (Sy.Res.leaf (Value.bool false, []))))))
 (Sy.Res.hyp (treeOk loc l → False) (Sy.Res.leaf (Value.bool false, []))))))
theorem rx_run (g o c : Nat) (l : List Nd) (loc : Int) : Sy.Ran (Sy.inT Try.prog (ctxRX g o c l loc) 50 fRX (rxC g o c l loc).args (Sy.blks (rxC g o c l loc).mem) Sy.noB) rx_o (rx_R g o c l loc) := ⟨fun ns => by kernel_rfl, fun ns => by kernel_rfl⟩

theorem ctxRX_holds (g o c : Nat) (l : List Nd) (loc : Int) : (ctxRX g o c l loc).holds Try.prog := Sy.mkS_holds (fun _ h => (by cases h)) (fun p hp a L => by
  rcases List.mem_cons.1 hp with rfl | hp
  · exact loopZ1_met _ _ _ _ _ _
  rcases List.mem_singleton.1 hp with rfl
  exact loopZ2_met _ _ _ _ _ _) (fun _ h => (by cases h))

theorem rxC_met (g o c : Nat) (l : List Nd) (loc : Int) : Sy.Meets Try.prog (rxC g o c l loc) := by
  refine Sy.meets_of (ctxRX_holds g o c l loc) mixed (rx_run g o c l loc) fun hok ns => ?_
  obtain ⟨h1, h2⟩ : (0 ≤ loc ∧ loc ≤ 1000 ∧ goodN l) ∧ 0 < l.length := hok
  simp only [rx_R, Sy.Res.holds, Sy.b_and, Sy.b_or, Sy.b_not, Sy.b_f, Sy.b_and', Sy.b_or', Sy.q_lt, Sy.q_le, Sy.q_eq, Sy.b_tt, Sy.b_ft, not_true_eq_false, not_false_eq_true]
  refine ⟨fun h => Sy.plainO_leaf (List.mem_singleton_self _) rfl ?_, fun h => ⟨⟨Int.natCast_nonneg _, ?_, ?_⟩, ⟨h1, by omega⟩, fun hT => ⟨⟨⟨h2, hT⟩, by omega⟩, fun ho => Sy.plainO_leaf (List.mem_singleton_self _) rfl ?_, fun ho => Sy.plainO_leaf (List.mem_singleton_self _) rfl ?_⟩, fun hT => Sy.plainO_leaf (List.mem_singleton_self _) rfl ?_⟩⟩
  · rw [tru_neg fun he => by have := he.2.2.1; omega]
  · show l.length * 1 ≤ _
    omega
  · show l.length ≤ _
    omega
  · rw [tru_pos (p := isExpr loc l) ⟨hT.1, h2, by omega, ho⟩]
  · rw [tru_neg fun he => ho he.2.2.2]
  · rw [tru_neg fun he => hT ⟨he.1, refs_nodup he.1 he.2.2.2⟩]

/-- Of no nodes. -/
def rxC0 (A : Option Addr) (c : Nat) (loc : Int) : Sy.CallC := Sy.plainC fRX #[.slice A 0 c, .int .i64 loc] (.bool false)
def rx0_o : Sy.O := (Sy.O.steps [0, 0, 0, 0, 0, 0, 0] Sy.O.nil)
noncomputable def rx0_R (A : Option Addr) (c : Nat) (loc : Int) (ns : Nat → Sy.Let) : Sy.Res (Value × List Blk) := Sy.Res.leaf (Value.bool false, [])
theorem rx0_run (A : Option Addr) (c : Nat) (loc : Int) : Sy.Ran (Sy.inT Try.prog Sy.S0 50 fRX (rxC0 A c loc).args [] Sy.noB) rx0_o (rx0_R A c loc) := ⟨fun ns => by kernel_rfl, fun ns => by kernel_rfl⟩
theorem rxC0_met (A : Option Addr) (c : Nat) (loc : Int) : Sy.Meets Try.prog (rxC0 A c loc) :=
  Sy.meets_of Sy.S0_holds mixed (rx0_run A c loc) fun _ _ => Sy.plainO_leaf (List.mem_singleton_self _) rfl rfl

abbrev fRN : FuncId := 36
noncomputable def bodyV : Code := Sy.loopBody Try.f36 0
/-- What the first k of n nodes need. -/
noncomputable def needV (l : List Nd) (k : Nat) : List Value := (List.range l.length).map fun j => Value.int .i64 (if j < k then ((tr l j).needs : Int) else 0)
def slV (g o c gu n k : Nat) : List (Nat × Value) := [(0, .slice (some ⟨g, o, none⟩) n c), (2, .int .i64 0), (3, .slice (some ⟨gu, 0, none⟩) n n), (4, .int .i64 k)]
def v1_o : Sy.O := (Sy.O.fork (Sy.O.steps [1, 0, 1, 1, 1, 1, 1, 1, 0, 0, 0, 1, 2, 0, 1, 0, 0] (Sy.O.fork (Sy.O.steps [0, 0, 1, 2, 1, 1, 1, 1, 2, 0, 1, 0, 0, 1, 0, 0, 2, 3, 4] (Sy.O.fork (Sy.O.steps [5, 0, 6, 0, 0, 0, 7, 0, 1, 8, 0, 2, 1, 1, 1, 9, 0, 10, 0, 11, 0, 12, 0, 1, 13, 0, 2, 1, 1, 1, 14, 0, 15] (Sy.O.fork (Sy.O.steps [0, 0, 1, 2, 1, 1, 1, 1, 2, 0, 1] Sy.O.nil) Sy.O.nil)) (Sy.O.steps [5, 0, 6, 0, 7, 0, 8, 0, 9, 0, 10, 0, 11, 0, 12, 0, 13, 0, 14, 0, 15, 0] Sy.O.nil))) (Sy.O.steps [0, 0, 1, 0, 0, 2, 3, 4] (Sy.O.fork (Sy.O.steps [5, 0, 6, 0, 0, 0, 7, 0, 1, 8, 0, 2, 1, 1, 1, 9, 0, 10, 0, 11, 0, 12, 0, 1, 13, 0, 2, 1, 1, 1, 14, 0, 15] (Sy.O.fork (Sy.O.steps [0, 0, 1, 2, 1, 1, 1, 1, 2, 0, 1] Sy.O.nil) Sy.O.nil)) (Sy.O.steps [5, 0, 6, 0, 7, 0, 8, 0, 9, 0, 10, 0, 11, 0, 12, 0, 13, 0, 14, 0, 15, 0] Sy.O.nil))))) Sy.O.nil)
noncomputable def v1_R (g : Nat) (o : Nat) (c : Nat) (gu : Nat) (n : Nat) (k : Nat) (xs : List Value) (us : List Value) (rest : List Value) (ns : Nat → Sy.Let) : Sy.Res (Exit × Nat × List Value × List Blk) := Sy.Res.br (Ex.ltQ (↑k : Int) (↑n : Int))
 (Sy.Res.need ((0 : Int) ≤ (↑k : Int) ∧ (↑k : Int) < (↑n : Int))
 (Sy.Res.need
 (∃ (i : Int),
 Sy.Cont.at (Sy.Cont.seg o xs) (o + Int.toNat (↑k : Int) * (4 : Nat)) = some (Value.int IntKind.i64 i))
 (Sy.Res.hyp
 (Sy.Cont.at (Sy.Cont.seg o xs) (o + Int.toNat (↑k : Int) * (4 : Nat)) =
 some (Value.int IntKind.i64 (Let.i (ns (0 : Nat)))))
 (Sy.Res.need
 (∃ (i : Int),
 Sy.Cont.at (Sy.Cont.seg o xs) (o + Int.toNat (↑k : Int) * (4 : Nat) + (1 : Nat)) =
 some (Value.int IntKind.u64 i))
 (Sy.Res.hyp
 (Sy.Cont.at (Sy.Cont.seg o xs) (o + Int.toNat (↑k : Int) * (4 : Nat) + (1 : Nat)) =
 some (Value.int IntKind.u64 (Let.i (ns (1 : Nat)))))
 (Sy.Res.need
 (∃ (i : Int),
 Sy.Cont.at (Sy.Cont.seg o xs) (o + Int.toNat (↑k : Int) * (4 : Nat) + (1 : Nat) + (1 : Nat)) =
 some (Value.int IntKind.i64 i))
 (Sy.Res.hyp
 (Sy.Cont.at (Sy.Cont.seg o xs) (o + Int.toNat (↑k : Int) * (4 : Nat) + (1 : Nat) + (1 : Nat)) =
 some (Value.int IntKind.i64 (Let.i (ns (2 : Nat)))))
 (Sy.Res.need
 (∃ (i : Int),
 Sy.Cont.at (Sy.Cont.seg o xs)
 (o + Int.toNat (↑k : Int) * (4 : Nat) + (1 : Nat) + (1 : Nat) + (1 : Nat)) =
 some (Value.int IntKind.i64 i))
 (Sy.Res.hyp
 (Sy.Cont.at (Sy.Cont.seg o xs)
 (o + Int.toNat (↑k : Int) * (4 : Nat) + (1 : Nat) + (1 : Nat) + (1 : Nat)) =
 some (Value.int IntKind.i64 (Let.i (ns (3 : Nat)))))
 (Sy.Res.need ((0 : Int) ≤ (↑k : Int) ∧ (↑k : Int) < (↑n : Int))
 (Sy.Res.need ((0 : Nat) + Int.toNat (↑k : Int) * (1 : Nat) < List.length us)
 (Sy.Res.br (Ex.leQ (3 : Int) (Let.i (ns (0 : Nat))))
 (Sy.Res.need ((0 : Int) ≤ Let.i (ns (2 : Nat)) ∧ Let.i (ns (2 : Nat)) < (↑n : Int))
 (Sy.Res.need
 (∃ (i : Int),
 Sy.Cont.at
 (Sy.Cont.row (3 : Nat) (1 : Nat) n n
 (List.set us ((0 : Nat) + Int.toNat (↑k : Int) * (1 : Nat))
 (Value.int IntKind.i64 (1 : Int))))
 ((0 : Nat) + Int.toNat (Let.i (ns (2 : Nat))) * (1 : Nat)) =
 some (Value.int IntKind.i64 i))
 (Sy.Res.hyp
 (Sy.Cont.at
 (Sy.Cont.row (3 : Nat) (1 : Nat) n n
 (List.set us ((0 : Nat) + Int.toNat (↑k : Int) * (1 : Nat))
 (Value.int IntKind.i64 (1 : Int))))
 ((0 : Nat) + Int.toNat (Let.i (ns (2 : Nat))) * (1 : Nat)) =
 some (Value.int IntKind.i64 (Let.i (ns (5 : Nat)))))
 (Sy.Res.need ((0 : Int) ≤ (↑k : Int) ∧ (↑k : Int) < (↑n : Int))
 (Sy.Res.need
 ((0 : Nat) + Int.toNat (↑k : Int) * (1 : Nat) <
 List.length
 (List.set us ((0 : Nat) + Int.toNat (↑k : Int) * (1 : Nat))
 (Value.int IntKind.i64 (1 : Int))))
 (Sy.Res.br (Ex.leQ (6 : Int) (Let.i (ns (0 : Nat))))
 (Sy.Res.need
 ((0 : Int) ≤ Let.i (ns (3 : Nat)) ∧ Let.i (ns (3 : Nat)) < (↑n : Int))
 (Sy.Res.need
 (∃ (i : Int),
 Sy.Cont.at
 (Sy.Cont.row (3 : Nat) (1 : Nat) n n
 (List.set
 (List.set us ((0 : Nat) + Int.toNat (↑k : Int) * (1 : Nat))
 (Value.int IntKind.i64 (1 : Int)))
 ((0 : Nat) + Int.toNat (↑k : Int) * (1 : Nat))
 (Value.int IntKind.i64 (Let.i (ns (5 : Nat))))))
 ((0 : Nat) + Int.toNat (Let.i (ns (3 : Nat))) * (1 : Nat)) =
 some (Value.int IntKind.i64 i))
 (Sy.Res.hyp
 (Sy.Cont.at
 (Sy.Cont.row (3 : Nat) (1 : Nat) n n
 (List.set
 (List.set us ((0 : Nat) + Int.toNat (↑k : Int) * (1 : Nat))
 (Value.int IntKind.i64 (1 : Int)))
 ((0 : Nat) + Int.toNat (↑k : Int) * (1 : Nat))
 (Value.int IntKind.i64 (Let.i (ns (5 : Nat))))))
 ((0 : Nat) + Int.toNat (Let.i (ns (3 : Nat))) * (1 : Nat)) =
 some (Value.int IntKind.i64 (Let.i (ns (6 : Nat)))))
 (Sy.Res.need ((0 : Int) ≤ (↑k : Int) ∧ (↑k : Int) < (↑n : Int))
 (Sy.Res.need
 (∃ (i : Int),
 Sy.Cont.at
 (Sy.Cont.row (3 : Nat) (1 : Nat) n n
 (List.set
 (List.set us ((0 : Nat) + Int.toNat (↑k : Int) * (1 : Nat))
 (Value.int IntKind.i64 (1 : Int)))
 ((0 : Nat) + Int.toNat (↑k : Int) * (1 : Nat))
 (Value.int IntKind.i64 (Let.i (ns (5 : Nat))))))
 ((0 : Nat) + Int.toNat (↑k : Int) * (1 : Nat)) =
 some (Value.int IntKind.i64 i))
 (Sy.Res.hyp
 (Sy.Cont.at
 (Sy.Cont.row (3 : Nat) (1 : Nat) n n
 (List.set
 (List.set us ((0 : Nat) + Int.toNat (↑k : Int) * (1 : Nat))
 (Value.int IntKind.i64 (1 : Int)))
 ((0 : Nat) + Int.toNat (↑k : Int) * (1 : Nat))
 (Value.int IntKind.i64 (Let.i (ns (5 : Nat))))))
 ((0 : Nat) + Int.toNat (↑k : Int) * (1 : Nat)) =
 some (Value.int IntKind.i64 (Let.i (ns (7 : Nat)))))
 (Sy.Res.br
 (bif true then
 Ex.ltQ (Let.i (ns (7 : Nat)))
 (Ex.wrapQ IntKind.i64
 (Ex.addQ (Let.i (ns (6 : Nat))) (1 : Int)))
 else false)
 (Sy.Res.need
 ((0 : Int) ≤ Let.i (ns (3 : Nat)) ∧
 Let.i (ns (3 : Nat)) < (↑n : Int))
 (Sy.Res.need
 (∃ (i : Int),
 Sy.Cont.at
 (Sy.Cont.row (3 : Nat) (1 : Nat) n n
 (List.set
 (List.set us
 ((0 : Nat) + Int.toNat (↑k : Int) * (1 : Nat))
 (Value.int IntKind.i64 (1 : Int)))
 ((0 : Nat) + Int.toNat (↑k : Int) * (1 : Nat))
 (Value.int IntKind.i64 (Let.i (ns (5 : Nat))))))
 ((0 : Nat) +
 Int.toNat (Let.i (ns (3 : Nat))) * (1 : Nat)) =
 some (Value.int IntKind.i64 i))
 (Sy.Res.hyp
 (Sy.Cont.at
 (Sy.Cont.row (3 : Nat) (1 : Nat) n n
 (List.set
 (List.set us
 ((0 : Nat) + Int.toNat (↑k : Int) * (1 : Nat))
 (Value.int IntKind.i64 (1 : Int)))
 ((0 : Nat) + Int.toNat (↑k : Int) * (1 : Nat))
 (Value.int IntKind.i64 (Let.i (ns (5 : Nat))))))
 ((0 : Nat) +
 Int.toNat (Let.i (ns (3 : Nat))) * (1 : Nat)) =
 some (Value.int IntKind.i64 (Let.i (ns (8 : Nat)))))
 (Sy.Res.need
 ((0 : Int) ≤ (↑k : Int) ∧ (↑k : Int) < (↑n : Int))
 (Sy.Res.need
 ((0 : Nat) + Int.toNat (↑k : Int) * (1 : Nat) <
 List.length
 (List.set
 (List.set us
 ((0 : Nat) + Int.toNat (↑k : Int) * (1 : Nat))
 (Value.int IntKind.i64 (1 : Int)))
 ((0 : Nat) + Int.toNat (↑k : Int) * (1 : Nat))
 (Value.int IntKind.i64 (Let.i (ns (5 : Nat))))))
 (Sy.Res.leaf
 (Exit.normal, (64 : Nat),
 [Value.slice (some (Addr.mk g o none)) n c,
 Value.int IntKind.i64 (0 : Int),
 Value.slice (some (Addr.mk gu (0 : Nat) none)) n n,
 Value.int IntKind.i64
 (Ex.wrapQ IntKind.i64
 (Ex.addQ (↑k : Int) (1 : Int)))],
 [Blk.mk (Let.n (ns (4 : Nat)))
 (Sy.Cont.obj
 (Obj.cells
 (Array.mk
 [Value.int IntKind.i64
 (Let.i (ns (0 : Nat))),
 Value.int IntKind.u64
 (Let.i (ns (1 : Nat))),
 Value.int IntKind.i64
 (Let.i (ns (2 : Nat))),
 Value.int IntKind.i64
 (Let.i (ns (3 : Nat)))])
 (33 : Nat)))
 true,
 Blk.mk g (Sy.Cont.seg o xs) false,
 Blk.mk gu
 (Sy.Cont.row (3 : Nat) (1 : Nat) n n
 (List.set
 (List.set
 (List.set us
 ((0 : Nat) +
 Int.toNat (↑k : Int) * (1 : Nat))
 (Value.int IntKind.i64 (1 : Int)))
 ((0 : Nat) +
 Int.toNat (↑k : Int) * (1 : Nat))
 (Value.int IntKind.i64
 (Let.i (ns (5 : Nat)))))
 ((0 : Nat) + Int.toNat (↑k : Int) * (1 : Nat))
 (Value.int IntKind.i64
 (Ex.wrapQ IntKind.i64
 (Ex.addQ (Let.i (ns (8 : Nat)))
 (1 : Int))))))
 true])))))))
 (Sy.Res.leaf
 (Exit.normal, (64 : Nat),
 [Value.slice (some (Addr.mk g o none)) n c,
 Value.int IntKind.i64 (0 : Int),
 Value.slice (some (Addr.mk gu (0 : Nat) none)) n n,
 Value.int IntKind.i64
 (Ex.wrapQ IntKind.i64 (Ex.addQ (↑k : Int) (1 : Int)))],
 [Blk.mk (Let.n (ns (4 : Nat)))
 (Sy.Cont.obj
 (Obj.cells
 (Array.mk
 [Value.int IntKind.i64 (Let.i (ns (0 : Nat))),
 Value.int IntKind.u64 (Let.i (ns (1 : Nat))),
 Value.int IntKind.i64 (Let.i (ns (2 : Nat))),
 Value.int IntKind.i64 (Let.i (ns (3 : Nat)))])
 (33 : Nat)))
 true,
 Blk.mk g (Sy.Cont.seg o xs) false,
 Blk.mk gu
 (Sy.Cont.row (3 : Nat) (1 : Nat) n n
 (List.set
 (List.set us
 ((0 : Nat) + Int.toNat (↑k : Int) * (1 : Nat))
 (Value.int IntKind.i64 (1 : Int)))
 ((0 : Nat) + Int.toNat (↑k : Int) * (1 : Nat))
 (Value.int IntKind.i64 (Let.i (ns (5 : Nat))))))
 true])))))))))
 (Sy.Res.leaf
 (Exit.normal, (64 : Nat),
 [Value.slice (some (Addr.mk g o none)) n c, Value.int IntKind.i64 (0 : Int),
 Value.slice (some (Addr.mk gu (0 : Nat) none)) n n,
 Value.int IntKind.i64
 (Ex.wrapQ IntKind.i64 (Ex.addQ (↑k : Int) (1 : Int)))],
 [Blk.mk (Let.n (ns (4 : Nat)))
 (Sy.Cont.obj
 (Obj.cells
 (Array.mk
 [Value.int IntKind.i64 (Let.i (ns (0 : Nat))),
 Value.int IntKind.u64 (Let.i (ns (1 : Nat))),
 Value.int IntKind.i64 (Let.i (ns (2 : Nat))),
 Value.int IntKind.i64 (Let.i (ns (3 : Nat)))])
 (33 : Nat)))
 true,
 Blk.mk g (Sy.Cont.seg o xs) false,
 Blk.mk gu
 (Sy.Cont.row (3 : Nat) (1 : Nat) n n
 (List.set
 (List.set us ((0 : Nat) + Int.toNat (↑k : Int) * (1 : Nat))
 (Value.int IntKind.i64 (1 : Int)))
 ((0 : Nat) + Int.toNat (↑k : Int) * (1 : Nat))
 (Value.int IntKind.i64 (Let.i (ns (5 : Nat))))))
 true]))))))))
 (Sy.Res.br (Ex.leQ (6 : Int) (Let.i (ns (0 : Nat))))
 (Sy.Res.need ((0 : Int) ≤ Let.i (ns (3 : Nat)) ∧ Let.i (ns (3 : Nat)) < (↑n : Int))
 (Sy.Res.need
 (∃ (i : Int),
 Sy.Cont.at
 (Sy.Cont.row (3 : Nat) (1 : Nat) n n
 (List.set us ((0 : Nat) + Int.toNat (↑k : Int) * (1 : Nat))
 (Value.int IntKind.i64 (1 : Int))))
 ((0 : Nat) + Int.toNat (Let.i (ns (3 : Nat))) * (1 : Nat)) =
 some (Value.int IntKind.i64 i))
 (Sy.Res.hyp
 (Sy.Cont.at
 (Sy.Cont.row (3 : Nat) (1 : Nat) n n
 (List.set us ((0 : Nat) + Int.toNat (↑k : Int) * (1 : Nat))
 (Value.int IntKind.i64 (1 : Int))))
 ((0 : Nat) + Int.toNat (Let.i (ns (3 : Nat))) * (1 : Nat)) =
 some (Value.int IntKind.i64 (Let.i (ns (5 : Nat)))))
 (Sy.Res.need ((0 : Int) ≤ (↑k : Int) ∧ (↑k : Int) < (↑n : Int))
 (Sy.Res.need
 (∃ (i : Int),
 Sy.Cont.at
 (Sy.Cont.row (3 : Nat) (1 : Nat) n n
 (List.set us ((0 : Nat) + Int.toNat (↑k : Int) * (1 : Nat))
 (Value.int IntKind.i64 (1 : Int))))
 ((0 : Nat) + Int.toNat (↑k : Int) * (1 : Nat)) =
 some (Value.int IntKind.i64 i))
 (Sy.Res.hyp
 (Sy.Cont.at
 (Sy.Cont.row (3 : Nat) (1 : Nat) n n
 (List.set us ((0 : Nat) + Int.toNat (↑k : Int) * (1 : Nat))
 (Value.int IntKind.i64 (1 : Int))))
 ((0 : Nat) + Int.toNat (↑k : Int) * (1 : Nat)) =
 some (Value.int IntKind.i64 (Let.i (ns (6 : Nat)))))
 (Sy.Res.br
 (bif true then
 Ex.ltQ (Let.i (ns (6 : Nat)))
 (Ex.wrapQ IntKind.i64 (Ex.addQ (Let.i (ns (5 : Nat))) (1 : Int)))
 else false)
 (Sy.Res.need
 ((0 : Int) ≤ Let.i (ns (3 : Nat)) ∧ Let.i (ns (3 : Nat)) < (↑n : Int))
 (Sy.Res.need
 (∃ (i : Int),
 Sy.Cont.at
 (Sy.Cont.row (3 : Nat) (1 : Nat) n n
 (List.set us ((0 : Nat) + Int.toNat (↑k : Int) * (1 : Nat))
 (Value.int IntKind.i64 (1 : Int))))
 ((0 : Nat) + Int.toNat (Let.i (ns (3 : Nat))) * (1 : Nat)) =
 some (Value.int IntKind.i64 i))
 (Sy.Res.hyp
 (Sy.Cont.at
 (Sy.Cont.row (3 : Nat) (1 : Nat) n n
 (List.set us ((0 : Nat) + Int.toNat (↑k : Int) * (1 : Nat))
 (Value.int IntKind.i64 (1 : Int))))
 ((0 : Nat) + Int.toNat (Let.i (ns (3 : Nat))) * (1 : Nat)) =
 some (Value.int IntKind.i64 (Let.i (ns (7 : Nat)))))
 (Sy.Res.need ((0 : Int) ≤ (↑k : Int) ∧ (↑k : Int) < (↑n : Int))
 (Sy.Res.need
 ((0 : Nat) + Int.toNat (↑k : Int) * (1 : Nat) <
 List.length
 (List.set us ((0 : Nat) + Int.toNat (↑k : Int) * (1 : Nat))
 (Value.int IntKind.i64 (1 : Int))))
 (Sy.Res.leaf
 (Exit.normal, (64 : Nat),
 [Value.slice (some (Addr.mk g o none)) n c,
 Value.int IntKind.i64 (0 : Int),
 Value.slice (some (Addr.mk gu (0 : Nat) none)) n n,
 Value.int IntKind.i64
 (Ex.wrapQ IntKind.i64 (Ex.addQ (↑k : Int) (1 : Int)))],
 [Blk.mk (Let.n (ns (4 : Nat)))
 (Sy.Cont.obj
 (Obj.cells
 (Array.mk
 [Value.int IntKind.i64 (Let.i (ns (0 : Nat))),
 Value.int IntKind.u64 (Let.i (ns (1 : Nat))),
 Value.int IntKind.i64 (Let.i (ns (2 : Nat))),
 Value.int IntKind.i64 (Let.i (ns (3 : Nat)))])
 (33 : Nat)))
 true,
 Blk.mk g (Sy.Cont.seg o xs) false,
 Blk.mk gu
 (Sy.Cont.row (3 : Nat) (1 : Nat) n n
 (List.set
 (List.set us
 ((0 : Nat) + Int.toNat (↑k : Int) * (1 : Nat))
 (Value.int IntKind.i64 (1 : Int)))
 ((0 : Nat) + Int.toNat (↑k : Int) * (1 : Nat))
 (Value.int IntKind.i64
 (Ex.wrapQ IntKind.i64
 (Ex.addQ (Let.i (ns (7 : Nat))) (1 : Int))))))
 true])))))))
 (Sy.Res.leaf
 (Exit.normal, (64 : Nat),
 [Value.slice (some (Addr.mk g o none)) n c,
 Value.int IntKind.i64 (0 : Int),
 Value.slice (some (Addr.mk gu (0 : Nat) none)) n n,
 Value.int IntKind.i64
 (Ex.wrapQ IntKind.i64 (Ex.addQ (↑k : Int) (1 : Int)))],
 [Blk.mk (Let.n (ns (4 : Nat)))
 (Sy.Cont.obj
 (Obj.cells
 (Array.mk
 [Value.int IntKind.i64 (Let.i (ns (0 : Nat))),
 Value.int IntKind.u64 (Let.i (ns (1 : Nat))),
 Value.int IntKind.i64 (Let.i (ns (2 : Nat))),
 Value.int IntKind.i64 (Let.i (ns (3 : Nat)))])
 (33 : Nat)))
 true,
 Blk.mk g (Sy.Cont.seg o xs) false,
 Blk.mk gu
 (Sy.Cont.row (3 : Nat) (1 : Nat) n n
 (List.set us ((0 : Nat) + Int.toNat (↑k : Int) * (1 : Nat))
 (Value.int IntKind.i64 (1 : Int))))
 true])))))))))
 (Sy.Res.leaf
 (Exit.normal, (64 : Nat),
 [Value.slice (some (Addr.mk g o none)) n c, Value.int IntKind.i64 (0 : Int),
 Value.slice (some (Addr.mk gu (0 : Nat) none)) n n,
 Value.int IntKind.i64 (Ex.wrapQ IntKind.i64 (Ex.addQ (↑k : Int) (1 : Int)))],
 [Blk.mk (Let.n (ns (4 : Nat)))
 (Sy.Cont.obj
 (Obj.cells
 (Array.mk
 [Value.int IntKind.i64 (Let.i (ns (0 : Nat))),
 Value.int IntKind.u64 (Let.i (ns (1 : Nat))),
 Value.int IntKind.i64 (Let.i (ns (2 : Nat))),
 Value.int IntKind.i64 (Let.i (ns (3 : Nat)))])
 (33 : Nat)))
 true,
 Blk.mk g (Sy.Cont.seg o xs) false,
 Blk.mk gu
 (Sy.Cont.row (3 : Nat) (1 : Nat) n n
 (List.set us ((0 : Nat) + Int.toNat (↑k : Int) * (1 : Nat))
 (Value.int IntKind.i64 (1 : Int))))
 true])))))))))))))))
 (Sy.Res.leaf
 (Exit.exit (0 : Nat), (64 : Nat),
 [Value.slice (some (Addr.mk g o none)) n c, Value.int IntKind.i64 (0 : Int),
 Value.slice (some (Addr.mk gu (0 : Nat) none)) n n, Value.int IntKind.i64 (↑k : Int)],
 [Blk.mk g (Sy.Cont.seg o xs) false, Blk.mk gu (Sy.Cont.row (3 : Nat) (1 : Nat) n n us) true]))
theorem v1_run (g o c gu n k : Nat) (xs us : List Value) (rest : List Value) : Sy.Ran (Sy.pieceT Try.prog Sy.S0 50 fRN bodyV 64 (slV g o c gu n k) rest [⟨g, .seg o xs, false⟩, ⟨gu, .row tInt 1 n n us, true⟩] [0, 2, 3, 4]) v1_o (v1_R g o c gu n k xs us rest) := ⟨fun ns => by kernel_rfl, fun ns => by kernel_rfl⟩

theorem needV_length (l : List Nd) (k : Nat) : (needV l k).length = l.length := by simp [needV]
theorem needV_zero (l : List Nd) : needV l 0 = List.replicate l.length (.int .i64 0) := by
  apply List.ext_getElem
  · simp [needV]
  · intro i h1 h2
    simp [needV]
theorem needV_get {l : List Nd} {k a : Nat} (h : a < l.length) : (needV l k)[a]? = some (.int .i64 (if a < k then ((tr l a).needs : Int) else 0)) := by simp [needV, h]
theorem needV_at {l : List Nd} {k a : Nat} (hk : k ≤ l.length) (h : a < k) (v : Value) (e : TypeId) (s m c : Nat) : (Sy.Cont.row e s m c ((needV l k).set (0 + k * 1) v)).at (0 + a * 1) = some (.int .i64 (tr l a).needs) := by
  show ((needV l k).set (0 + k * 1) v)[0 + a * 1]? = _
  rw [Nat.zero_add, Nat.mul_one, Nat.zero_add, Nat.mul_one, List.getElem?_set, if_neg (by omega), needV_get (by omega), if_pos h]
theorem needV_self {l : List Nd} {k : Nat} (h : k < l.length) (v : Value) (e : TypeId) (s m c : Nat) : (Sy.Cont.row e s m c ((needV l k).set (0 + k * 1) v)).at (0 + k * 1) = some v := by
  show ((needV l k).set (0 + k * 1) v)[0 + k * 1]? = _
  rw [Nat.zero_add, Nat.mul_one, List.getElem?_set, if_pos rfl, needV_length, if_pos h]
theorem needV_set {l : List Nd} {k : Nat} (h : k < l.length) : (needV l k).set (0 + k * 1) (.int .i64 (tr l k).needs) = needV l (k + 1) := by
  rw [Nat.zero_add, Nat.mul_one]
  apply List.ext_getElem?
  intro j
  rw [List.getElem?_set]
  by_cases hj : j < l.length
  · rw [needV_get hj, needV_length]
    split
    · rename_i e
      subst e
      rw [needV_get hj, if_pos (by omega)]
    · rename_i e
      rw [needV_get hj]
      by_cases hjk : j < k
      · rw [if_pos hjk, if_pos (by omega)]
      · rw [if_neg hjk, if_neg (by omega)]
  · rw [List.getElem?_eq_none (by rw [needV_length]; omega), List.getElem?_eq_none (by rw [needV_length]; omega)]
    split
    · omega
    · rfl
theorem setN_length (l : List Nd) (k : Nat) (j : Nat) (v : Value) : ((needV l k).set j v).length = l.length := by rw [List.length_set, needV_length]

noncomputable def loopV (g o c gu : Nat) (l : List Nd) : Sy.LoopC :=
  ⟨.loop bodyV, 64, slV g o c gu l.length 0, isExpr 24 l, ⟨[(g, .seg o (ndCells l))], [(gu, .row tInt 1 l.length l.length (List.replicate l.length (.int .i64 0)))], 0⟩,
    [(⟨fun _ => True, fun _ => [(gu, .row tInt 1 l.length l.length (needV l l.length))]⟩, .exit 0, fun _ => [(0, .slice (some ⟨g, o, none⟩) l.length c), (2, .int .i64 0), (3, .slice (some ⟨gu, 0, none⟩) l.length l.length)])]⟩

theorem loopV_met (g o c gu : Nat) (l : List Nd) : Sy.MeetsL Try.prog (loopV g o c gu l) := by
  refine Sy.loop_of (n := 50) (fn := fRN) Sy.S0_holds mixed (body := bodyV) rfl [0, 2, 3, 4] (fun k : Nat => slV g o c gu l.length k) (fun k => [⟨g, .seg o (ndCells l), false⟩, ⟨gu, .row tInt 1 l.length l.length (needV l k), true⟩])
    (fun k => k ≤ l.length) (fun k => l.length - k)
    0 (fun h => Nat.zero_le _) (fun p hp => hp) [0, 1] (by decide) (by rw [needV_zero]; rfl) (o := fun _ => v1_o) (R := fun k xs => v1_R g o c gu l.length k (ndCells l) (needV l k) xs) (fun k xs _ => v1_run g o c gu l.length k (ndCells l) (needV l k) xs) ?_
  rintro hE k rest hk ns
  have hok := hE.1
  have hm := hE.2.2.1
  simp only [v1_R, Sy.Res.holds, Sy.b_and, Sy.b_or, Sy.b_not, Sy.b_f, Sy.b_and', Sy.b_or', Sy.q_lt, Sy.q_le, Sy.q_eq, Sy.b_tt, Sy.b_ft, not_true_eq_false, not_false_eq_true, List.set_set, Int.toNat_natCast, setN_length, needV_length]
  refine ⟨fun hlt => ?_, fun hge => ?_⟩
  · have hlt : k < l.length := by omega
    have ea : l[k]? = some l[k] := List.getElem?_eq_getElem hlt
    obtain ⟨a0, a1, a2, a3⟩ := nd_at ea o
    rw [Int.toNat_natCast] at a0 a1 a2 a3
    simp only [a0, a1, a2, a3, some_int, some_bool, exists_eq', true_and]
    generalize l[k] = x at *
    refine ⟨by omega, fun h0 h1 h2 h3 => ⟨by omega, by omega, ?_⟩⟩
    simp only [← h0, ← h1, ← h2, ← h3]
    have hx := hok k x ea
    have inc := Sy.inc_q k (by omega)
    have fin : ∀ B v, v = ((tr l k).needs : Int) → Sy.leafL (loopV g o c gu l) [0, 2, 3, 4] (fun k : Nat => slV g o c gu l.length k) (fun k => [⟨g, .seg o (ndCells l), false⟩, ⟨gu, .row tInt 1 l.length l.length (needV l k), true⟩])
        (fun k => k ≤ l.length) (fun k => l.length - k) k (Exit.normal, 64, [.slice (some ⟨g, o, none⟩) l.length c, .int .i64 0, .slice (some ⟨gu, 0, none⟩) l.length l.length, .int .i64 (Ex.wrapQ IntKind.i64 (Ex.addQ (↑k : Int) 1))],
          [B, ⟨g, .seg o (ndCells l), false⟩, ⟨gu, .row tInt 1 l.length l.length ((needV l k).set (0 + k * 1) (.int .i64 v)), true⟩]) := fun B v hv => by
      rw [hv, needV_set hlt]
      exact Sy.leafL_next (k + 1) rfl (show k + 1 ≤ l.length by omega) (by show l.length - (k + 1) < l.length - k; omega) (by rw [inc]; rfl) [1, 2] (by decide) rfl
    refine ⟨fun c3 => ?_, fun c3 => ⟨fun c6 => absurd c6 (by omega), fun _ => fin _ _ ?_⟩⟩
    · have ha := ok_a hx c3
      simp only [needV_at hk (show x.a.toNat < k by omega), needV_self hlt, some_int, some_bool, exists_eq', true_and]
      refine ⟨by omega, fun h5 => ⟨by omega, by omega, ?_⟩⟩
      rw [← h5]
      refine ⟨fun c6 => ?_, fun c6 => fin _ _ ?_⟩
      · have hb := ok_b hx c6
        simp only [needV_at hk (show x.b.toNat < k by omega), some_int, some_bool, exists_eq', true_and]
        have hbs := tr_small hE (i := x.b.toNat) (by omega)
        have hbn := (tr l x.b.toNat).needs_le
        refine ⟨by omega, fun h6 => ⟨by omega, fun h7 => ?_⟩⟩
        have hq := Sy.inc_q (tr l x.b.toNat).needs (by omega)
        rw [← h6, ← h7, hq]
        refine ⟨fun hc => ⟨by omega, fun h8 => ⟨by omega, by omega, ?_⟩⟩, fun hc => fin _ _ ?_⟩
        · rw [← h8, hq]
          refine fin _ _ ?_
          rw [tr_bin ea c6 (by omega) (by omega)]
          simp only [E.needs]
          omega
        · rw [tr_bin ea c6 (by omega) (by omega)]
          simp only [E.needs]
          omega
      · rw [tr_un ea c3 (by omega) (by omega)]; rfl
    · by_cases h1 : x.op ≤ 1
      · rw [tr_num ea h1]; rfl
      · rw [tr_loc ea (by omega)]; rfl
  · have hkl : k = l.length := by omega
    subst hkl
    exact Sy.leafL_end 0 rfl rfl (by simp) rfl [] rfl [0, 1, 2] rfl [1] (by decide) ⟨⟨rfl, rfl, .inl rfl⟩, trivial⟩ trivial

end Go.Proofs.Ytgaejhhipnpopaa
