/-
  Address, of both: explored.
-/
import Derived.Test.YtgaejhhipnpopaaLwQ
namespace Go.Proofs.Ytgaejhhipnpopaa
set_option linter.unusedVariables false
set_option linter.unusedSimpArgs false
open Go Go.RowKit
open Sy (Let Blk)

abbrev fPow : FuncId := 38
def isPow (n : Int) : Prop := n = 1 ∨ n = 2 ∨ n = 4 ∨ n = 8 ∨ n = 16 ∨ n = 32 ∨ n = 64 ∨ n = 128 ∨ n = 256 ∨ n = 512 ∨ n = 1024
noncomputable def pwC (n : Int) : Sy.CallC := ⟨fPow, #[.int .i64 n], True, ⟨[], [], 0⟩, [Sy.plainO (.bool (tru (isPow n)))]⟩
def pw_o : Sy.O := (Sy.O.steps [0] (Sy.O.fork Sy.O.nil (Sy.O.steps [0] (Sy.O.fork Sy.O.nil (Sy.O.steps [0] (Sy.O.fork Sy.O.nil (Sy.O.steps [0] (Sy.O.fork Sy.O.nil (Sy.O.steps [0] (Sy.O.fork Sy.O.nil (Sy.O.steps [0] (Sy.O.fork Sy.O.nil (Sy.O.steps [0] (Sy.O.fork Sy.O.nil (Sy.O.steps [0] (Sy.O.fork Sy.O.nil (Sy.O.steps [0] (Sy.O.fork Sy.O.nil (Sy.O.steps [0] (Sy.O.fork Sy.O.nil (Sy.O.steps [0] (Sy.O.fork Sy.O.nil (Sy.O.steps [0] Sy.O.nil)))))))))))))))))))))))
noncomputable def pw_R (n : Int) (ns : Nat → Sy.Let) : Sy.Res (Value × List Blk) := Sy.Res.br (Ex.eqQ (1 : Int) n) (Sy.Res.leaf (Value.bool true, []))
 (Sy.Res.br (Ex.eqQ (2 : Int) n) (Sy.Res.leaf (Value.bool true, []))
 (Sy.Res.br (Ex.eqQ (4 : Int) n) (Sy.Res.leaf (Value.bool true, []))
 (Sy.Res.br (Ex.eqQ (8 : Int) n) (Sy.Res.leaf (Value.bool true, []))
 (Sy.Res.br (Ex.eqQ (16 : Int) n) (Sy.Res.leaf (Value.bool true, []))
 (Sy.Res.br (Ex.eqQ (32 : Int) n) (Sy.Res.leaf (Value.bool true, []))
 (Sy.Res.br (Ex.eqQ (64 : Int) n) (Sy.Res.leaf (Value.bool true, []))
 (Sy.Res.br (Ex.eqQ (128 : Int) n) (Sy.Res.leaf (Value.bool true, []))
 (Sy.Res.br (Ex.eqQ (256 : Int) n) (Sy.Res.leaf (Value.bool true, []))
 (Sy.Res.br (Ex.eqQ (512 : Int) n) (Sy.Res.leaf (Value.bool true, []))
 (Sy.Res.br (Ex.eqQ (1024 : Int) n) (Sy.Res.leaf (Value.bool true, []))
 (Sy.Res.leaf (Value.bool false, []))))))))))))
theorem pw_run (n : Int) : Sy.Ran (Sy.inT Try.prog Sy.S0 60 fPow (pwC n).args [] Sy.noB) pw_o (pw_R n) := ⟨fun ns => by kernel_rfl, fun ns => by kernel_rfl⟩
theorem pwC_met (n : Int) : Sy.Meets Try.prog (pwC n) := by
  refine Sy.meets_of Sy.S0_holds mixed (pw_run n) fun hok ns => ?_
  simp only [pw_R, Sy.Res.holds, Sy.b_and, Sy.b_or, Sy.b_not, Sy.b_f, Sy.b_and', Sy.b_or', Sy.q_lt, Sy.q_le, Sy.q_eq, Sy.b_tt, Sy.b_ft, not_true_eq_false, not_false_eq_true]
  repeat' refine And.intro (fun h => ?_) (fun h => ?_)
  all_goals first
    | exact Sy.plainO_leaf (List.mem_singleton_self _) rfl (by rw [tru_pos (by unfold isPow; omega)])
    | exact Sy.plainO_leaf (List.mem_singleton_self _) rfl (by rw [tru_neg (by unfold isPow; omega)])

abbrev fAd : FuncId := 16
abbrev fRAd : FuncId := 21
noncomputable def Sy.tW (k : Int) : Int := Ex.wrapQ .i64 (Ex.addQ 24 k)
noncomputable def Sy.L1 (l : List Nd) (k : Int) : List I := lay (tr l (Int.toNat (Ex.wrapQ .i64 (Ex.subQ' (l.length : Int) 1)))) (Sy.tW k)
noncomputable def Sy.L2 (s k : Int) : List I := numL (Ex.wrapQ .i64 (Ex.addQ (Sy.tW k) 1)) (Ex.wrapQ .u64 (Ex.wrapQ .i64 (Ex.subQ' s 1)))
noncomputable def Sy.L3 (k : Int) : List Value := [.int .i64 5, .int .i64 (Sy.tW k), .int .i64 (Sy.tW k), .int .i64 (Ex.wrapQ .i64 (Ex.addQ (Sy.tW k) 1)), .int .i64 0, .int .i64 0, .int .i64 14, .int .i64 (Sy.tW k), .int .i64 (Sy.tW k), .int .i64 0, .int .i64 3, .int .i64 0]
noncomputable def ctxI (s k : Int) (g o c : Nat) (l : List Nd) : Sy.Ctx := Sy.mkS [(fMay, fun _ _ => mayC g o c l), (fNeeds, fun a _ => needsC g o c l 24 l.length (Sy.argI a 1)), (fExpr, fun a _ => exprC g o c l l.length (Sy.argI a 1) (Sy.argI a 2)),
  (fRX, fun a _ => rxC g o c l (Sy.argI a 1)), (fRN, fun _ _ => rnC g o c l), (fLay, fun a _ => rlay0 g o c l l.length (Sy.argI a 2) (Sy.argI a 3)), (28, fun a _ => numC (Sy.argI a 0) (Sy.argI a 1)),
  (fRNum, fun a _ => rnum0 (Sy.argI a 1) (Sy.argI a 2)), (fRNum, fun a _ => rnumA (Sy.ptrN (Sy.argV a 0)) (Sy.L1 l k).length (Sy.capN (Sy.argV a 0)) (insCells (Sy.L1 l k)) (Sy.argI a 1) (Sy.argI a 2)), (fRNum, fun a _ => rnumA (Sy.ptrN (Sy.argV a 0)) ((Sy.L1 l k).length + (Sy.L2 s k).length + 2) (Sy.capN (Sy.argV a 0)) ((insCells (Sy.L1 l k) ++ insCells (Sy.L2 s k)) ++ Sy.L3 k) (Sy.argI a 1) (Sy.argI a 2)), (fPow, fun a _ => pwC (Sy.argI a 0))] [] []
noncomputable def adArgs (g o c : Nat) (l : List Nd) (b s k : Int) : Array Value := #[.int .i64 b, .int .i64 s, .slice (some ⟨g, o, none⟩) l.length c, .int .i64 k]
noncomputable def radArgs (g o c : Nat) (l : List Nd) (b s k : Int) : Array Value := #[.slice none 0 0, .int .i64 b, .int .i64 s, .slice (some ⟨g, o, none⟩) l.length c, .int .i64 k]
def adZ_o : Sy.O := (Sy.O.steps [0, 0, 0, 0, 0, 0, 0, 0, 0] (Sy.O.fork (Sy.O.steps [0, 0, 0, 0, 0, 0, 0, 0, 0, 0, 0, 0, 0, 0, 0, 0, 0] Sy.O.nil) (Sy.O.steps [0, 0, 0, 0] (Sy.O.fork (Sy.O.steps [0, 0, 0, 0, 0, 0, 0, 0, 0, 0, 0, 0] Sy.O.nil) (Sy.O.steps [0] (Sy.O.fork (Sy.O.steps [0, 0, 0, 0, 0, 0, 0, 0, 0, 0] Sy.O.nil) (Sy.O.steps [0] (Sy.O.fork (Sy.O.steps [0, 0, 0, 0, 0, 0, 0, 0] Sy.O.nil) (Sy.O.steps [0, 0, 0, 0, 0, 0] (Sy.O.fork (Sy.O.steps [0, 0, 0, 0] Sy.O.nil) (Sy.O.steps [0, 0, 0, 0, 0, 0, 0, 0, 0] Sy.O.nil)))))))))))
noncomputable def adZ_R (g : Nat) (o : Nat) (c : Nat) (l : List Nd) (b : Int) (k : Int) (ns : Nat → Sy.Let) : Sy.Res (Value × List Blk) := Sy.Res.br (bif false then true else Ex.ltQ b (0 : Int))
 (Sy.Res.leaf (Value.tuple (Array.mk [Value.slice none (0 : Nat) (0 : Nat), Value.int IntKind.i64 (1 : Int)]), []))
 (Sy.Res.br (bif false then true else Ex.ltQ (4095 : Int) b)
 (Sy.Res.leaf (Value.tuple (Array.mk [Value.slice none (0 : Nat) (0 : Nat), Value.int IntKind.i64 (1 : Int)]), []))
 (Sy.Res.br (bif false then true else Ex.ltQ k (0 : Int))
 (Sy.Res.leaf (Value.tuple (Array.mk [Value.slice none (0 : Nat) (0 : Nat), Value.int IntKind.i64 (1 : Int)]), []))
 (Sy.Res.br (bif false then true else Ex.leQ (5 : Int) k)
 (Sy.Res.leaf
 (Value.tuple (Array.mk [Value.slice none (0 : Nat) (0 : Nat), Value.int IntKind.i64 (1 : Int)]), []))
 (Sy.Res.br (bif false then true else bif true then Ex.ltQ (0 : Int) (↑(List.length l) : Int) else false)
 (Sy.Res.leaf
 (Value.tuple (Array.mk [Value.slice none (0 : Nat) (0 : Nat), Value.int IntKind.i64 (1 : Int)]), []))
 (Sy.Res.need
 ((0 : Int) ≤
 Ex.wrapQ IntKind.u64
 (Ex.wrapQ IntKind.i64 (Ex.addQ (65536 : Int) (Ex.wrapQ IntKind.i64 (Ex.mulQ (8 : Int) b)))) ∧
 Ex.wrapQ IntKind.u64
 (Ex.wrapQ IntKind.i64 (Ex.addQ (65536 : Int) (Ex.wrapQ IntKind.i64 (Ex.mulQ (8 : Int) b)))) <
 (18446744073709551616 : Int))
 (Sy.Res.hyp
 (Nat.le
 (List.length
 (numL (29 : Int)
 (Ex.wrapQ IntKind.u64
 (Ex.wrapQ IntKind.i64 (Ex.addQ (65536 : Int) (Ex.wrapQ IntKind.i64 (Ex.mulQ (8 : Int) b)))))))
 (Let.n (ns (1 : Nat))))
 (Sy.Res.leaf
 (Value.tuple
 (Array.mk
 [Value.slice (some (Addr.mk (Let.n (ns (0 : Nat))) (0 : Nat) none))
 (List.length
 (numL (29 : Int)
 (Ex.wrapQ IntKind.u64
 (Ex.wrapQ IntKind.i64
 (Ex.addQ (65536 : Int) (Ex.wrapQ IntKind.i64 (Ex.mulQ (8 : Int) b)))))))
 (Let.n (ns (1 : Nat))),
 Value.int IntKind.i64 (0 : Int)]),
 [Blk.mk (Let.n (ns (0 : Nat)))
 (Sy.Cont.row (29 : Nat) (6 : Nat)
 (List.length
 (numL (29 : Int)
 (Ex.wrapQ IntKind.u64
 (Ex.wrapQ IntKind.i64
 (Ex.addQ (65536 : Int) (Ex.wrapQ IntKind.i64 (Ex.mulQ (8 : Int) b)))))))
 (Let.n (ns (1 : Nat)))
 (insCells
 (numL (29 : Int)
 (Ex.wrapQ IntKind.u64
 (Ex.wrapQ IntKind.i64
 (Ex.addQ (65536 : Int) (Ex.wrapQ IntKind.i64 (Ex.mulQ (8 : Int) b))))))))
 true]))))))))
theorem adZ_run (g o c : Nat) (l : List Nd) (b k : Int) : Sy.Ran (Sy.inT Try.prog (ctxI 0 k g o c l) 60 fAd (adArgs g o c l b 0 k) [⟨g, .seg o (ndCells l), false⟩] (Sy.rowT tI)) adZ_o (adZ_R g o c l b k) := ⟨fun ns => by kernel_rfl, fun ns => by kernel_rfl⟩
def adN_o : Sy.O := (Sy.O.steps [0, 0, 0, 0, 0, 0, 0, 0, 0, 0, 0, 0, 0, 0, 0, 0, 0, 0, 0, 0, 0, 0, 0, 0, 0, 0, 0] Sy.O.nil)
noncomputable def adN_R (g : Nat) (o : Nat) (c : Nat) (l : List Nd) (b : Int) (k : Int) (p : Nat) (ns : Nat → Sy.Let) : Sy.Res (Value × List Blk) := Sy.Res.leaf (Value.tuple (Array.mk [Value.slice none (0 : Nat) (0 : Nat), Value.int IntKind.i64 (1 : Int)]), [])
theorem adN_run (g o c : Nat) (l : List Nd) (b k : Int) (p : Nat) : Sy.Ran (Sy.inT Try.prog (ctxI (.negSucc p) k g o c l) 60 fAd (adArgs g o c l b (.negSucc p) k) [⟨g, .seg o (ndCells l), false⟩] (Sy.rowT tI)) adN_o (adN_R g o c l b k p) := ⟨fun ns => by kernel_rfl, fun ns => by kernel_rfl⟩
def adP_o : Sy.O := (Sy.O.steps [0, 0] (Sy.O.fork (Sy.O.steps [0, 0, 0, 0, 0, 0, 0, 0, 0, 0, 0, 0, 0, 0, 0, 0, 0, 0, 0, 0, 0, 0, 0, 0] Sy.O.nil) (Sy.O.steps [0, 0, 0, 0] (Sy.O.fork (Sy.O.steps [0, 0, 0, 0, 0, 0, 0, 0, 0, 0, 0, 0, 0, 0, 0, 0, 0, 0, 0] Sy.O.nil) (Sy.O.steps [0] (Sy.O.fork (Sy.O.steps [0, 0, 0, 0, 0, 0, 0, 0, 0, 0, 0, 0, 0, 0, 0, 0, 0] Sy.O.nil) (Sy.O.steps [0, 0, 0, 0] (Sy.O.fork (Sy.O.steps [0, 0, 0, 0, 0, 0, 0, 0, 0, 0, 0, 0] Sy.O.nil) (Sy.O.steps [0] (Sy.O.fork (Sy.O.steps [0, 0, 0, 0, 0, 0, 0, 0, 0, 0] Sy.O.nil) (Sy.O.steps [0] (Sy.O.fork (Sy.O.steps [0, 0, 0, 0, 0, 0, 0, 0] Sy.O.nil) (Sy.O.steps [0, 0, 0, 0, 0, 0, 0, 0, 0, 0, 0, 0, 0, 0, 0] (Sy.O.fork Sy.O.nil (Sy.O.steps [0, 0, 0, 1] (Sy.O.fork Sy.O.nil (Sy.O.steps [0, 0, 0, 0, 0, 0, 0, 0, 5, 1, 1, 1, 1, 5, 0, 0, 2, 0, 0, 6, 1, 0, 0, 1, 1, 6, 0, 0, 0, 3, 0, 0, 6, 0, 0, 0, 1, 1, 6, 0, 0, 0, 4, 0, 0, 6, 0, 0, 0, 1, 1, 6, 0, 0, 0, 5, 0, 0, 8, 1] (Sy.O.steps [0, 0, 1, 1, 8, 0, 0, 0, 6, 0, 0, 7, 0, 0, 0, 1, 1, 7, 0, 0] Sy.O.nil))))))))))))))))))
noncomputable def adP_R (g : Nat) (o : Nat) (c : Nat) (l : List Nd) (b : Int) (k : Int) (p : Nat) (ns : Nat → Sy.Let) : Sy.Res (Value × List Blk) := Sy.Res.br (bif false then true else Ex.ltQ (1024 : Int) (Int.ofNat (Nat.succ p)))
 (Sy.Res.leaf (Value.tuple (Array.mk [Value.slice none (0 : Nat) (0 : Nat), Value.int IntKind.i64 (1 : Int)]), []))
 (Sy.Res.br
 (bif false then true
 else
 !Ex.eqQ
 (Ex.andQ IntKind.i64 (Int.ofNat (Nat.succ p))
 (Ex.wrapQ IntKind.i64 (Ex.subQ' (Int.ofNat (Nat.succ p)) (1 : Int))))
 (0 : Int))
 (Sy.Res.leaf (Value.tuple (Array.mk [Value.slice none (0 : Nat) (0 : Nat), Value.int IntKind.i64 (1 : Int)]), []))
 (Sy.Res.br (bif false then true else Ex.ltQ b (0 : Int))
 (Sy.Res.leaf (Value.tuple (Array.mk [Value.slice none (0 : Nat) (0 : Nat), Value.int IntKind.i64 (1 : Int)]), []))
 (Sy.Res.br
 (bif false then true
 else
 Ex.ltQ
 (Ex.wrapQ IntKind.i64
 (Ex.subQ' (4096 : Int)
 (bif Ex.ltQ (1 : Int) (Int.ofNat (Nat.succ p)) then Int.ofNat (Nat.succ p) else (1 : Int))))
 b)
 (Sy.Res.leaf
 (Value.tuple (Array.mk [Value.slice none (0 : Nat) (0 : Nat), Value.int IntKind.i64 (1 : Int)]), []))
 (Sy.Res.br (bif false then true else Ex.ltQ k (0 : Int))
 (Sy.Res.leaf
 (Value.tuple (Array.mk [Value.slice none (0 : Nat) (0 : Nat), Value.int IntKind.i64 (1 : Int)]), []))
 (Sy.Res.br (bif false then true else Ex.leQ (5 : Int) k)
 (Sy.Res.leaf
 (Value.tuple (Array.mk [Value.slice none (0 : Nat) (0 : Nat), Value.int IntKind.i64 (1 : Int)]), []))
 (Sy.Res.need ((0 : Nat) < List.length l ∧ List.length l ≤ (4398046511104 : Nat))
 (Sy.Res.hyp True
 (Sy.Res.br (bif false then true else bif true then !tru (isExpr (24 : Int) l) else false)
 (Sy.Res.leaf
 (Value.tuple (Array.mk [Value.slice none (0 : Nat) (0 : Nat), Value.int IntKind.i64 (1 : Int)]),
 []))
 (Sy.Res.need
 ((0 : Int) ≤
 Ex.wrapQ IntKind.u64
 (Ex.wrapQ IntKind.i64 (Ex.addQ (65536 : Int) (Ex.wrapQ IntKind.i64 (Ex.mulQ (8 : Int) b)))) ∧
 Ex.wrapQ IntKind.u64
 (Ex.wrapQ IntKind.i64 (Ex.addQ (65536 : Int) (Ex.wrapQ IntKind.i64 (Ex.mulQ (8 : Int) b)))) <
 (18446744073709551616 : Int))
 (Sy.Res.hyp
 (Nat.le
 (List.length
 (numL (29 : Int)
 (Ex.wrapQ IntKind.u64
 (Ex.wrapQ IntKind.i64
 (Ex.addQ (65536 : Int) (Ex.wrapQ IntKind.i64 (Ex.mulQ (8 : Int) b)))))))
 (Let.n (ns (1 : Nat))))
 (Sy.Res.need
 (isExpr (24 : Int) l ∧
 (0 : Int) ≤ Ex.wrapQ IntKind.i64 (Ex.subQ' (↑(List.length l) : Int) (1 : Int)) ∧
 Ex.wrapQ IntKind.i64 (Ex.subQ' (↑(List.length l) : Int) (1 : Int)) <
 (↑(List.length l) : Int) ∧
 Ex.wrapQ IntKind.i64 (Ex.subQ' (↑(List.length l) : Int) (1 : Int)) <
 (↑(List.length l) : Int))
 (Sy.Res.hyp True
 (Sy.Res.br
 (Ex.ltQ (5 : Int)
 (Ex.wrapQ IntKind.i64
 (Ex.addQ k
 (bif
 Ex.ltQ (2 : Int)
 (↑(E.needs
 (tr l
 (Int.toNat
 (Ex.wrapQ IntKind.i64
 (Ex.subQ' (↑(List.length l) : Int) (1 : Int)))))) :
 Int) then
 (↑(E.needs
 (tr l
 (Int.toNat
 (Ex.wrapQ IntKind.i64 (Ex.subQ' (↑(List.length l) : Int) (1 : Int)))))) :
 Int)
 else (2 : Int)))))
 (Sy.Res.leaf
 (Value.tuple
 (Array.mk [Value.slice none (0 : Nat) (0 : Nat), Value.int IntKind.i64 (30 : Int)]),
 [Blk.mk (Let.n (ns (0 : Nat)))
 (Sy.Cont.row (29 : Nat) (6 : Nat)
 (List.length
 (numL (29 : Int)
 (Ex.wrapQ IntKind.u64
 (Ex.wrapQ IntKind.i64
 (Ex.addQ (65536 : Int) (Ex.wrapQ IntKind.i64 (Ex.mulQ (8 : Int) b)))))))
 (Let.n (ns (1 : Nat)))
 (insCells
 (numL (29 : Int)
 (Ex.wrapQ IntKind.u64
 (Ex.wrapQ IntKind.i64
 (Ex.addQ (65536 : Int) (Ex.wrapQ IntKind.i64 (Ex.mulQ (8 : Int) b))))))))
 true]))
 (Sy.Res.need
 ((isExpr (24 : Int) l ∧ goodN l) ∧
 (0 : Int) ≤ Ex.wrapQ IntKind.i64 (Ex.subQ' (↑(List.length l) : Int) (1 : Int)) ∧
 Ex.wrapQ IntKind.i64 (Ex.subQ' (↑(List.length l) : Int) (1 : Int)) <
 (↑(List.length l) : Int) ∧
 Ex.wrapQ IntKind.i64 (Ex.subQ' (↑(List.length l) : Int) (1 : Int)) <
 (↑(List.length l) : Int) ∧
 (0 : Int) ≤ k ∧
 k +
 (↑(E.needs
 (tr l
 (Int.toNat
 (Ex.wrapQ IntKind.i64
 (Ex.subQ' (↑(List.length l) : Int) (1 : Int)))))) :
 Int) ≤
 (5 : Int))
 (Sy.Res.hyp
 (Nat.le
 (List.length
 (lay
 (tr l
 (Int.toNat
 (Ex.wrapQ IntKind.i64 (Ex.subQ' (↑(List.length l) : Int) (1 : Int)))))
 ((24 : Int) + k)))
 (Let.n (ns (3 : Nat))))
 (Sy.Res.need
 ((0 : Int) ≤
 Ex.wrapQ IntKind.u64
 (Ex.wrapQ IntKind.i64 (Ex.subQ' (Int.ofNat (Nat.succ p)) (1 : Int))) ∧
 Ex.wrapQ IntKind.u64
 (Ex.wrapQ IntKind.i64 (Ex.subQ' (Int.ofNat (Nat.succ p)) (1 : Int))) <
 (18446744073709551616 : Int))
 (Sy.Res.hyp
 (Nat.le
 (List.length
 (numL
 (Ex.wrapQ IntKind.i64
 (Ex.addQ (Ex.wrapQ IntKind.i64 (Ex.addQ (24 : Int) k)) (1 : Int)))
 (Ex.wrapQ IntKind.u64
 (Ex.wrapQ IntKind.i64 (Ex.subQ' (Int.ofNat (Nat.succ p)) (1 : Int))))))
 (Let.n (ns (5 : Nat))))
 (Sy.Res.need
 ((0 : Nat) = (0 : Nat) ∧
 List.length
 (insCells
 (lay
 (tr l
 (Int.toNat
 (Ex.wrapQ IntKind.i64
 (Ex.subQ' (↑(List.length l) : Int) (1 : Int)))))
 ((24 : Int) + k))) =
 List.length
 (lay
 (tr l
 (Int.toNat
 (Ex.wrapQ IntKind.i64
 (Ex.subQ' (↑(List.length l) : Int) (1 : Int)))))
 ((24 : Int) + k)) *
 (6 : Nat) ∧
 ∀ (u : Value),
 u ∈
 insCells
 (lay
 (tr l
 (Int.toNat
 (Ex.wrapQ IntKind.i64
 (Ex.subQ' (↑(List.length l) : Int) (1 : Int)))))
 ((24 : Int) + k)) →
 Value.oneCell' u = true)
 (Sy.Res.need
 ((1 : Nat) ≤
 List.length
 (lay
 (tr l
 (Int.toNat
 (Ex.wrapQ IntKind.i64 (Ex.subQ' (↑(List.length l) : Int) (1 : Int)))))
 ((24 : Int) + k)))
 (Sy.Res.need
 ((0 : Nat) +
 List.length
 (lay
 (tr l
 (Int.toNat
 (Ex.wrapQ IntKind.i64
 (Ex.subQ' (↑(List.length l) : Int) (1 : Int)))))
 ((24 : Int) + k)) ≤
 (9223372036854775807 : Nat))
 (Sy.Res.need
 (((0 : Nat) +
 List.length
 (lay
 (tr l
 (Int.toNat
 (Ex.wrapQ IntKind.i64
 (Ex.subQ' (↑(List.length l) : Int) (1 : Int)))))
 ((24 : Int) + k))) *
 (48 : Nat) ≤
 (140737488355328 : Nat))
 (Sy.Res.hyp
 (Nat.le
 ((0 : Nat) +
 List.length
 (lay
 (tr l
 (Int.toNat
 (Ex.wrapQ IntKind.i64
 (Ex.subQ' (↑(List.length l) : Int) (1 : Int)))))
 ((24 : Int) + k)))
 (Let.n (ns (11 : Nat))))
 (Sy.Res.need
 ((0 : Nat) = (0 : Nat) ∧
 List.length
 (insCells
 (numL
 (Ex.wrapQ IntKind.i64
 (Ex.addQ (Ex.wrapQ IntKind.i64 (Ex.addQ (24 : Int) k))
 (1 : Int)))
 (Ex.wrapQ IntKind.u64
 (Ex.wrapQ IntKind.i64
 (Ex.subQ' (Int.ofNat (Nat.succ p)) (1 : Int)))))) =
 List.length
 (numL
 (Ex.wrapQ IntKind.i64
 (Ex.addQ (Ex.wrapQ IntKind.i64 (Ex.addQ (24 : Int) k))
 (1 : Int)))
 (Ex.wrapQ IntKind.u64
 (Ex.wrapQ IntKind.i64
 (Ex.subQ' (Int.ofNat (Nat.succ p)) (1 : Int))))) *
 (6 : Nat) ∧
 ∀ (u : Value),
 u ∈
 insCells
 (numL
 (Ex.wrapQ IntKind.i64
 (Ex.addQ (Ex.wrapQ IntKind.i64 (Ex.addQ (24 : Int) k))
 (1 : Int)))
 (Ex.wrapQ IntKind.u64
 (Ex.wrapQ IntKind.i64
 (Ex.subQ' (Int.ofNat (Nat.succ p)) (1 : Int))))) →
 Value.oneCell' u = true)
 (Sy.Res.need
 ((0 : Nat) +
 List.length
 (lay
 (tr l
 (Int.toNat
 (Ex.wrapQ IntKind.i64
 (Ex.subQ' (↑(List.length l) : Int) (1 : Int)))))
 ((24 : Int) + k)) +
 List.length
 (numL
 (Ex.wrapQ IntKind.i64
 (Ex.addQ (Ex.wrapQ IntKind.i64 (Ex.addQ (24 : Int) k))
 (1 : Int)))
 (Ex.wrapQ IntKind.u64
 (Ex.wrapQ IntKind.i64
 (Ex.subQ' (Int.ofNat (Nat.succ p)) (1 : Int))))) ≤
 (9223372036854775807 : Nat))
 (Sy.Res.need
 (((0 : Nat) +
 List.length
 (lay
 (tr l
 (Int.toNat
 (Ex.wrapQ IntKind.i64
 (Ex.subQ' (↑(List.length l) : Int) (1 : Int)))))
 ((24 : Int) + k)) +
 List.length
 (numL
 (Ex.wrapQ IntKind.i64
 (Ex.addQ (Ex.wrapQ IntKind.i64 (Ex.addQ (24 : Int) k))
 (1 : Int)))
 (Ex.wrapQ IntKind.u64
 (Ex.wrapQ IntKind.i64
 (Ex.subQ' (Int.ofNat (Nat.succ p)) (1 : Int)))))) *
 (48 : Nat) ≤
 (140737488355328 : Nat))
 (Sy.Res.hyp
 (Nat.le
 ((0 : Nat) +
 List.length
 (lay
 (tr l
 (Int.toNat
 (Ex.wrapQ IntKind.i64
 (Ex.subQ' (↑(List.length l) : Int) (1 : Int)))))
 ((24 : Int) + k)) +
 List.length
 (numL
 (Ex.wrapQ IntKind.i64
 (Ex.addQ (Ex.wrapQ IntKind.i64 (Ex.addQ (24 : Int) k))
 (1 : Int)))
 (Ex.wrapQ IntKind.u64
 (Ex.wrapQ IntKind.i64
 (Ex.subQ' (Int.ofNat (Nat.succ p)) (1 : Int))))))
 (Let.n (ns (13 : Nat))))
 (Sy.Res.need
 ((0 : Nat) +
 List.length
 (lay
 (tr l
 (Int.toNat
 (Ex.wrapQ IntKind.i64
 (Ex.subQ' (↑(List.length l) : Int)
 (1 : Int)))))
 ((24 : Int) + k)) +
 List.length
 (numL
 (Ex.wrapQ IntKind.i64
 (Ex.addQ
 (Ex.wrapQ IntKind.i64 (Ex.addQ (24 : Int) k))
 (1 : Int)))
 (Ex.wrapQ IntKind.u64
 (Ex.wrapQ IntKind.i64
 (Ex.subQ' (Int.ofNat (Nat.succ p)) (1 : Int))))) +
 (1 : Nat) ≤
 (9223372036854775807 : Nat))
 (Sy.Res.need
 (((0 : Nat) +
 List.length
 (lay
 (tr l
 (Int.toNat
 (Ex.wrapQ IntKind.i64
 (Ex.subQ' (↑(List.length l) : Int)
 (1 : Int)))))
 ((24 : Int) + k)) +
 List.length
 (numL
 (Ex.wrapQ IntKind.i64
 (Ex.addQ
 (Ex.wrapQ IntKind.i64 (Ex.addQ (24 : Int) k))
 (1 : Int)))
 (Ex.wrapQ IntKind.u64
 (Ex.wrapQ IntKind.i64
 (Ex.subQ' (Int.ofNat (Nat.succ p))
 (1 : Int))))) +
 (1 : Nat)) *
 (48 : Nat) ≤
 (140737488355328 : Nat))
 (Sy.Res.hyp
 (Nat.le
 ((0 : Nat) +
 List.length
 (lay
 (tr l
 (Int.toNat
 (Ex.wrapQ IntKind.i64
 (Ex.subQ' (↑(List.length l) : Int)
 (1 : Int)))))
 ((24 : Int) + k)) +
 List.length
 (numL
 (Ex.wrapQ IntKind.i64
 (Ex.addQ
 (Ex.wrapQ IntKind.i64 (Ex.addQ (24 : Int) k))
 (1 : Int)))
 (Ex.wrapQ IntKind.u64
 (Ex.wrapQ IntKind.i64
 (Ex.subQ' (Int.ofNat (Nat.succ p))
 (1 : Int))))) +
 (1 : Nat))
 (Let.n (ns (15 : Nat))))
 (Sy.Res.need
 ((0 : Nat) +
 List.length
 (lay
 (tr l
 (Int.toNat
 (Ex.wrapQ IntKind.i64
 (Ex.subQ' (↑(List.length l) : Int)
 (1 : Int)))))
 ((24 : Int) + k)) +
 List.length
 (numL
 (Ex.wrapQ IntKind.i64
 (Ex.addQ
 (Ex.wrapQ IntKind.i64
 (Ex.addQ (24 : Int) k))
 (1 : Int)))
 (Ex.wrapQ IntKind.u64
 (Ex.wrapQ IntKind.i64
 (Ex.subQ' (Int.ofNat (Nat.succ p))
 (1 : Int))))) +
 (1 : Nat) +
 (1 : Nat) ≤
 (9223372036854775807 : Nat))
 (Sy.Res.need
 (((0 : Nat) +
 List.length
 (lay
 (tr l
 (Int.toNat
 (Ex.wrapQ IntKind.i64
 (Ex.subQ' (↑(List.length l) : Int)
 (1 : Int)))))
 ((24 : Int) + k)) +
 List.length
 (numL
 (Ex.wrapQ IntKind.i64
 (Ex.addQ
 (Ex.wrapQ IntKind.i64
 (Ex.addQ (24 : Int) k))
 (1 : Int)))
 (Ex.wrapQ IntKind.u64
 (Ex.wrapQ IntKind.i64
 (Ex.subQ' (Int.ofNat (Nat.succ p))
 (1 : Int))))) +
 (1 : Nat) +
 (1 : Nat)) *
 (48 : Nat) ≤
 (140737488355328 : Nat))
 (Sy.Res.hyp
 (Nat.le
 ((0 : Nat) +
 List.length
 (lay
 (tr l
 (Int.toNat
 (Ex.wrapQ IntKind.i64
 (Ex.subQ' (↑(List.length l) : Int)
 (1 : Int)))))
 ((24 : Int) + k)) +
 List.length
 (numL
 (Ex.wrapQ IntKind.i64
 (Ex.addQ
 (Ex.wrapQ IntKind.i64
 (Ex.addQ (24 : Int) k))
 (1 : Int)))
 (Ex.wrapQ IntKind.u64
 (Ex.wrapQ IntKind.i64
 (Ex.subQ' (Int.ofNat (Nat.succ p))
 (1 : Int))))) +
 (1 : Nat) +
 (1 : Nat))
 (Let.n (ns (17 : Nat))))
 (Sy.Res.need
 ((0 : Nat) = (0 : Nat) ∧
 List.length
 (insCells
 (numL (29 : Int)
 (Ex.wrapQ IntKind.u64
 (Ex.wrapQ IntKind.i64
 (Ex.addQ (65536 : Int)
 (Ex.wrapQ IntKind.i64
 (Ex.mulQ (8 : Int) b))))))) =
 List.length
 (numL (29 : Int)
 (Ex.wrapQ IntKind.u64
 (Ex.wrapQ IntKind.i64
 (Ex.addQ (65536 : Int)
 (Ex.wrapQ IntKind.i64
 (Ex.mulQ (8 : Int) b)))))) *
 (6 : Nat) ∧
 ∀ (u : Value),
 u ∈
 insCells
 (numL (29 : Int)
 (Ex.wrapQ IntKind.u64
 (Ex.wrapQ IntKind.i64
 (Ex.addQ (65536 : Int)
 (Ex.wrapQ IntKind.i64
 (Ex.mulQ (8 : Int) b)))))) →
 Value.oneCell' u = true)
 (Sy.Res.need
 ((0 : Nat) +
 List.length
 (lay
 (tr l
 (Int.toNat
 (Ex.wrapQ IntKind.i64
 (Ex.subQ'
 (↑(List.length l) : Int)
 (1 : Int)))))
 ((24 : Int) + k)) +
 List.length
 (numL
 (Ex.wrapQ IntKind.i64
 (Ex.addQ
 (Ex.wrapQ IntKind.i64
 (Ex.addQ (24 : Int) k))
 (1 : Int)))
 (Ex.wrapQ IntKind.u64
 (Ex.wrapQ IntKind.i64
 (Ex.subQ'
 (Int.ofNat (Nat.succ p))
 (1 : Int))))) +
 (1 : Nat) +
 (1 : Nat) +
 List.length
 (numL (29 : Int)
 (Ex.wrapQ IntKind.u64
 (Ex.wrapQ IntKind.i64
 (Ex.addQ (65536 : Int)
 (Ex.wrapQ IntKind.i64
 (Ex.mulQ (8 : Int) b)))))) ≤
 (9223372036854775807 : Nat))
 (Sy.Res.need
 (((0 : Nat) +
 List.length
 (lay
 (tr l
 (Int.toNat
 (Ex.wrapQ IntKind.i64
 (Ex.subQ'
 (↑(List.length l) :
 Int)
 (1 : Int)))))
 ((24 : Int) + k)) +
 List.length
 (numL
 (Ex.wrapQ IntKind.i64
 (Ex.addQ
 (Ex.wrapQ IntKind.i64
 (Ex.addQ (24 : Int) k))
 (1 : Int)))
 (Ex.wrapQ IntKind.u64
 (Ex.wrapQ IntKind.i64
 (Ex.subQ'
 (Int.ofNat (Nat.succ p))
 (1 : Int))))) +
 (1 : Nat) +
 (1 : Nat) +
 List.length
 (numL (29 : Int)
 (Ex.wrapQ IntKind.u64
 (Ex.wrapQ IntKind.i64
 (Ex.addQ (65536 : Int)
 (Ex.wrapQ IntKind.i64
 (Ex.mulQ (8 : Int) b))))))) *
 (48 : Nat) ≤
 (140737488355328 : Nat))
 (Sy.Res.hyp
 (Nat.le
 ((0 : Nat) +
 List.length
 (lay
 (tr l
 (Int.toNat
 (Ex.wrapQ IntKind.i64
 (Ex.subQ'
 (↑(List.length l) :
 Int)
 (1 : Int)))))
 ((24 : Int) + k)) +
 List.length
 (numL
 (Ex.wrapQ IntKind.i64
 (Ex.addQ
 (Ex.wrapQ IntKind.i64
 (Ex.addQ (24 : Int) k))
 (1 : Int)))
 (Ex.wrapQ IntKind.u64
 (Ex.wrapQ IntKind.i64
 (Ex.subQ'
 (Int.ofNat (Nat.succ p))
 (1 : Int))))) +
 (1 : Nat) +
 (1 : Nat) +
 List.length
 (numL (29 : Int)
 (Ex.wrapQ IntKind.u64
 (Ex.wrapQ IntKind.i64
 (Ex.addQ (65536 : Int)
 (Ex.wrapQ IntKind.i64
 (Ex.mulQ (8 : Int) b)))))))
 (Let.n (ns (19 : Nat))))
 (Sy.Res.need
 ((0 : Nat) +
 List.length
 (lay
 (tr l
 (Int.toNat
 (Ex.wrapQ IntKind.i64
 (Ex.subQ'
 (↑(List.length
 l) :
 Int)
 (1 : Int)))))
 ((24 : Int) + k)) +
 List.length
 (numL
 (Ex.wrapQ IntKind.i64
 (Ex.addQ
 (Ex.wrapQ IntKind.i64
 (Ex.addQ (24 : Int)
 k))
 (1 : Int)))
 (Ex.wrapQ IntKind.u64
 (Ex.wrapQ IntKind.i64
 (Ex.subQ'
 (Int.ofNat
 (Nat.succ p))
 (1 : Int))))) +
 (1 : Nat) +
 (1 : Nat) +
 List.length
 (numL (29 : Int)
 (Ex.wrapQ IntKind.u64
 (Ex.wrapQ IntKind.i64
 (Ex.addQ (65536 : Int)
 (Ex.wrapQ IntKind.i64
 (Ex.mulQ (8 : Int)
 b)))))) +
 (1 : Nat) ≤
 (9223372036854775807 : Nat))
 (Sy.Res.need
 (((0 : Nat) +
 List.length
 (lay
 (tr l
 (Int.toNat
 (Ex.wrapQ
 IntKind.i64
 (Ex.subQ'
 (↑(List.length
 l) :
 Int)
 (1 : Int)))))
 ((24 : Int) + k)) +
 List.length
 (numL
 (Ex.wrapQ IntKind.i64
 (Ex.addQ
 (Ex.wrapQ
 IntKind.i64
 (Ex.addQ
 (24 : Int) k))
 (1 : Int)))
 (Ex.wrapQ IntKind.u64
 (Ex.wrapQ IntKind.i64
 (Ex.subQ'
 (Int.ofNat
 (Nat.succ p))
 (1 : Int))))) +
 (1 : Nat) +
 (1 : Nat) +
 List.length
 (numL (29 : Int)
 (Ex.wrapQ IntKind.u64
 (Ex.wrapQ IntKind.i64
 (Ex.addQ (65536 : Int)
 (Ex.wrapQ IntKind.i64
 (Ex.mulQ (8 : Int)
 b)))))) +
 (1 : Nat)) *
 (48 : Nat) ≤
 (140737488355328 : Nat))
 (Sy.Res.hyp
 (Nat.le
 ((0 : Nat) +
 List.length
 (lay
 (tr l
 (Int.toNat
 (Ex.wrapQ
 IntKind.i64
 (Ex.subQ'
 (↑(List.length
 l) :
 Int)
 (1 : Int)))))
 ((24 : Int) + k)) +
 List.length
 (numL
 (Ex.wrapQ IntKind.i64
 (Ex.addQ
 (Ex.wrapQ
 IntKind.i64
 (Ex.addQ
 (24 : Int) k))
 (1 : Int)))
 (Ex.wrapQ IntKind.u64
 (Ex.wrapQ IntKind.i64
 (Ex.subQ'
 (Int.ofNat
 (Nat.succ p))
 (1 : Int))))) +
 (1 : Nat) +
 (1 : Nat) +
 List.length
 (numL (29 : Int)
 (Ex.wrapQ IntKind.u64
 (Ex.wrapQ IntKind.i64
 (Ex.addQ (65536 : Int)
 (Ex.wrapQ IntKind.i64
 (Ex.mulQ (8 : Int)
 b)))))) +
 (1 : Nat))
 (Let.n (ns (21 : Nat))))
 (Sy.Res.leaf
 (Value.tuple
 (Array.mk
 [Value.slice
 (some
 (Addr.mk
 (Let.n (ns (20 : Nat)))
 (0 : Nat) none))
 ((0 : Nat) +
 List.length
 (lay
 (tr l
 (Int.toNat
 (Ex.wrapQ
 IntKind.i64
 (Ex.subQ'
 (↑(List.length
 l) :
 Int)
 (1 :
 Int)))))
 ((24 :
 Int) +
 k)) +
 List.length
 (numL
 (Ex.wrapQ
 IntKind.i64
 (Ex.addQ
 (Ex.wrapQ
 IntKind.i64
 (Ex.addQ
 (24 :
 Int)
 k))
 (1 :
 Int)))
 (Ex.wrapQ
 IntKind.u64
 (Ex.wrapQ
 IntKind.i64
 (Ex.subQ'
 (Int.ofNat
 (Nat.succ
 p))
 (1 :
 Int))))) +
 (1 : Nat) +
 (1 : Nat) +
 List.length
 (numL (29 : Int)
 (Ex.wrapQ
 IntKind.u64
 (Ex.wrapQ
 IntKind.i64
 (Ex.addQ
 (65536 : Int)
 (Ex.wrapQ
 IntKind.i64
 (Ex.mulQ
 (8 : Int)
 b)))))) +
 (1 : Nat))
 (Let.n (ns (21 : Nat))),
 Value.int IntKind.i64
 (0 : Int)]),
 [Blk.mk (Let.n (ns (20 : Nat)))
 (Sy.Cont.row (29 : Nat)
 (6 : Nat)
 ((0 : Nat) +
 List.length
 (lay
 (tr l
 (Int.toNat
 (Ex.wrapQ
 IntKind.i64
 (Ex.subQ'
 (↑(List.length
 l) :
 Int)
 (1 :
 Int)))))
 ((24 : Int) +
 k)) +
 List.length
 (numL
 (Ex.wrapQ
 IntKind.i64
 (Ex.addQ
 (Ex.wrapQ
 IntKind.i64
 (Ex.addQ
 (24 :
 Int)
 k))
 (1 : Int)))
 (Ex.wrapQ
 IntKind.u64
 (Ex.wrapQ
 IntKind.i64
 (Ex.subQ'
 (Int.ofNat
 (Nat.succ
 p))
 (1 :
 Int))))) +
 (1 : Nat) +
 (1 : Nat) +
 List.length
 (numL (29 : Int)
 (Ex.wrapQ IntKind.u64
 (Ex.wrapQ
 IntKind.i64
 (Ex.addQ
 (65536 : Int)
 (Ex.wrapQ
 IntKind.i64
 (Ex.mulQ
 (8 : Int)
 b)))))) +
 (1 : Nat))
 (Let.n (ns (21 : Nat)))
 ([] ++
 insCells
 (lay
 (tr l
 (Int.toNat
 (Ex.wrapQ
 IntKind.i64
 (Ex.subQ'
 (↑(List.length
 l) :
 Int)
 (1 :
 Int)))))
 ((24 : Int) +
 k)) ++
 insCells
 (numL
 (Ex.wrapQ
 IntKind.i64
 (Ex.addQ
 (Ex.wrapQ
 IntKind.i64
 (Ex.addQ
 (24 :
 Int)
 k))
 (1 : Int)))
 (Ex.wrapQ
 IntKind.u64
 (Ex.wrapQ
 IntKind.i64
 (Ex.subQ'
 (Int.ofNat
 (Nat.succ
 p))
 (1 :
 Int))))) ++
 [Value.int IntKind.i64
 (5 : Int),
 Value.int
 IntKind.i64
 (Ex.wrapQ
 IntKind.i64
 (Ex.addQ
 (24 : Int)
 k)),
 Value.int
 IntKind.i64
 (Ex.wrapQ
 IntKind.i64
 (Ex.addQ
 (24 : Int)
 k)),
 Value.int
 IntKind.i64
 (Ex.wrapQ
 IntKind.i64
 (Ex.addQ
 (Ex.wrapQ
 IntKind.i64
 (Ex.addQ
 (24 : Int)
 k))
 (1 : Int))),
 Value.int
 IntKind.i64
 (0 : Int),
 Value.int
 IntKind.i64
 (0 : Int)] ++
 [Value.int IntKind.i64
 (14 : Int),
 Value.int IntKind.i64
 (Ex.wrapQ
 IntKind.i64
 (Ex.addQ
 (24 : Int) k)),
 Value.int IntKind.i64
 (Ex.wrapQ
 IntKind.i64
 (Ex.addQ
 (24 : Int) k)),
 Value.int IntKind.i64
 (0 : Int),
 Value.int IntKind.i64
 (3 : Int),
 Value.int IntKind.i64
 (0 : Int)] ++
 insCells
 (numL (29 : Int)
 (Ex.wrapQ IntKind.u64
 (Ex.wrapQ
 IntKind.i64
 (Ex.addQ
 (65536 : Int)
 (Ex.wrapQ
 IntKind.i64
 (Ex.mulQ
 (8 : Int)
 b)))))) ++
 [Value.int IntKind.i64
 (3 : Int),
 Value.int IntKind.i64
 (29 : Int),
 Value.int IntKind.i64
 (29 : Int),
 Value.int IntKind.i64
 (Ex.wrapQ IntKind.i64
 (Ex.addQ (24 : Int)
 k)),
 Value.int IntKind.i64
 (0 : Int),
 Value.int IntKind.i64
 (0 : Int)]))
 true,
 Blk.mk (Let.n (ns (8 : Nat)))
 (Sy.Cont.obj
 (Obj.cells
 (Array.mk
 [Value.int IntKind.i64
 (3 : Int),
 Value.int IntKind.i64
 (29 : Int),
 Value.int IntKind.i64
 (29 : Int),
 Value.int IntKind.i64
 (Ex.wrapQ IntKind.i64
 (Ex.addQ (24 : Int)
 k)),
 Value.int IntKind.i64
 (0 : Int),
 Value.int IntKind.i64
 (0 : Int)])
 (29 : Nat)))
 true,
 Blk.mk (Let.n (ns (0 : Nat)))
 (Sy.Cont.row (29 : Nat)
 (6 : Nat)
 (List.length
 (numL (29 : Int)
 (Ex.wrapQ IntKind.u64
 (Ex.wrapQ IntKind.i64
 (Ex.addQ (65536 : Int)
 (Ex.wrapQ
 IntKind.i64
 (Ex.mulQ (8 : Int)
 b)))))))
 (Let.n (ns (1 : Nat)))
 (insCells
 (numL (29 : Int)
 (Ex.wrapQ IntKind.u64
 (Ex.wrapQ IntKind.i64
 (Ex.addQ (65536 : Int)
 (Ex.wrapQ
 IntKind.i64
 (Ex.mulQ (8 : Int)
 b))))))))
 true,
 Blk.mk (Let.n (ns (7 : Nat)))
 (Sy.Cont.obj
 (Obj.cells
 (Array.mk
 [Value.int IntKind.i64
 (14 : Int),
 Value.int IntKind.i64
 (Ex.wrapQ IntKind.i64
 (Ex.addQ (24 : Int)
 k)),
 Value.int IntKind.i64
 (Ex.wrapQ IntKind.i64
 (Ex.addQ (24 : Int)
 k)),
 Value.int IntKind.i64
 (0 : Int),
 Value.int IntKind.i64
 (3 : Int),
 Value.int IntKind.i64
 (0 : Int)])
 (29 : Nat)))
 true,
 Blk.mk (Let.n (ns (6 : Nat)))
 (Sy.Cont.obj
 (Obj.cells
 (Array.mk
 [Value.int IntKind.i64
 (5 : Int),
 Value.int IntKind.i64
 (Ex.wrapQ IntKind.i64
 (Ex.addQ (24 : Int)
 k)),
 Value.int IntKind.i64
 (Ex.wrapQ IntKind.i64
 (Ex.addQ (24 : Int)
 k)),
 Value.int IntKind.i64
 (Ex.wrapQ IntKind.i64
 (Ex.addQ
 (Ex.wrapQ
 IntKind.i64
 (Ex.addQ
 (24 : Int) k))
 (1 : Int))),
 Value.int IntKind.i64
 (0 : Int),
 Value.int IntKind.i64
 (0 : Int)])
 (29 : Nat)))
 true,
 Blk.mk (Let.n (ns (4 : Nat)))
 (Sy.Cont.row (29 : Nat)
 (6 : Nat)
 (List.length
 (numL
 (Ex.wrapQ IntKind.i64
 (Ex.addQ
 (Ex.wrapQ IntKind.i64
 (Ex.addQ (24 : Int)
 k))
 (1 : Int)))
 (Ex.wrapQ IntKind.u64
 (Ex.wrapQ IntKind.i64
 (Ex.subQ'
 (Int.ofNat
 (Nat.succ p))
 (1 : Int))))))
 (Let.n (ns (5 : Nat)))
 (insCells
 (numL
 (Ex.wrapQ IntKind.i64
 (Ex.addQ
 (Ex.wrapQ IntKind.i64
 (Ex.addQ (24 : Int)
 k))
 (1 : Int)))
 (Ex.wrapQ IntKind.u64
 (Ex.wrapQ IntKind.i64
 (Ex.subQ'
 (Int.ofNat
 (Nat.succ p))
 (1 : Int)))))))
 true,
 Blk.mk (Let.n (ns (2 : Nat)))
 (Sy.Cont.row (29 : Nat)
 (6 : Nat)
 (List.length
 (lay
 (tr l
 (Int.toNat
 (Ex.wrapQ IntKind.i64
 (Ex.subQ'
 (↑(List.length
 l) :
 Int)
 (1 : Int)))))
 ((24 : Int) + k)))
 (Let.n (ns (3 : Nat)))
 (insCells
 (lay
 (tr l
 (Int.toNat
 (Ex.wrapQ IntKind.i64
 (Ex.subQ'
 (↑(List.length
 l) :
 Int)
 (1 : Int)))))
 ((24 : Int) + k))))
 true])))))))))))))))))))))))))))))))))))))))))
theorem adP_run (g o c : Nat) (l : List Nd) (b k : Int) (p : Nat) : Sy.Ran (Sy.inT Try.prog (ctxI (.ofNat (.succ p)) k g o c l) 60 fAd (adArgs g o c l b (.ofNat (.succ p)) k) [⟨g, .seg o (ndCells l), false⟩] (Sy.rowT tI)) adP_o (adP_R g o c l b k p) := ⟨fun ns => by kernel_rfl, fun ns => by kernel_rfl⟩
def radZ_o : Sy.O := (Sy.O.steps [0, 0, 0, 0, 0, 0] (Sy.O.fork (Sy.O.steps [0, 0, 0, 0, 0, 0, 0, 0, 0, 0, 0, 0, 0, 0, 0, 0] Sy.O.nil) (Sy.O.steps [0, 0, 0] (Sy.O.fork (Sy.O.steps [0, 0, 0, 0, 0, 0, 0, 0, 0, 0, 0, 0] Sy.O.nil) (Sy.O.steps [0] (Sy.O.fork (Sy.O.steps [0, 0, 0, 0, 0, 0, 0, 0, 0, 0] Sy.O.nil) (Sy.O.steps [0] (Sy.O.fork (Sy.O.steps [0, 0, 0, 0, 0, 0, 0, 0] Sy.O.nil) (Sy.O.steps [0, 0, 0, 0, 0, 0] (Sy.O.fork (Sy.O.steps [0, 0, 0, 0] Sy.O.nil) (Sy.O.steps [0, 0, 0, 0, 0, 0, 0, 0, 0] Sy.O.nil)))))))))))
noncomputable def radZ_R (g : Nat) (o : Nat) (c : Nat) (l : List Nd) (b : Int) (k : Int) (ns : Nat → Sy.Let) : Sy.Res (Value × List Blk) := Sy.Res.br (bif false then true else Ex.ltQ b (0 : Int))
 (Sy.Res.leaf (Value.tuple (Array.mk [Value.slice none (0 : Nat) (0 : Nat), Value.int IntKind.i64 (1 : Int)]), []))
 (Sy.Res.br (bif false then true else Ex.ltQ (4095 : Int) b)
 (Sy.Res.leaf (Value.tuple (Array.mk [Value.slice none (0 : Nat) (0 : Nat), Value.int IntKind.i64 (1 : Int)]), []))
 (Sy.Res.br (bif false then true else Ex.ltQ k (0 : Int))
 (Sy.Res.leaf (Value.tuple (Array.mk [Value.slice none (0 : Nat) (0 : Nat), Value.int IntKind.i64 (1 : Int)]), []))
 (Sy.Res.br (bif false then true else Ex.ltQ (4 : Int) k)
 (Sy.Res.leaf
 (Value.tuple (Array.mk [Value.slice none (0 : Nat) (0 : Nat), Value.int IntKind.i64 (1 : Int)]), []))
 (Sy.Res.br (bif false then true else bif true then Ex.ltQ (0 : Int) (↑(List.length l) : Int) else false)
 (Sy.Res.leaf
 (Value.tuple (Array.mk [Value.slice none (0 : Nat) (0 : Nat), Value.int IntKind.i64 (1 : Int)]), []))
 (Sy.Res.need
 ((0 : Int) ≤
 Ex.wrapQ IntKind.u64
 (Ex.wrapQ IntKind.i64 (Ex.addQ (65536 : Int) (Ex.wrapQ IntKind.i64 (Ex.mulQ (8 : Int) b)))) ∧
 Ex.wrapQ IntKind.u64
 (Ex.wrapQ IntKind.i64 (Ex.addQ (65536 : Int) (Ex.wrapQ IntKind.i64 (Ex.mulQ (8 : Int) b)))) <
 (18446744073709551616 : Int))
 (Sy.Res.hyp
 (Nat.le
 (List.length
 (numL (29 : Int)
 (Ex.wrapQ IntKind.u64
 (Ex.wrapQ IntKind.i64 (Ex.addQ (65536 : Int) (Ex.wrapQ IntKind.i64 (Ex.mulQ (8 : Int) b)))))))
 (Let.n (ns (1 : Nat))))
 (Sy.Res.leaf
 (Value.tuple
 (Array.mk
 [Value.slice (some (Addr.mk (Let.n (ns (0 : Nat))) (0 : Nat) none))
 (List.length
 (numL (29 : Int)
 (Ex.wrapQ IntKind.u64
 (Ex.wrapQ IntKind.i64
 (Ex.addQ (65536 : Int) (Ex.wrapQ IntKind.i64 (Ex.mulQ (8 : Int) b)))))))
 (Let.n (ns (1 : Nat))),
 Value.int IntKind.i64 (0 : Int)]),
 [Blk.mk (Let.n (ns (0 : Nat)))
 (Sy.Cont.row (29 : Nat) (6 : Nat)
 (List.length
 (numL (29 : Int)
 (Ex.wrapQ IntKind.u64
 (Ex.wrapQ IntKind.i64
 (Ex.addQ (65536 : Int) (Ex.wrapQ IntKind.i64 (Ex.mulQ (8 : Int) b)))))))
 (Let.n (ns (1 : Nat)))
 (insCells
 (numL (29 : Int)
 (Ex.wrapQ IntKind.u64
 (Ex.wrapQ IntKind.i64
 (Ex.addQ (65536 : Int) (Ex.wrapQ IntKind.i64 (Ex.mulQ (8 : Int) b))))))))
 true]))))))))
theorem radZ_run (g o c : Nat) (l : List Nd) (b k : Int) : Sy.Ran (Sy.inT Try.prog (ctxI 0 k g o c l) 60 fRAd (radArgs g o c l b 0 k) [⟨g, .seg o (ndCells l), false⟩] (Sy.rowT tI)) radZ_o (radZ_R g o c l b k) := ⟨fun ns => by kernel_rfl, fun ns => by kernel_rfl⟩
def radN_o : Sy.O := (Sy.O.steps [0, 0, 0, 0, 0] (Sy.O.fork (Sy.O.steps [0, 0, 0, 0, 0, 0, 0, 0, 0, 0, 0, 0, 0, 0, 0, 0, 0, 0] Sy.O.nil) (Sy.O.steps [0] (Sy.O.fork (Sy.O.steps [0, 0, 0, 0, 0, 0, 0, 0, 0, 0, 0, 0, 0, 0, 0, 0] Sy.O.nil) (Sy.O.steps [0, 0, 0] (Sy.O.fork (Sy.O.steps [0, 0, 0, 0, 0, 0, 0, 0, 0, 0, 0, 0] Sy.O.nil) (Sy.O.steps [0] (Sy.O.fork (Sy.O.steps [0, 0, 0, 0, 0, 0, 0, 0, 0, 0] Sy.O.nil) (Sy.O.steps [0] (Sy.O.fork (Sy.O.steps [0, 0, 0, 0, 0, 0, 0, 0] Sy.O.nil) (Sy.O.steps [0, 0, 0, 0, 0, 0, 0, 0, 0, 0, 0, 0, 0, 0, 0] (Sy.O.fork Sy.O.nil (Sy.O.steps [0, 0, 0] (Sy.O.fork (Sy.O.fork Sy.O.nil (Sy.O.steps [0, 0, 1, 0, 0, 0, 0, 1, 0, 1, 1, 0, 0, 2, 0, 0, 0, 0, 1, 0, 1, 1, 0, 0] Sy.O.nil)) (Sy.O.fork Sy.O.nil (Sy.O.steps [0, 0, 1, 0, 0, 0, 0, 1, 0, 1, 1, 0, 0, 2, 0, 0, 0, 0, 1, 0, 1, 1, 0, 0] Sy.O.nil))))))))))))))))
noncomputable def radN_R (g : Nat) (o : Nat) (c : Nat) (l : List Nd) (b : Int) (k : Int) (p : Nat) (ns : Nat → Sy.Let) : Sy.Res (Value × List Blk) := Sy.Res.need True
 (Sy.Res.hyp True
 (Sy.Res.br (bif true then !tru (isPow (Int.negSucc p)) else false)
 (Sy.Res.leaf (Value.tuple (Array.mk [Value.slice none (0 : Nat) (0 : Nat), Value.int IntKind.i64 (1 : Int)]), []))
 (Sy.Res.br (bif false then true else Ex.ltQ b (0 : Int))
 (Sy.Res.leaf
 (Value.tuple (Array.mk [Value.slice none (0 : Nat) (0 : Nat), Value.int IntKind.i64 (1 : Int)]), []))
 (Sy.Res.br (bif false then true else Ex.ltQ (Ex.wrapQ IntKind.i64 (Ex.subQ' (4096 : Int) (Int.negSucc p))) b)
 (Sy.Res.leaf
 (Value.tuple (Array.mk [Value.slice none (0 : Nat) (0 : Nat), Value.int IntKind.i64 (1 : Int)]), []))
 (Sy.Res.br (bif false then true else Ex.ltQ k (0 : Int))
 (Sy.Res.leaf
 (Value.tuple (Array.mk [Value.slice none (0 : Nat) (0 : Nat), Value.int IntKind.i64 (1 : Int)]), []))
 (Sy.Res.br (bif false then true else Ex.ltQ (4 : Int) k)
 (Sy.Res.leaf
 (Value.tuple (Array.mk [Value.slice none (0 : Nat) (0 : Nat), Value.int IntKind.i64 (1 : Int)]), []))
 (Sy.Res.need (((0 : Int) ≤ (24 : Int) ∧ (24 : Int) ≤ (1000 : Int) ∧ goodN l) ∧ (0 : Nat) < List.length l)
 (Sy.Res.hyp True
 (Sy.Res.br (bif false then true else bif true then !tru (isExpr (24 : Int) l) else false)
 (Sy.Res.leaf
 (Value.tuple (Array.mk [Value.slice none (0 : Nat) (0 : Nat), Value.int IntKind.i64 (1 : Int)]),
 []))
 (Sy.Res.need
 (nodesOk (24 : Int) l ∧ (0 : Nat) < List.length l ∧ List.length l ≤ (65536 : Nat) ∧ onceOk l)
 (Sy.Res.hyp True
 (Sy.Res.br (Ex.ltQ (↑(E.needs (tr l (List.length l - (1 : Nat)))) : Int) (2 : Int))
 (Sy.Res.br (Ex.ltQ (5 : Int) (Ex.wrapQ IntKind.i64 (Ex.addQ k (2 : Int))))
 (Sy.Res.leaf
 (Value.tuple
 (Array.mk [Value.slice none (0 : Nat) (0 : Nat), Value.int IntKind.i64 (30 : Int)]),
 []))
 (Sy.Res.need
 ((isExpr (24 : Int) l ∧ goodN l) ∧
 (0 : Int) ≤ Ex.wrapQ IntKind.i64 (Ex.subQ' (↑(List.length l) : Int) (1 : Int)) ∧
 Ex.wrapQ IntKind.i64 (Ex.subQ' (↑(List.length l) : Int) (1 : Int)) <
 (↑(List.length l) : Int) ∧
 Ex.wrapQ IntKind.i64 (Ex.subQ' (↑(List.length l) : Int) (1 : Int)) <
 (↑(List.length l) : Int) ∧
 (24 : Int) ≤ Ex.wrapQ IntKind.i64 (Ex.addQ (24 : Int) k) ∧
 Ex.wrapQ IntKind.i64 (Ex.addQ (24 : Int) k) +
 (↑(E.needs
 (tr l
 (Int.toNat
 (Ex.wrapQ IntKind.i64
 (Ex.subQ' (↑(List.length l) : Int) (1 : Int)))))) :
 Int) ≤
 (29 : Int))
 (Sy.Res.hyp
 (Nat.le
 (List.length
 (lay
 (tr l
 (Int.toNat
 (Ex.wrapQ IntKind.i64 (Ex.subQ' (↑(List.length l) : Int) (1 : Int)))))
 (Ex.wrapQ IntKind.i64 (Ex.addQ (24 : Int) k))))
 (Let.n (ns (1 : Nat))))
 (Sy.Res.need
 (goodU
 (Ex.wrapQ IntKind.u64
 (Ex.wrapQ IntKind.i64 (Ex.subQ' (Int.negSucc p) (1 : Int)))) ∧
 List.length
 (lay
 (tr l
 (Int.toNat
 (Ex.wrapQ IntKind.i64 (Ex.subQ' (↑(List.length l) : Int) (1 : Int)))))
 (Ex.wrapQ IntKind.i64 (Ex.addQ (24 : Int) k))) ≤
 (1000000 : Nat))
 (Sy.Res.hyp
 (Nat.le
 (List.length
 (lay
 (tr l
 (Int.toNat
 (Ex.wrapQ IntKind.i64 (Ex.subQ' (↑(List.length l) : Int) (1 : Int)))))
 (Ex.wrapQ IntKind.i64 (Ex.addQ (24 : Int) k))) +
 List.length
 (numL
 (Ex.wrapQ IntKind.i64
 (Ex.addQ (Ex.wrapQ IntKind.i64 (Ex.addQ (24 : Int) k)) (1 : Int)))
 (Ex.wrapQ IntKind.u64
 (Ex.wrapQ IntKind.i64 (Ex.subQ' (Int.negSucc p) (1 : Int))))))
 (Let.n (ns (3 : Nat))))
 (Sy.Res.need
 (List.length
 (lay
 (tr l
 (Int.toNat
 (Ex.wrapQ IntKind.i64
 (Ex.subQ' (↑(List.length l) : Int) (1 : Int)))))
 (Ex.wrapQ IntKind.i64 (Ex.addQ (24 : Int) k))) +
 List.length
 (numL
 (Ex.wrapQ IntKind.i64
 (Ex.addQ (Ex.wrapQ IntKind.i64 (Ex.addQ (24 : Int) k)) (1 : Int)))
 (Ex.wrapQ IntKind.u64
 (Ex.wrapQ IntKind.i64 (Ex.subQ' (Int.negSucc p) (1 : Int))))) +
 (2 : Nat) ≤
 (9223372036854775807 : Nat))
 (Sy.Res.need
 ((List.length
 (lay
 (tr l
 (Int.toNat
 (Ex.wrapQ IntKind.i64
 (Ex.subQ' (↑(List.length l) : Int) (1 : Int)))))
 (Ex.wrapQ IntKind.i64 (Ex.addQ (24 : Int) k))) +
 List.length
 (numL
 (Ex.wrapQ IntKind.i64
 (Ex.addQ (Ex.wrapQ IntKind.i64 (Ex.addQ (24 : Int) k)) (1 : Int)))
 (Ex.wrapQ IntKind.u64
 (Ex.wrapQ IntKind.i64 (Ex.subQ' (Int.negSucc p) (1 : Int))))) +
 (2 : Nat)) *
 (48 : Nat) ≤
 (140737488355328 : Nat))
 (Sy.Res.hyp
 (Nat.le
 (List.length
 (lay
 (tr l
 (Int.toNat
 (Ex.wrapQ IntKind.i64
 (Ex.subQ' (↑(List.length l) : Int) (1 : Int)))))
 (Ex.wrapQ IntKind.i64 (Ex.addQ (24 : Int) k))) +
 List.length
 (numL
 (Ex.wrapQ IntKind.i64
 (Ex.addQ (Ex.wrapQ IntKind.i64 (Ex.addQ (24 : Int) k)) (1 : Int)))
 (Ex.wrapQ IntKind.u64
 (Ex.wrapQ IntKind.i64 (Ex.subQ' (Int.negSucc p) (1 : Int))))) +
 (2 : Nat))
 (Let.n (ns (6 : Nat))))
 (Sy.Res.need
 (goodU
 (Ex.wrapQ IntKind.u64
 (Ex.wrapQ IntKind.i64
 (Ex.addQ (65536 : Int)
 (Ex.wrapQ IntKind.i64 (Ex.mulQ (8 : Int) b))))) ∧
 List.length
 (lay
 (tr l
 (Int.toNat
 (Ex.wrapQ IntKind.i64
 (Ex.subQ' (↑(List.length l) : Int) (1 : Int)))))
 (Ex.wrapQ IntKind.i64 (Ex.addQ (24 : Int) k))) +
 List.length
 (I.mk (1 : Int)
 (Ex.wrapQ IntKind.i64
 (Ex.addQ (Ex.wrapQ IntKind.i64 (Ex.addQ (24 : Int) k))
 (1 : Int)))
 (0 : Int) (0 : Int)
 (Ex.wrapQ IntKind.u64
 (Ex.wrapQ IntKind.i64
 (Ex.subQ' (Int.negSucc p) (1 : Int))) %
 (65536 : Int))
 (0 : Int) ::
 (movk
 (Ex.wrapQ IntKind.i64
 (Ex.addQ (Ex.wrapQ IntKind.i64 (Ex.addQ (24 : Int) k))
 (1 : Int)))
 (Ex.wrapQ IntKind.u64
 (Ex.wrapQ IntKind.i64
 (Ex.subQ' (Int.negSucc p) (1 : Int))) /
 (65536 : Int) %
 (65536 : Int))
 (1 : Int) ++
 (movk
 (Ex.wrapQ IntKind.i64
 (Ex.addQ (Ex.wrapQ IntKind.i64 (Ex.addQ (24 : Int) k))
 (1 : Int)))
 (Ex.wrapQ IntKind.u64
 (Ex.wrapQ IntKind.i64
 (Ex.subQ' (Int.negSucc p) (1 : Int))) /
 (4294967296 : Int) %
 (65536 : Int))
 (2 : Int) ++
 movk
 (Ex.wrapQ IntKind.i64
 (Ex.addQ (Ex.wrapQ IntKind.i64 (Ex.addQ (24 : Int) k))
 (1 : Int)))
 (Ex.wrapQ IntKind.u64
 (Ex.wrapQ IntKind.i64
 (Ex.subQ' (Int.negSucc p) (1 : Int))) /
 (281474976710656 : Int) %
 (65536 : Int))
 (3 : Int)))) +
 (2 : Nat) ≤
 (1000000 : Nat))
 (Sy.Res.hyp
 (Nat.le
 (List.length
 (lay
 (tr l
 (Int.toNat
 (Ex.wrapQ IntKind.i64
 (Ex.subQ' (↑(List.length l) : Int) (1 : Int)))))
 (Ex.wrapQ IntKind.i64 (Ex.addQ (24 : Int) k))) +
 List.length
 (I.mk (1 : Int)
 (Ex.wrapQ IntKind.i64
 (Ex.addQ (Ex.wrapQ IntKind.i64 (Ex.addQ (24 : Int) k))
 (1 : Int)))
 (0 : Int) (0 : Int)
 (Ex.wrapQ IntKind.u64
 (Ex.wrapQ IntKind.i64
 (Ex.subQ' (Int.negSucc p) (1 : Int))) %
 (65536 : Int))
 (0 : Int) ::
 (movk
 (Ex.wrapQ IntKind.i64
 (Ex.addQ (Ex.wrapQ IntKind.i64 (Ex.addQ (24 : Int) k))
 (1 : Int)))
 (Ex.wrapQ IntKind.u64
 (Ex.wrapQ IntKind.i64
 (Ex.subQ' (Int.negSucc p) (1 : Int))) /
 (65536 : Int) %
 (65536 : Int))
 (1 : Int) ++
 (movk
 (Ex.wrapQ IntKind.i64
 (Ex.addQ (Ex.wrapQ IntKind.i64 (Ex.addQ (24 : Int) k))
 (1 : Int)))
 (Ex.wrapQ IntKind.u64
 (Ex.wrapQ IntKind.i64
 (Ex.subQ' (Int.negSucc p) (1 : Int))) /
 (4294967296 : Int) %
 (65536 : Int))
 (2 : Int) ++
 movk
 (Ex.wrapQ IntKind.i64
 (Ex.addQ (Ex.wrapQ IntKind.i64 (Ex.addQ (24 : Int) k))
 (1 : Int)))
 (Ex.wrapQ IntKind.u64
 (Ex.wrapQ IntKind.i64
 (Ex.subQ' (Int.negSucc p) (1 : Int))) /
 (281474976710656 : Int) %
 (65536 : Int))
 (3 : Int)))) +
 (2 : Nat) +
 List.length
 (numL (29 : Int)
 (Ex.wrapQ IntKind.u64
 (Ex.wrapQ IntKind.i64
 (Ex.addQ (65536 : Int)
 (Ex.wrapQ IntKind.i64 (Ex.mulQ (8 : Int) b)))))))
 (Let.n (ns (8 : Nat))))
 (Sy.Res.need
 (List.length
 (lay
 (tr l
 (Int.toNat
 (Ex.wrapQ IntKind.i64
 (Ex.subQ' (↑(List.length l) : Int) (1 : Int)))))
 (Ex.wrapQ IntKind.i64 (Ex.addQ (24 : Int) k))) +
 List.length
 (I.mk (1 : Int)
 (Ex.wrapQ IntKind.i64
 (Ex.addQ (Ex.wrapQ IntKind.i64 (Ex.addQ (24 : Int) k))
 (1 : Int)))
 (0 : Int) (0 : Int)
 (Ex.wrapQ IntKind.u64
 (Ex.wrapQ IntKind.i64
 (Ex.subQ' (Int.negSucc p) (1 : Int))) %
 (65536 : Int))
 (0 : Int) ::
 (movk
 (Ex.wrapQ IntKind.i64
 (Ex.addQ
 (Ex.wrapQ IntKind.i64 (Ex.addQ (24 : Int) k))
 (1 : Int)))
 (Ex.wrapQ IntKind.u64
 (Ex.wrapQ IntKind.i64
 (Ex.subQ' (Int.negSucc p) (1 : Int))) /
 (65536 : Int) %
 (65536 : Int))
 (1 : Int) ++
 (movk
 (Ex.wrapQ IntKind.i64
 (Ex.addQ
 (Ex.wrapQ IntKind.i64 (Ex.addQ (24 : Int) k))
 (1 : Int)))
 (Ex.wrapQ IntKind.u64
 (Ex.wrapQ IntKind.i64
 (Ex.subQ' (Int.negSucc p) (1 : Int))) /
 (4294967296 : Int) %
 (65536 : Int))
 (2 : Int) ++
 movk
 (Ex.wrapQ IntKind.i64
 (Ex.addQ
 (Ex.wrapQ IntKind.i64 (Ex.addQ (24 : Int) k))
 (1 : Int)))
 (Ex.wrapQ IntKind.u64
 (Ex.wrapQ IntKind.i64
 (Ex.subQ' (Int.negSucc p) (1 : Int))) /
 (281474976710656 : Int) %
 (65536 : Int))
 (3 : Int)))) +
 (2 : Nat) +
 List.length
 (numL (29 : Int)
 (Ex.wrapQ IntKind.u64
 (Ex.wrapQ IntKind.i64
 (Ex.addQ (65536 : Int)
 (Ex.wrapQ IntKind.i64 (Ex.mulQ (8 : Int) b)))))) +
 (1 : Nat) ≤
 (9223372036854775807 : Nat))
 (Sy.Res.need
 ((List.length
 (lay
 (tr l
 (Int.toNat
 (Ex.wrapQ IntKind.i64
 (Ex.subQ' (↑(List.length l) : Int) (1 : Int)))))
 (Ex.wrapQ IntKind.i64 (Ex.addQ (24 : Int) k))) +
 List.length
 (I.mk (1 : Int)
 (Ex.wrapQ IntKind.i64
 (Ex.addQ
 (Ex.wrapQ IntKind.i64 (Ex.addQ (24 : Int) k))
 (1 : Int)))
 (0 : Int) (0 : Int)
 (Ex.wrapQ IntKind.u64
 (Ex.wrapQ IntKind.i64
 (Ex.subQ' (Int.negSucc p) (1 : Int))) %
 (65536 : Int))
 (0 : Int) ::
 (movk
 (Ex.wrapQ IntKind.i64
 (Ex.addQ
 (Ex.wrapQ IntKind.i64 (Ex.addQ (24 : Int) k))
 (1 : Int)))
 (Ex.wrapQ IntKind.u64
 (Ex.wrapQ IntKind.i64
 (Ex.subQ' (Int.negSucc p) (1 : Int))) /
 (65536 : Int) %
 (65536 : Int))
 (1 : Int) ++
 (movk
 (Ex.wrapQ IntKind.i64
 (Ex.addQ
 (Ex.wrapQ IntKind.i64
 (Ex.addQ (24 : Int) k))
 (1 : Int)))
 (Ex.wrapQ IntKind.u64
 (Ex.wrapQ IntKind.i64
 (Ex.subQ' (Int.negSucc p) (1 : Int))) /
 (4294967296 : Int) %
 (65536 : Int))
 (2 : Int) ++
 movk
 (Ex.wrapQ IntKind.i64
 (Ex.addQ
 (Ex.wrapQ IntKind.i64
 (Ex.addQ (24 : Int) k))
 (1 : Int)))
 (Ex.wrapQ IntKind.u64
 (Ex.wrapQ IntKind.i64
 (Ex.subQ' (Int.negSucc p) (1 : Int))) /
 (281474976710656 : Int) %
 (65536 : Int))
 (3 : Int)))) +
 (2 : Nat) +
 List.length
 (numL (29 : Int)
 (Ex.wrapQ IntKind.u64
 (Ex.wrapQ IntKind.i64
 (Ex.addQ (65536 : Int)
 (Ex.wrapQ IntKind.i64 (Ex.mulQ (8 : Int) b)))))) +
 (1 : Nat)) *
 (48 : Nat) ≤
 (140737488355328 : Nat))
 (Sy.Res.hyp
 (Nat.le
 (List.length
 (lay
 (tr l
 (Int.toNat
 (Ex.wrapQ IntKind.i64
 (Ex.subQ' (↑(List.length l) : Int) (1 : Int)))))
 (Ex.wrapQ IntKind.i64 (Ex.addQ (24 : Int) k))) +
 List.length
 (I.mk (1 : Int)
 (Ex.wrapQ IntKind.i64
 (Ex.addQ
 (Ex.wrapQ IntKind.i64 (Ex.addQ (24 : Int) k))
 (1 : Int)))
 (0 : Int) (0 : Int)
 (Ex.wrapQ IntKind.u64
 (Ex.wrapQ IntKind.i64
 (Ex.subQ' (Int.negSucc p) (1 : Int))) %
 (65536 : Int))
 (0 : Int) ::
 (movk
 (Ex.wrapQ IntKind.i64
 (Ex.addQ
 (Ex.wrapQ IntKind.i64 (Ex.addQ (24 : Int) k))
 (1 : Int)))
 (Ex.wrapQ IntKind.u64
 (Ex.wrapQ IntKind.i64
 (Ex.subQ' (Int.negSucc p) (1 : Int))) /
 (65536 : Int) %
 (65536 : Int))
 (1 : Int) ++
 (movk
 (Ex.wrapQ IntKind.i64
 (Ex.addQ
 (Ex.wrapQ IntKind.i64
 (Ex.addQ (24 : Int) k))
 (1 : Int)))
 (Ex.wrapQ IntKind.u64
 (Ex.wrapQ IntKind.i64
 (Ex.subQ' (Int.negSucc p) (1 : Int))) /
 (4294967296 : Int) %
 (65536 : Int))
 (2 : Int) ++
 movk
 (Ex.wrapQ IntKind.i64
 (Ex.addQ
 (Ex.wrapQ IntKind.i64
 (Ex.addQ (24 : Int) k))
 (1 : Int)))
 (Ex.wrapQ IntKind.u64
 (Ex.wrapQ IntKind.i64
 (Ex.subQ' (Int.negSucc p) (1 : Int))) /
 (281474976710656 : Int) %
 (65536 : Int))
 (3 : Int)))) +
 (2 : Nat) +
 List.length
 (numL (29 : Int)
 (Ex.wrapQ IntKind.u64
 (Ex.wrapQ IntKind.i64
 (Ex.addQ (65536 : Int)
 (Ex.wrapQ IntKind.i64 (Ex.mulQ (8 : Int) b)))))) +
 (1 : Nat))
 (Let.n (ns (11 : Nat))))
 (Sy.Res.leaf
 (Value.tuple
 (Array.mk
 [Value.slice
 (some (Addr.mk (Let.n (ns (10 : Nat))) (0 : Nat) none))
 (List.length
 (lay
 (tr l
 (Int.toNat
 (Ex.wrapQ IntKind.i64
 (Ex.subQ' (↑(List.length l) : Int)
 (1 : Int)))))
 (Ex.wrapQ IntKind.i64
 (Ex.addQ (24 : Int) k))) +
 List.length
 (I.mk (1 : Int)
 (Ex.wrapQ IntKind.i64
 (Ex.addQ
 (Ex.wrapQ IntKind.i64
 (Ex.addQ (24 : Int) k))
 (1 : Int)))
 (0 : Int) (0 : Int)
 (Ex.wrapQ IntKind.u64
 (Ex.wrapQ IntKind.i64
 (Ex.subQ' (Int.negSucc p)
 (1 : Int))) %
 (65536 : Int))
 (0 : Int) ::
 (movk
 (Ex.wrapQ IntKind.i64
 (Ex.addQ
 (Ex.wrapQ IntKind.i64
 (Ex.addQ (24 : Int) k))
 (1 : Int)))
 (Ex.wrapQ IntKind.u64
 (Ex.wrapQ IntKind.i64
 (Ex.subQ' (Int.negSucc p)
 (1 : Int))) /
 (65536 : Int) %
 (65536 : Int))
 (1 : Int) ++
 (movk
 (Ex.wrapQ IntKind.i64
 (Ex.addQ
 (Ex.wrapQ IntKind.i64
 (Ex.addQ (24 : Int) k))
 (1 : Int)))
 (Ex.wrapQ IntKind.u64
 (Ex.wrapQ IntKind.i64
 (Ex.subQ' (Int.negSucc p)
 (1 : Int))) /
 (4294967296 : Int) %
 (65536 : Int))
 (2 : Int) ++
 movk
 (Ex.wrapQ IntKind.i64
 (Ex.addQ
 (Ex.wrapQ IntKind.i64
 (Ex.addQ (24 : Int) k))
 (1 : Int)))
 (Ex.wrapQ IntKind.u64
 (Ex.wrapQ IntKind.i64
 (Ex.subQ' (Int.negSucc p)
 (1 : Int))) /
 (281474976710656 : Int) %
 (65536 : Int))
 (3 : Int)))) +
 (2 : Nat) +
 List.length
 (numL (29 : Int)
 (Ex.wrapQ IntKind.u64
 (Ex.wrapQ IntKind.i64
 (Ex.addQ (65536 : Int)
 (Ex.wrapQ IntKind.i64
 (Ex.mulQ (8 : Int) b)))))) +
 (1 : Nat))
 (Let.n (ns (11 : Nat))),
 Value.int IntKind.i64 (0 : Int)]),
 [Blk.mk (Let.n (ns (10 : Nat)))
 (Sy.Cont.row (29 : Nat) (6 : Nat)
 (List.length
 (lay
 (tr l
 (Int.toNat
 (Ex.wrapQ IntKind.i64
 (Ex.subQ' (↑(List.length l) : Int)
 (1 : Int)))))
 (Ex.wrapQ IntKind.i64
 (Ex.addQ (24 : Int) k))) +
 List.length
 (I.mk (1 : Int)
 (Ex.wrapQ IntKind.i64
 (Ex.addQ
 (Ex.wrapQ IntKind.i64
 (Ex.addQ (24 : Int) k))
 (1 : Int)))
 (0 : Int) (0 : Int)
 (Ex.wrapQ IntKind.u64
 (Ex.wrapQ IntKind.i64
 (Ex.subQ' (Int.negSucc p)
 (1 : Int))) %
 (65536 : Int))
 (0 : Int) ::
 (movk
 (Ex.wrapQ IntKind.i64
 (Ex.addQ
 (Ex.wrapQ IntKind.i64
 (Ex.addQ (24 : Int) k))
 (1 : Int)))
 (Ex.wrapQ IntKind.u64
 (Ex.wrapQ IntKind.i64
 (Ex.subQ' (Int.negSucc p)
 (1 : Int))) /
 (65536 : Int) %
 (65536 : Int))
 (1 : Int) ++
 (movk
 (Ex.wrapQ IntKind.i64
 (Ex.addQ
 (Ex.wrapQ IntKind.i64
 (Ex.addQ (24 : Int) k))
 (1 : Int)))
 (Ex.wrapQ IntKind.u64
 (Ex.wrapQ IntKind.i64
 (Ex.subQ' (Int.negSucc p)
 (1 : Int))) /
 (4294967296 : Int) %
 (65536 : Int))
 (2 : Int) ++
 movk
 (Ex.wrapQ IntKind.i64
 (Ex.addQ
 (Ex.wrapQ IntKind.i64
 (Ex.addQ (24 : Int) k))
 (1 : Int)))
 (Ex.wrapQ IntKind.u64
 (Ex.wrapQ IntKind.i64
 (Ex.subQ' (Int.negSucc p)
 (1 : Int))) /
 (281474976710656 : Int) %
 (65536 : Int))
 (3 : Int)))) +
 (2 : Nat) +
 List.length
 (numL (29 : Int)
 (Ex.wrapQ IntKind.u64
 (Ex.wrapQ IntKind.i64
 (Ex.addQ (65536 : Int)
 (Ex.wrapQ IntKind.i64
 (Ex.mulQ (8 : Int) b)))))) +
 (1 : Nat))
 (Let.n (ns (11 : Nat)))
 (insCells
 (lay
 (tr l
 (Int.toNat
 (Ex.wrapQ IntKind.i64
 (Ex.subQ' (↑(List.length l) : Int)
 (1 : Int)))))
 (Ex.wrapQ IntKind.i64
 (Ex.addQ (24 : Int) k))) ++
 insCells
 (I.mk (1 : Int)
 (Ex.wrapQ IntKind.i64
 (Ex.addQ
 (Ex.wrapQ IntKind.i64
 (Ex.addQ (24 : Int) k))
 (1 : Int)))
 (0 : Int) (0 : Int)
 (Ex.wrapQ IntKind.u64
 (Ex.wrapQ IntKind.i64
 (Ex.subQ' (Int.negSucc p)
 (1 : Int))) %
 (65536 : Int))
 (0 : Int) ::
 (movk
 (Ex.wrapQ IntKind.i64
 (Ex.addQ
 (Ex.wrapQ IntKind.i64
 (Ex.addQ (24 : Int) k))
 (1 : Int)))
 (Ex.wrapQ IntKind.u64
 (Ex.wrapQ IntKind.i64
 (Ex.subQ' (Int.negSucc p)
 (1 : Int))) /
 (65536 : Int) %
 (65536 : Int))
 (1 : Int) ++
 (movk
 (Ex.wrapQ IntKind.i64
 (Ex.addQ
 (Ex.wrapQ IntKind.i64
 (Ex.addQ (24 : Int) k))
 (1 : Int)))
 (Ex.wrapQ IntKind.u64
 (Ex.wrapQ IntKind.i64
 (Ex.subQ' (Int.negSucc p)
 (1 : Int))) /
 (4294967296 : Int) %
 (65536 : Int))
 (2 : Int) ++
 movk
 (Ex.wrapQ IntKind.i64
 (Ex.addQ
 (Ex.wrapQ IntKind.i64
 (Ex.addQ (24 : Int) k))
 (1 : Int)))
 (Ex.wrapQ IntKind.u64
 (Ex.wrapQ IntKind.i64
 (Ex.subQ' (Int.negSucc p)
 (1 : Int))) /
 (281474976710656 : Int) %
 (65536 : Int))
 (3 : Int)))) ++
 [Value.int IntKind.i64 (5 : Int),
 Value.int IntKind.i64
 (Ex.wrapQ IntKind.i64 (Ex.addQ (24 : Int) k)),
 Value.int IntKind.i64
 (Ex.wrapQ IntKind.i64 (Ex.addQ (24 : Int) k)),
 Value.int IntKind.i64
 (Ex.wrapQ IntKind.i64
 (Ex.addQ
 (Ex.wrapQ IntKind.i64
 (Ex.addQ (24 : Int) k))
 (1 : Int))),
 Value.int IntKind.i64 (0 : Int),
 Value.int IntKind.i64 (0 : Int),
 Value.int IntKind.i64 (14 : Int),
 Value.int IntKind.i64
 (Ex.wrapQ IntKind.i64 (Ex.addQ (24 : Int) k)),
 Value.int IntKind.i64
 (Ex.wrapQ IntKind.i64 (Ex.addQ (24 : Int) k)),
 Value.int IntKind.i64 (0 : Int),
 Value.int IntKind.i64 (3 : Int),
 Value.int IntKind.i64 (0 : Int)] ++
 insCells
 (numL (29 : Int)
 (Ex.wrapQ IntKind.u64
 (Ex.wrapQ IntKind.i64
 (Ex.addQ (65536 : Int)
 (Ex.wrapQ IntKind.i64
 (Ex.mulQ (8 : Int) b)))))) ++
 [Value.int IntKind.i64 (3 : Int),
 Value.int IntKind.i64 (29 : Int),
 Value.int IntKind.i64 (29 : Int),
 Value.int IntKind.i64
 (Ex.wrapQ IntKind.i64 (Ex.addQ (24 : Int) k)),
 Value.int IntKind.i64 (0 : Int),
 Value.int IntKind.i64 (0 : Int)]))
 true,
 Blk.mk (Let.n (ns (9 : Nat)))
 (Sy.Cont.obj
 (Obj.cells
 (Array.mk
 [Value.int IntKind.i64 (3 : Int),
 Value.int IntKind.i64 (29 : Int),
 Value.int IntKind.i64 (29 : Int),
 Value.int IntKind.i64
 (Ex.wrapQ IntKind.i64 (Ex.addQ (24 : Int) k)),
 Value.int IntKind.i64 (0 : Int),
 Value.int IntKind.i64 (0 : Int)])
 (29 : Nat)))
 true,
 Blk.mk (Let.n (ns (4 : Nat)))
 (Sy.Cont.obj
 (Obj.cells
 (Array.mk
 [Value.int IntKind.i64 (5 : Int),
 Value.int IntKind.i64
 (Ex.wrapQ IntKind.i64 (Ex.addQ (24 : Int) k)),
 Value.int IntKind.i64
 (Ex.wrapQ IntKind.i64 (Ex.addQ (24 : Int) k)),
 Value.int IntKind.i64
 (Ex.wrapQ IntKind.i64
 (Ex.addQ
 (Ex.wrapQ IntKind.i64 (Ex.addQ (24 : Int) k))
 (1 : Int))),
 Value.int IntKind.i64 (0 : Int),
 Value.int IntKind.i64 (0 : Int),
 Value.int IntKind.i64 (14 : Int),
 Value.int IntKind.i64
 (Ex.wrapQ IntKind.i64 (Ex.addQ (24 : Int) k)),
 Value.int IntKind.i64
 (Ex.wrapQ IntKind.i64 (Ex.addQ (24 : Int) k)),
 Value.int IntKind.i64 (0 : Int),
 Value.int IntKind.i64 (3 : Int),
 Value.int IntKind.i64 (0 : Int)])
 (29 : Nat)))
 true])))))))))))))))
 (Sy.Res.br
 (Ex.ltQ (5 : Int)
 (Ex.wrapQ IntKind.i64 (Ex.addQ k (↑(E.needs (tr l (List.length l - (1 : Nat)))) : Int))))
 (Sy.Res.leaf
 (Value.tuple
 (Array.mk [Value.slice none (0 : Nat) (0 : Nat), Value.int IntKind.i64 (30 : Int)]),
 []))
 (Sy.Res.need
 ((isExpr (24 : Int) l ∧ goodN l) ∧
 (0 : Int) ≤ Ex.wrapQ IntKind.i64 (Ex.subQ' (↑(List.length l) : Int) (1 : Int)) ∧
 Ex.wrapQ IntKind.i64 (Ex.subQ' (↑(List.length l) : Int) (1 : Int)) <
 (↑(List.length l) : Int) ∧
 Ex.wrapQ IntKind.i64 (Ex.subQ' (↑(List.length l) : Int) (1 : Int)) <
 (↑(List.length l) : Int) ∧
 (24 : Int) ≤ Ex.wrapQ IntKind.i64 (Ex.addQ (24 : Int) k) ∧
 Ex.wrapQ IntKind.i64 (Ex.addQ (24 : Int) k) +
 (↑(E.needs
 (tr l
 (Int.toNat
 (Ex.wrapQ IntKind.i64
 (Ex.subQ' (↑(List.length l) : Int) (1 : Int)))))) :
 Int) ≤
 (29 : Int))
 (Sy.Res.hyp
 (Nat.le
 (List.length
 (lay
 (tr l
 (Int.toNat
 (Ex.wrapQ IntKind.i64 (Ex.subQ' (↑(List.length l) : Int) (1 : Int)))))
 (Ex.wrapQ IntKind.i64 (Ex.addQ (24 : Int) k))))
 (Let.n (ns (1 : Nat))))
 (Sy.Res.need
 (goodU
 (Ex.wrapQ IntKind.u64
 (Ex.wrapQ IntKind.i64 (Ex.subQ' (Int.negSucc p) (1 : Int)))) ∧
 List.length
 (lay
 (tr l
 (Int.toNat
 (Ex.wrapQ IntKind.i64 (Ex.subQ' (↑(List.length l) : Int) (1 : Int)))))
 (Ex.wrapQ IntKind.i64 (Ex.addQ (24 : Int) k))) ≤
 (1000000 : Nat))
 (Sy.Res.hyp
 (Nat.le
 (List.length
 (lay
 (tr l
 (Int.toNat
 (Ex.wrapQ IntKind.i64 (Ex.subQ' (↑(List.length l) : Int) (1 : Int)))))
 (Ex.wrapQ IntKind.i64 (Ex.addQ (24 : Int) k))) +
 List.length
 (numL
 (Ex.wrapQ IntKind.i64
 (Ex.addQ (Ex.wrapQ IntKind.i64 (Ex.addQ (24 : Int) k)) (1 : Int)))
 (Ex.wrapQ IntKind.u64
 (Ex.wrapQ IntKind.i64 (Ex.subQ' (Int.negSucc p) (1 : Int))))))
 (Let.n (ns (3 : Nat))))
 (Sy.Res.need
 (List.length
 (lay
 (tr l
 (Int.toNat
 (Ex.wrapQ IntKind.i64
 (Ex.subQ' (↑(List.length l) : Int) (1 : Int)))))
 (Ex.wrapQ IntKind.i64 (Ex.addQ (24 : Int) k))) +
 List.length
 (numL
 (Ex.wrapQ IntKind.i64
 (Ex.addQ (Ex.wrapQ IntKind.i64 (Ex.addQ (24 : Int) k)) (1 : Int)))
 (Ex.wrapQ IntKind.u64
 (Ex.wrapQ IntKind.i64 (Ex.subQ' (Int.negSucc p) (1 : Int))))) +
 (2 : Nat) ≤
 (9223372036854775807 : Nat))
 (Sy.Res.need
 ((List.length
 (lay
 (tr l
 (Int.toNat
 (Ex.wrapQ IntKind.i64
 (Ex.subQ' (↑(List.length l) : Int) (1 : Int)))))
 (Ex.wrapQ IntKind.i64 (Ex.addQ (24 : Int) k))) +
 List.length
 (numL
 (Ex.wrapQ IntKind.i64
 (Ex.addQ (Ex.wrapQ IntKind.i64 (Ex.addQ (24 : Int) k)) (1 : Int)))
 (Ex.wrapQ IntKind.u64
 (Ex.wrapQ IntKind.i64 (Ex.subQ' (Int.negSucc p) (1 : Int))))) +
 (2 : Nat)) *
 (48 : Nat) ≤
 (140737488355328 : Nat))
 (Sy.Res.hyp
 (Nat.le
 (List.length
 (lay
 (tr l
 (Int.toNat
 (Ex.wrapQ IntKind.i64
 (Ex.subQ' (↑(List.length l) : Int) (1 : Int)))))
 (Ex.wrapQ IntKind.i64 (Ex.addQ (24 : Int) k))) +
 List.length
 (numL
 (Ex.wrapQ IntKind.i64
 (Ex.addQ (Ex.wrapQ IntKind.i64 (Ex.addQ (24 : Int) k)) (1 : Int)))
 (Ex.wrapQ IntKind.u64
 (Ex.wrapQ IntKind.i64 (Ex.subQ' (Int.negSucc p) (1 : Int))))) +
 (2 : Nat))
 (Let.n (ns (6 : Nat))))
 (Sy.Res.need
 (goodU
 (Ex.wrapQ IntKind.u64
 (Ex.wrapQ IntKind.i64
 (Ex.addQ (65536 : Int)
 (Ex.wrapQ IntKind.i64 (Ex.mulQ (8 : Int) b))))) ∧
 List.length
 (lay
 (tr l
 (Int.toNat
 (Ex.wrapQ IntKind.i64
 (Ex.subQ' (↑(List.length l) : Int) (1 : Int)))))
 (Ex.wrapQ IntKind.i64 (Ex.addQ (24 : Int) k))) +
 List.length
 (I.mk (1 : Int)
 (Ex.wrapQ IntKind.i64
 (Ex.addQ (Ex.wrapQ IntKind.i64 (Ex.addQ (24 : Int) k))
 (1 : Int)))
 (0 : Int) (0 : Int)
 (Ex.wrapQ IntKind.u64
 (Ex.wrapQ IntKind.i64
 (Ex.subQ' (Int.negSucc p) (1 : Int))) %
 (65536 : Int))
 (0 : Int) ::
 (movk
 (Ex.wrapQ IntKind.i64
 (Ex.addQ (Ex.wrapQ IntKind.i64 (Ex.addQ (24 : Int) k))
 (1 : Int)))
 (Ex.wrapQ IntKind.u64
 (Ex.wrapQ IntKind.i64
 (Ex.subQ' (Int.negSucc p) (1 : Int))) /
 (65536 : Int) %
 (65536 : Int))
 (1 : Int) ++
 (movk
 (Ex.wrapQ IntKind.i64
 (Ex.addQ (Ex.wrapQ IntKind.i64 (Ex.addQ (24 : Int) k))
 (1 : Int)))
 (Ex.wrapQ IntKind.u64
 (Ex.wrapQ IntKind.i64
 (Ex.subQ' (Int.negSucc p) (1 : Int))) /
 (4294967296 : Int) %
 (65536 : Int))
 (2 : Int) ++
 movk
 (Ex.wrapQ IntKind.i64
 (Ex.addQ (Ex.wrapQ IntKind.i64 (Ex.addQ (24 : Int) k))
 (1 : Int)))
 (Ex.wrapQ IntKind.u64
 (Ex.wrapQ IntKind.i64
 (Ex.subQ' (Int.negSucc p) (1 : Int))) /
 (281474976710656 : Int) %
 (65536 : Int))
 (3 : Int)))) +
 (2 : Nat) ≤
 (1000000 : Nat))
 (Sy.Res.hyp
 (Nat.le
 (List.length
 (lay
 (tr l
 (Int.toNat
 (Ex.wrapQ IntKind.i64
 (Ex.subQ' (↑(List.length l) : Int) (1 : Int)))))
 (Ex.wrapQ IntKind.i64 (Ex.addQ (24 : Int) k))) +
 List.length
 (I.mk (1 : Int)
 (Ex.wrapQ IntKind.i64
 (Ex.addQ (Ex.wrapQ IntKind.i64 (Ex.addQ (24 : Int) k))
 (1 : Int)))
 (0 : Int) (0 : Int)
 (Ex.wrapQ IntKind.u64
 (Ex.wrapQ IntKind.i64
 (Ex.subQ' (Int.negSucc p) (1 : Int))) %
 (65536 : Int))
 (0 : Int) ::
 (movk
 (Ex.wrapQ IntKind.i64
 (Ex.addQ (Ex.wrapQ IntKind.i64 (Ex.addQ (24 : Int) k))
 (1 : Int)))
 (Ex.wrapQ IntKind.u64
 (Ex.wrapQ IntKind.i64
 (Ex.subQ' (Int.negSucc p) (1 : Int))) /
 (65536 : Int) %
 (65536 : Int))
 (1 : Int) ++
 (movk
 (Ex.wrapQ IntKind.i64
 (Ex.addQ (Ex.wrapQ IntKind.i64 (Ex.addQ (24 : Int) k))
 (1 : Int)))
 (Ex.wrapQ IntKind.u64
 (Ex.wrapQ IntKind.i64
 (Ex.subQ' (Int.negSucc p) (1 : Int))) /
 (4294967296 : Int) %
 (65536 : Int))
 (2 : Int) ++
 movk
 (Ex.wrapQ IntKind.i64
 (Ex.addQ (Ex.wrapQ IntKind.i64 (Ex.addQ (24 : Int) k))
 (1 : Int)))
 (Ex.wrapQ IntKind.u64
 (Ex.wrapQ IntKind.i64
 (Ex.subQ' (Int.negSucc p) (1 : Int))) /
 (281474976710656 : Int) %
 (65536 : Int))
 (3 : Int)))) +
 (2 : Nat) +
 List.length
 (numL (29 : Int)
 (Ex.wrapQ IntKind.u64
 (Ex.wrapQ IntKind.i64
 (Ex.addQ (65536 : Int)
 (Ex.wrapQ IntKind.i64 (Ex.mulQ (8 : Int) b)))))))
 (Let.n (ns (8 : Nat))))
 (Sy.Res.need
 (List.length
 (lay
 (tr l
 (Int.toNat
 (Ex.wrapQ IntKind.i64
 (Ex.subQ' (↑(List.length l) : Int) (1 : Int)))))
 (Ex.wrapQ IntKind.i64 (Ex.addQ (24 : Int) k))) +
 List.length
 (I.mk (1 : Int)
 (Ex.wrapQ IntKind.i64
 (Ex.addQ (Ex.wrapQ IntKind.i64 (Ex.addQ (24 : Int) k))
 (1 : Int)))
 (0 : Int) (0 : Int)
 (Ex.wrapQ IntKind.u64
 (Ex.wrapQ IntKind.i64
 (Ex.subQ' (Int.negSucc p) (1 : Int))) %
 (65536 : Int))
 (0 : Int) ::
 (movk
 (Ex.wrapQ IntKind.i64
 (Ex.addQ
 (Ex.wrapQ IntKind.i64 (Ex.addQ (24 : Int) k))
 (1 : Int)))
 (Ex.wrapQ IntKind.u64
 (Ex.wrapQ IntKind.i64
 (Ex.subQ' (Int.negSucc p) (1 : Int))) /
 (65536 : Int) %
 (65536 : Int))
 (1 : Int) ++
 (movk
 (Ex.wrapQ IntKind.i64
 (Ex.addQ
 (Ex.wrapQ IntKind.i64 (Ex.addQ (24 : Int) k))
 (1 : Int)))
 (Ex.wrapQ IntKind.u64
 (Ex.wrapQ IntKind.i64
 (Ex.subQ' (Int.negSucc p) (1 : Int))) /
 (4294967296 : Int) %
 (65536 : Int))
 (2 : Int) ++
 movk
 (Ex.wrapQ IntKind.i64
 (Ex.addQ
 (Ex.wrapQ IntKind.i64 (Ex.addQ (24 : Int) k))
 (1 : Int)))
 (Ex.wrapQ IntKind.u64
 (Ex.wrapQ IntKind.i64
 (Ex.subQ' (Int.negSucc p) (1 : Int))) /
 (281474976710656 : Int) %
 (65536 : Int))
 (3 : Int)))) +
 (2 : Nat) +
 List.length
 (numL (29 : Int)
 (Ex.wrapQ IntKind.u64
 (Ex.wrapQ IntKind.i64
 (Ex.addQ (65536 : Int)
 (Ex.wrapQ IntKind.i64 (Ex.mulQ (8 : Int) b)))))) +
 (1 : Nat) ≤
 (9223372036854775807 : Nat))
 (Sy.Res.need
 ((List.length
 (lay
 (tr l
 (Int.toNat
 (Ex.wrapQ IntKind.i64
 (Ex.subQ' (↑(List.length l) : Int) (1 : Int)))))
 (Ex.wrapQ IntKind.i64 (Ex.addQ (24 : Int) k))) +
 List.length
 (I.mk (1 : Int)
 (Ex.wrapQ IntKind.i64
 (Ex.addQ
 (Ex.wrapQ IntKind.i64 (Ex.addQ (24 : Int) k))
 (1 : Int)))
 (0 : Int) (0 : Int)
 (Ex.wrapQ IntKind.u64
 (Ex.wrapQ IntKind.i64
 (Ex.subQ' (Int.negSucc p) (1 : Int))) %
 (65536 : Int))
 (0 : Int) ::
 (movk
 (Ex.wrapQ IntKind.i64
 (Ex.addQ
 (Ex.wrapQ IntKind.i64 (Ex.addQ (24 : Int) k))
 (1 : Int)))
 (Ex.wrapQ IntKind.u64
 (Ex.wrapQ IntKind.i64
 (Ex.subQ' (Int.negSucc p) (1 : Int))) /
 (65536 : Int) %
 (65536 : Int))
 (1 : Int) ++
 (movk
 (Ex.wrapQ IntKind.i64
 (Ex.addQ
 (Ex.wrapQ IntKind.i64
 (Ex.addQ (24 : Int) k))
 (1 : Int)))
 (Ex.wrapQ IntKind.u64
 (Ex.wrapQ IntKind.i64
 (Ex.subQ' (Int.negSucc p) (1 : Int))) /
 (4294967296 : Int) %
 (65536 : Int))
 (2 : Int) ++
 movk
 (Ex.wrapQ IntKind.i64
 (Ex.addQ
 (Ex.wrapQ IntKind.i64
 (Ex.addQ (24 : Int) k))
 (1 : Int)))
 (Ex.wrapQ IntKind.u64
 (Ex.wrapQ IntKind.i64
 (Ex.subQ' (Int.negSucc p) (1 : Int))) /
 (281474976710656 : Int) %
 (65536 : Int))
 (3 : Int)))) +
 (2 : Nat) +
 List.length
 (numL (29 : Int)
 (Ex.wrapQ IntKind.u64
 (Ex.wrapQ IntKind.i64
 (Ex.addQ (65536 : Int)
 (Ex.wrapQ IntKind.i64 (Ex.mulQ (8 : Int) b)))))) +
 (1 : Nat)) *
 (48 : Nat) ≤
 (140737488355328 : Nat))
 (Sy.Res.hyp
 (Nat.le
 (List.length
 (lay
 (tr l
 (Int.toNat
 (Ex.wrapQ IntKind.i64
 (Ex.subQ' (↑(List.length l) : Int) (1 : Int)))))
 (Ex.wrapQ IntKind.i64 (Ex.addQ (24 : Int) k))) +
 List.length
 (I.mk (1 : Int)
 (Ex.wrapQ IntKind.i64
 (Ex.addQ
 (Ex.wrapQ IntKind.i64 (Ex.addQ (24 : Int) k))
 (1 : Int)))
 (0 : Int) (0 : Int)
 (Ex.wrapQ IntKind.u64
 (Ex.wrapQ IntKind.i64
 (Ex.subQ' (Int.negSucc p) (1 : Int))) %
 (65536 : Int))
 (0 : Int) ::
 (movk
 (Ex.wrapQ IntKind.i64
 (Ex.addQ
 (Ex.wrapQ IntKind.i64 (Ex.addQ (24 : Int) k))
 (1 : Int)))
 (Ex.wrapQ IntKind.u64
 (Ex.wrapQ IntKind.i64
 (Ex.subQ' (Int.negSucc p) (1 : Int))) /
 (65536 : Int) %
 (65536 : Int))
 (1 : Int) ++
 (movk
 (Ex.wrapQ IntKind.i64
 (Ex.addQ
 (Ex.wrapQ IntKind.i64
 (Ex.addQ (24 : Int) k))
 (1 : Int)))
 (Ex.wrapQ IntKind.u64
 (Ex.wrapQ IntKind.i64
 (Ex.subQ' (Int.negSucc p) (1 : Int))) /
 (4294967296 : Int) %
 (65536 : Int))
 (2 : Int) ++
 movk
 (Ex.wrapQ IntKind.i64
 (Ex.addQ
 (Ex.wrapQ IntKind.i64
 (Ex.addQ (24 : Int) k))
 (1 : Int)))
 (Ex.wrapQ IntKind.u64
 (Ex.wrapQ IntKind.i64
 (Ex.subQ' (Int.negSucc p) (1 : Int))) /
 (281474976710656 : Int) %
 (65536 : Int))
 (3 : Int)))) +
 (2 : Nat) +
 List.length
 (numL (29 : Int)
 (Ex.wrapQ IntKind.u64
 (Ex.wrapQ IntKind.i64
 (Ex.addQ (65536 : Int)
 (Ex.wrapQ IntKind.i64 (Ex.mulQ (8 : Int) b)))))) +
 (1 : Nat))
 (Let.n (ns (11 : Nat))))
 (Sy.Res.leaf
 (Value.tuple
 (Array.mk
 [Value.slice
 (some (Addr.mk (Let.n (ns (10 : Nat))) (0 : Nat) none))
 (List.length
 (lay
 (tr l
 (Int.toNat
 (Ex.wrapQ IntKind.i64
 (Ex.subQ' (↑(List.length l) : Int)
 (1 : Int)))))
 (Ex.wrapQ IntKind.i64
 (Ex.addQ (24 : Int) k))) +
 List.length
 (I.mk (1 : Int)
 (Ex.wrapQ IntKind.i64
 (Ex.addQ
 (Ex.wrapQ IntKind.i64
 (Ex.addQ (24 : Int) k))
 (1 : Int)))
 (0 : Int) (0 : Int)
 (Ex.wrapQ IntKind.u64
 (Ex.wrapQ IntKind.i64
 (Ex.subQ' (Int.negSucc p)
 (1 : Int))) %
 (65536 : Int))
 (0 : Int) ::
 (movk
 (Ex.wrapQ IntKind.i64
 (Ex.addQ
 (Ex.wrapQ IntKind.i64
 (Ex.addQ (24 : Int) k))
 (1 : Int)))
 (Ex.wrapQ IntKind.u64
 (Ex.wrapQ IntKind.i64
 (Ex.subQ' (Int.negSucc p)
 (1 : Int))) /
 (65536 : Int) %
 (65536 : Int))
 (1 : Int) ++
 (movk
 (Ex.wrapQ IntKind.i64
 (Ex.addQ
 (Ex.wrapQ IntKind.i64
 (Ex.addQ (24 : Int) k))
 (1 : Int)))
 (Ex.wrapQ IntKind.u64
 (Ex.wrapQ IntKind.i64
 (Ex.subQ' (Int.negSucc p)
 (1 : Int))) /
 (4294967296 : Int) %
 (65536 : Int))
 (2 : Int) ++
 movk
 (Ex.wrapQ IntKind.i64
 (Ex.addQ
 (Ex.wrapQ IntKind.i64
 (Ex.addQ (24 : Int) k))
 (1 : Int)))
 (Ex.wrapQ IntKind.u64
 (Ex.wrapQ IntKind.i64
 (Ex.subQ' (Int.negSucc p)
 (1 : Int))) /
 (281474976710656 : Int) %
 (65536 : Int))
 (3 : Int)))) +
 (2 : Nat) +
 List.length
 (numL (29 : Int)
 (Ex.wrapQ IntKind.u64
 (Ex.wrapQ IntKind.i64
 (Ex.addQ (65536 : Int)
 (Ex.wrapQ IntKind.i64
 (Ex.mulQ (8 : Int) b)))))) +
 (1 : Nat))
 (Let.n (ns (11 : Nat))),
 Value.int IntKind.i64 (0 : Int)]),
 [Blk.mk (Let.n (ns (10 : Nat)))
 (Sy.Cont.row (29 : Nat) (6 : Nat)
 (List.length
 (lay
 (tr l
 (Int.toNat
 (Ex.wrapQ IntKind.i64
 (Ex.subQ' (↑(List.length l) : Int)
 (1 : Int)))))
 (Ex.wrapQ IntKind.i64
 (Ex.addQ (24 : Int) k))) +
 List.length
 (I.mk (1 : Int)
 (Ex.wrapQ IntKind.i64
 (Ex.addQ
 (Ex.wrapQ IntKind.i64
 (Ex.addQ (24 : Int) k))
 (1 : Int)))
 (0 : Int) (0 : Int)
 (Ex.wrapQ IntKind.u64
 (Ex.wrapQ IntKind.i64
 (Ex.subQ' (Int.negSucc p)
 (1 : Int))) %
 (65536 : Int))
 (0 : Int) ::
 (movk
 (Ex.wrapQ IntKind.i64
 (Ex.addQ
 (Ex.wrapQ IntKind.i64
 (Ex.addQ (24 : Int) k))
 (1 : Int)))
 (Ex.wrapQ IntKind.u64
 (Ex.wrapQ IntKind.i64
 (Ex.subQ' (Int.negSucc p)
 (1 : Int))) /
 (65536 : Int) %
 (65536 : Int))
 (1 : Int) ++
 (movk
 (Ex.wrapQ IntKind.i64
 (Ex.addQ
 (Ex.wrapQ IntKind.i64
 (Ex.addQ (24 : Int) k))
 (1 : Int)))
 (Ex.wrapQ IntKind.u64
 (Ex.wrapQ IntKind.i64
 (Ex.subQ' (Int.negSucc p)
 (1 : Int))) /
 (4294967296 : Int) %
 (65536 : Int))
 (2 : Int) ++
 movk
 (Ex.wrapQ IntKind.i64
 (Ex.addQ
 (Ex.wrapQ IntKind.i64
 (Ex.addQ (24 : Int) k))
 (1 : Int)))
 (Ex.wrapQ IntKind.u64
 (Ex.wrapQ IntKind.i64
 (Ex.subQ' (Int.negSucc p)
 (1 : Int))) /
 (281474976710656 : Int) %
 (65536 : Int))
 (3 : Int)))) +
 (2 : Nat) +
 List.length
 (numL (29 : Int)
 (Ex.wrapQ IntKind.u64
 (Ex.wrapQ IntKind.i64
 (Ex.addQ (65536 : Int)
 (Ex.wrapQ IntKind.i64
 (Ex.mulQ (8 : Int) b)))))) +
 (1 : Nat))
 (Let.n (ns (11 : Nat)))
 (insCells
 (lay
 (tr l
 (Int.toNat
 (Ex.wrapQ IntKind.i64
 (Ex.subQ' (↑(List.length l) : Int)
 (1 : Int)))))
 (Ex.wrapQ IntKind.i64
 (Ex.addQ (24 : Int) k))) ++
 insCells
 (I.mk (1 : Int)
 (Ex.wrapQ IntKind.i64
 (Ex.addQ
 (Ex.wrapQ IntKind.i64
 (Ex.addQ (24 : Int) k))
 (1 : Int)))
 (0 : Int) (0 : Int)
 (Ex.wrapQ IntKind.u64
 (Ex.wrapQ IntKind.i64
 (Ex.subQ' (Int.negSucc p)
 (1 : Int))) %
 (65536 : Int))
 (0 : Int) ::
 (movk
 (Ex.wrapQ IntKind.i64
 (Ex.addQ
 (Ex.wrapQ IntKind.i64
 (Ex.addQ (24 : Int) k))
 (1 : Int)))
 (Ex.wrapQ IntKind.u64
 (Ex.wrapQ IntKind.i64
 (Ex.subQ' (Int.negSucc p)
 (1 : Int))) /
 (65536 : Int) %
 (65536 : Int))
 (1 : Int) ++
 (movk
 (Ex.wrapQ IntKind.i64
 (Ex.addQ
 (Ex.wrapQ IntKind.i64
 (Ex.addQ (24 : Int) k))
 (1 : Int)))
 (Ex.wrapQ IntKind.u64
 (Ex.wrapQ IntKind.i64
 (Ex.subQ' (Int.negSucc p)
 (1 : Int))) /
 (4294967296 : Int) %
 (65536 : Int))
 (2 : Int) ++
 movk
 (Ex.wrapQ IntKind.i64
 (Ex.addQ
 (Ex.wrapQ IntKind.i64
 (Ex.addQ (24 : Int) k))
 (1 : Int)))
 (Ex.wrapQ IntKind.u64
 (Ex.wrapQ IntKind.i64
 (Ex.subQ' (Int.negSucc p)
 (1 : Int))) /
 (281474976710656 : Int) %
 (65536 : Int))
 (3 : Int)))) ++
 [Value.int IntKind.i64 (5 : Int),
 Value.int IntKind.i64
 (Ex.wrapQ IntKind.i64 (Ex.addQ (24 : Int) k)),
 Value.int IntKind.i64
 (Ex.wrapQ IntKind.i64 (Ex.addQ (24 : Int) k)),
 Value.int IntKind.i64
 (Ex.wrapQ IntKind.i64
 (Ex.addQ
 (Ex.wrapQ IntKind.i64
 (Ex.addQ (24 : Int) k))
 (1 : Int))),
 Value.int IntKind.i64 (0 : Int),
 Value.int IntKind.i64 (0 : Int),
 Value.int IntKind.i64 (14 : Int),
 Value.int IntKind.i64
 (Ex.wrapQ IntKind.i64 (Ex.addQ (24 : Int) k)),
 Value.int IntKind.i64
 (Ex.wrapQ IntKind.i64 (Ex.addQ (24 : Int) k)),
 Value.int IntKind.i64 (0 : Int),
 Value.int IntKind.i64 (3 : Int),
 Value.int IntKind.i64 (0 : Int)] ++
 insCells
 (numL (29 : Int)
 (Ex.wrapQ IntKind.u64
 (Ex.wrapQ IntKind.i64
 (Ex.addQ (65536 : Int)
 (Ex.wrapQ IntKind.i64
 (Ex.mulQ (8 : Int) b)))))) ++
 [Value.int IntKind.i64 (3 : Int),
 Value.int IntKind.i64 (29 : Int),
 Value.int IntKind.i64 (29 : Int),
 Value.int IntKind.i64
 (Ex.wrapQ IntKind.i64 (Ex.addQ (24 : Int) k)),
 Value.int IntKind.i64 (0 : Int),
 Value.int IntKind.i64 (0 : Int)]))
 true,
 Blk.mk (Let.n (ns (9 : Nat)))
 (Sy.Cont.obj
 (Obj.cells
 (Array.mk
 [Value.int IntKind.i64 (3 : Int),
 Value.int IntKind.i64 (29 : Int),
 Value.int IntKind.i64 (29 : Int),
 Value.int IntKind.i64
 (Ex.wrapQ IntKind.i64 (Ex.addQ (24 : Int) k)),
 Value.int IntKind.i64 (0 : Int),
 Value.int IntKind.i64 (0 : Int)])
 (29 : Nat)))
 true,
 Blk.mk (Let.n (ns (4 : Nat)))
 (Sy.Cont.obj
 (Obj.cells
 (Array.mk
 [Value.int IntKind.i64 (5 : Int),
 Value.int IntKind.i64
 (Ex.wrapQ IntKind.i64 (Ex.addQ (24 : Int) k)),
 Value.int IntKind.i64
 (Ex.wrapQ IntKind.i64 (Ex.addQ (24 : Int) k)),
 Value.int IntKind.i64
 (Ex.wrapQ IntKind.i64
 (Ex.addQ
 (Ex.wrapQ IntKind.i64 (Ex.addQ (24 : Int) k))
 (1 : Int))),
 Value.int IntKind.i64 (0 : Int),
 Value.int IntKind.i64 (0 : Int),
 Value.int IntKind.i64 (14 : Int),
 Value.int IntKind.i64
 (Ex.wrapQ IntKind.i64 (Ex.addQ (24 : Int) k)),
 Value.int IntKind.i64
 (Ex.wrapQ IntKind.i64 (Ex.addQ (24 : Int) k)),
 Value.int IntKind.i64 (0 : Int),
 Value.int IntKind.i64 (3 : Int),
 Value.int IntKind.i64 (0 : Int)])
 (29 : Nat)))
 true])))))))))))))))))))))))))))
theorem radN_run (g o c : Nat) (l : List Nd) (b k : Int) (p : Nat) : Sy.Ran (Sy.inT Try.prog (ctxI (.negSucc p) k g o c l) 60 fRAd (radArgs g o c l b (.negSucc p) k) [⟨g, .seg o (ndCells l), false⟩] (Sy.rowT tI)) radN_o (radN_R g o c l b k p) := ⟨fun ns => by kernel_rfl, fun ns => by kernel_rfl⟩
def radP_o : Sy.O := (Sy.O.steps [0] (Sy.O.fork (Sy.O.steps [0, 0, 0] (Sy.O.fork (Sy.O.steps [0, 0, 0, 0, 0, 0, 0, 0, 0, 0, 0, 0, 0, 0, 0, 0, 0, 0] Sy.O.nil) (Sy.O.steps [0] (Sy.O.fork (Sy.O.steps [0, 0, 0, 0, 0, 0, 0, 0, 0, 0, 0, 0, 0, 0, 0, 0] Sy.O.nil) (Sy.O.steps [0, 0, 0] (Sy.O.fork (Sy.O.steps [0, 0, 0, 0, 0, 0, 0, 0, 0, 0, 0, 0] Sy.O.nil) (Sy.O.steps [0] (Sy.O.fork (Sy.O.steps [0, 0, 0, 0, 0, 0, 0, 0, 0, 0] Sy.O.nil) (Sy.O.steps [0] (Sy.O.fork (Sy.O.steps [0, 0, 0, 0, 0, 0, 0, 0] Sy.O.nil) (Sy.O.steps [0, 0, 0, 0, 0, 0, 0, 0, 0, 0, 0, 0, 0, 0, 0] (Sy.O.fork Sy.O.nil (Sy.O.steps [0, 0, 0] (Sy.O.fork (Sy.O.fork Sy.O.nil (Sy.O.steps [0, 0, 1, 0, 0, 0, 0, 1, 0, 1, 1, 0, 0, 2, 0, 0, 0, 0, 1, 0, 1, 1, 0, 0] Sy.O.nil)) (Sy.O.fork Sy.O.nil (Sy.O.steps [0, 0, 1, 0, 0, 0, 0, 1, 0, 1, 1, 0, 0, 2, 0, 0, 0, 0, 1, 0, 1, 1, 0, 0] Sy.O.nil)))))))))))))))) (Sy.O.steps [0, 0, 0, 0] (Sy.O.fork (Sy.O.steps [0, 0, 0, 0, 0, 0, 0, 0, 0, 0, 0, 0, 0, 0, 0, 0] Sy.O.nil) (Sy.O.steps [0, 0, 0] (Sy.O.fork (Sy.O.steps [0, 0, 0, 0, 0, 0, 0, 0, 0, 0, 0, 0] Sy.O.nil) (Sy.O.steps [0] (Sy.O.fork (Sy.O.steps [0, 0, 0, 0, 0, 0, 0, 0, 0, 0] Sy.O.nil) (Sy.O.steps [0] (Sy.O.fork (Sy.O.steps [0, 0, 0, 0, 0, 0, 0, 0] Sy.O.nil) (Sy.O.steps [0, 0, 0, 0, 0, 0, 0, 0, 0, 0, 0, 0, 0, 0, 0] (Sy.O.fork Sy.O.nil (Sy.O.steps [0, 0, 0] (Sy.O.fork (Sy.O.fork Sy.O.nil (Sy.O.steps [0, 0, 1, 0, 0, 0, 0, 1, 0, 1, 1, 0, 0, 2, 0, 0, 0, 0, 1, 0, 1, 1, 0, 0] Sy.O.nil)) (Sy.O.fork Sy.O.nil (Sy.O.steps [0, 0, 1, 0, 0, 0, 0, 1, 0, 1, 1, 0, 0, 2, 0, 0, 0, 0, 1, 0, 1, 1, 0, 0] Sy.O.nil))))))))))))))))
noncomputable def radP_R (g : Nat) (o : Nat) (c : Nat) (l : List Nd) (b : Int) (k : Int) (p : Nat) (ns : Nat → Sy.Let) : Sy.Res (Value × List Blk) := Sy.Res.br (!Ex.eqQ (Int.ofNat (Nat.succ p)) (1 : Int))
 (Sy.Res.need True
 (Sy.Res.hyp True
 (Sy.Res.br (bif true then !tru (isPow (Int.ofNat (Nat.succ p))) else false)
 (Sy.Res.leaf
 (Value.tuple (Array.mk [Value.slice none (0 : Nat) (0 : Nat), Value.int IntKind.i64 (1 : Int)]), []))
 (Sy.Res.br (bif false then true else Ex.ltQ b (0 : Int))
 (Sy.Res.leaf
 (Value.tuple (Array.mk [Value.slice none (0 : Nat) (0 : Nat), Value.int IntKind.i64 (1 : Int)]), []))
 (Sy.Res.br
 (bif false then true else Ex.ltQ (Ex.wrapQ IntKind.i64 (Ex.subQ' (4096 : Int) (Int.ofNat (Nat.succ p)))) b)
 (Sy.Res.leaf
 (Value.tuple (Array.mk [Value.slice none (0 : Nat) (0 : Nat), Value.int IntKind.i64 (1 : Int)]), []))
 (Sy.Res.br (bif false then true else Ex.ltQ k (0 : Int))
 (Sy.Res.leaf
 (Value.tuple (Array.mk [Value.slice none (0 : Nat) (0 : Nat), Value.int IntKind.i64 (1 : Int)]), []))
 (Sy.Res.br (bif false then true else Ex.ltQ (4 : Int) k)
 (Sy.Res.leaf
 (Value.tuple (Array.mk [Value.slice none (0 : Nat) (0 : Nat), Value.int IntKind.i64 (1 : Int)]), []))
 (Sy.Res.need
 (((0 : Int) ≤ (24 : Int) ∧ (24 : Int) ≤ (1000 : Int) ∧ goodN l) ∧ (0 : Nat) < List.length l)
 (Sy.Res.hyp True
 (Sy.Res.br (bif false then true else bif true then !tru (isExpr (24 : Int) l) else false)
 (Sy.Res.leaf
 (Value.tuple (Array.mk [Value.slice none (0 : Nat) (0 : Nat), Value.int IntKind.i64 (1 : Int)]),
 []))
 (Sy.Res.need
 (nodesOk (24 : Int) l ∧ (0 : Nat) < List.length l ∧ List.length l ≤ (65536 : Nat) ∧ onceOk l)
 (Sy.Res.hyp True
 (Sy.Res.br (Ex.ltQ (↑(E.needs (tr l (List.length l - (1 : Nat)))) : Int) (2 : Int))
 (Sy.Res.br (Ex.ltQ (5 : Int) (Ex.wrapQ IntKind.i64 (Ex.addQ k (2 : Int))))
 (Sy.Res.leaf
 (Value.tuple
 (Array.mk [Value.slice none (0 : Nat) (0 : Nat), Value.int IntKind.i64 (30 : Int)]),
 []))
 (Sy.Res.need
 ((isExpr (24 : Int) l ∧ goodN l) ∧
 (0 : Int) ≤ Ex.wrapQ IntKind.i64 (Ex.subQ' (↑(List.length l) : Int) (1 : Int)) ∧
 Ex.wrapQ IntKind.i64 (Ex.subQ' (↑(List.length l) : Int) (1 : Int)) <
 (↑(List.length l) : Int) ∧
 Ex.wrapQ IntKind.i64 (Ex.subQ' (↑(List.length l) : Int) (1 : Int)) <
 (↑(List.length l) : Int) ∧
 (24 : Int) ≤ Ex.wrapQ IntKind.i64 (Ex.addQ (24 : Int) k) ∧
 Ex.wrapQ IntKind.i64 (Ex.addQ (24 : Int) k) +
 (↑(E.needs
 (tr l
 (Int.toNat
 (Ex.wrapQ IntKind.i64
 (Ex.subQ' (↑(List.length l) : Int) (1 : Int)))))) :
 Int) ≤
 (29 : Int))
 (Sy.Res.hyp
 (Nat.le
 (List.length
 (lay
 (tr l
 (Int.toNat
 (Ex.wrapQ IntKind.i64 (Ex.subQ' (↑(List.length l) : Int) (1 : Int)))))
 (Ex.wrapQ IntKind.i64 (Ex.addQ (24 : Int) k))))
 (Let.n (ns (1 : Nat))))
 (Sy.Res.need
 (goodU
 (Ex.wrapQ IntKind.u64
 (Ex.wrapQ IntKind.i64 (Ex.subQ' (Int.ofNat (Nat.succ p)) (1 : Int)))) ∧
 List.length
 (lay
 (tr l
 (Int.toNat
 (Ex.wrapQ IntKind.i64 (Ex.subQ' (↑(List.length l) : Int) (1 : Int)))))
 (Ex.wrapQ IntKind.i64 (Ex.addQ (24 : Int) k))) ≤
 (1000000 : Nat))
 (Sy.Res.hyp
 (Nat.le
 (List.length
 (lay
 (tr l
 (Int.toNat
 (Ex.wrapQ IntKind.i64 (Ex.subQ' (↑(List.length l) : Int) (1 : Int)))))
 (Ex.wrapQ IntKind.i64 (Ex.addQ (24 : Int) k))) +
 List.length
 (numL
 (Ex.wrapQ IntKind.i64
 (Ex.addQ (Ex.wrapQ IntKind.i64 (Ex.addQ (24 : Int) k)) (1 : Int)))
 (Ex.wrapQ IntKind.u64
 (Ex.wrapQ IntKind.i64 (Ex.subQ' (Int.ofNat (Nat.succ p)) (1 : Int))))))
 (Let.n (ns (3 : Nat))))
 (Sy.Res.need
 (List.length
 (lay
 (tr l
 (Int.toNat
 (Ex.wrapQ IntKind.i64
 (Ex.subQ' (↑(List.length l) : Int) (1 : Int)))))
 (Ex.wrapQ IntKind.i64 (Ex.addQ (24 : Int) k))) +
 List.length
 (numL
 (Ex.wrapQ IntKind.i64
 (Ex.addQ (Ex.wrapQ IntKind.i64 (Ex.addQ (24 : Int) k)) (1 : Int)))
 (Ex.wrapQ IntKind.u64
 (Ex.wrapQ IntKind.i64
 (Ex.subQ' (Int.ofNat (Nat.succ p)) (1 : Int))))) +
 (2 : Nat) ≤
 (9223372036854775807 : Nat))
 (Sy.Res.need
 ((List.length
 (lay
 (tr l
 (Int.toNat
 (Ex.wrapQ IntKind.i64
 (Ex.subQ' (↑(List.length l) : Int) (1 : Int)))))
 (Ex.wrapQ IntKind.i64 (Ex.addQ (24 : Int) k))) +
 List.length
 (numL
 (Ex.wrapQ IntKind.i64
 (Ex.addQ (Ex.wrapQ IntKind.i64 (Ex.addQ (24 : Int) k))
 (1 : Int)))
 (Ex.wrapQ IntKind.u64
 (Ex.wrapQ IntKind.i64
 (Ex.subQ' (Int.ofNat (Nat.succ p)) (1 : Int))))) +
 (2 : Nat)) *
 (48 : Nat) ≤
 (140737488355328 : Nat))
 (Sy.Res.hyp
 (Nat.le
 (List.length
 (lay
 (tr l
 (Int.toNat
 (Ex.wrapQ IntKind.i64
 (Ex.subQ' (↑(List.length l) : Int) (1 : Int)))))
 (Ex.wrapQ IntKind.i64 (Ex.addQ (24 : Int) k))) +
 List.length
 (numL
 (Ex.wrapQ IntKind.i64
 (Ex.addQ (Ex.wrapQ IntKind.i64 (Ex.addQ (24 : Int) k))
 (1 : Int)))
 (Ex.wrapQ IntKind.u64
 (Ex.wrapQ IntKind.i64
 (Ex.subQ' (Int.ofNat (Nat.succ p)) (1 : Int))))) +
 (2 : Nat))
 (Let.n (ns (6 : Nat))))
 (Sy.Res.need
 (goodU
 (Ex.wrapQ IntKind.u64
 (Ex.wrapQ IntKind.i64
 (Ex.addQ (65536 : Int)
 (Ex.wrapQ IntKind.i64 (Ex.mulQ (8 : Int) b))))) ∧
 List.length
 (lay
 (tr l
 (Int.toNat
 (Ex.wrapQ IntKind.i64
 (Ex.subQ' (↑(List.length l) : Int) (1 : Int)))))
 (Ex.wrapQ IntKind.i64 (Ex.addQ (24 : Int) k))) +
 List.length
 (I.mk (1 : Int)
 (Ex.wrapQ IntKind.i64
 (Ex.addQ (Ex.wrapQ IntKind.i64 (Ex.addQ (24 : Int) k))
 (1 : Int)))
 (0 : Int) (0 : Int)
 (Ex.wrapQ IntKind.u64
 (Ex.wrapQ IntKind.i64
 (Ex.subQ' (Int.ofNat (Nat.succ p)) (1 : Int))) %
 (65536 : Int))
 (0 : Int) ::
 (movk
 (Ex.wrapQ IntKind.i64
 (Ex.addQ (Ex.wrapQ IntKind.i64 (Ex.addQ (24 : Int) k))
 (1 : Int)))
 (Ex.wrapQ IntKind.u64
 (Ex.wrapQ IntKind.i64
 (Ex.subQ' (Int.ofNat (Nat.succ p)) (1 : Int))) /
 (65536 : Int) %
 (65536 : Int))
 (1 : Int) ++
 (movk
 (Ex.wrapQ IntKind.i64
 (Ex.addQ (Ex.wrapQ IntKind.i64 (Ex.addQ (24 : Int) k))
 (1 : Int)))
 (Ex.wrapQ IntKind.u64
 (Ex.wrapQ IntKind.i64
 (Ex.subQ' (Int.ofNat (Nat.succ p)) (1 : Int))) /
 (4294967296 : Int) %
 (65536 : Int))
 (2 : Int) ++
 movk
 (Ex.wrapQ IntKind.i64
 (Ex.addQ (Ex.wrapQ IntKind.i64 (Ex.addQ (24 : Int) k))
 (1 : Int)))
 (Ex.wrapQ IntKind.u64
 (Ex.wrapQ IntKind.i64
 (Ex.subQ' (Int.ofNat (Nat.succ p)) (1 : Int))) /
 (281474976710656 : Int) %
 (65536 : Int))
 (3 : Int)))) +
 (2 : Nat) ≤
 (1000000 : Nat))
 (Sy.Res.hyp
 (Nat.le
 (List.length
 (lay
 (tr l
 (Int.toNat
 (Ex.wrapQ IntKind.i64
 (Ex.subQ' (↑(List.length l) : Int) (1 : Int)))))
 (Ex.wrapQ IntKind.i64 (Ex.addQ (24 : Int) k))) +
 List.length
 (I.mk (1 : Int)
 (Ex.wrapQ IntKind.i64
 (Ex.addQ (Ex.wrapQ IntKind.i64 (Ex.addQ (24 : Int) k))
 (1 : Int)))
 (0 : Int) (0 : Int)
 (Ex.wrapQ IntKind.u64
 (Ex.wrapQ IntKind.i64
 (Ex.subQ' (Int.ofNat (Nat.succ p)) (1 : Int))) %
 (65536 : Int))
 (0 : Int) ::
 (movk
 (Ex.wrapQ IntKind.i64
 (Ex.addQ (Ex.wrapQ IntKind.i64 (Ex.addQ (24 : Int) k))
 (1 : Int)))
 (Ex.wrapQ IntKind.u64
 (Ex.wrapQ IntKind.i64
 (Ex.subQ' (Int.ofNat (Nat.succ p)) (1 : Int))) /
 (65536 : Int) %
 (65536 : Int))
 (1 : Int) ++
 (movk
 (Ex.wrapQ IntKind.i64
 (Ex.addQ
 (Ex.wrapQ IntKind.i64 (Ex.addQ (24 : Int) k))
 (1 : Int)))
 (Ex.wrapQ IntKind.u64
 (Ex.wrapQ IntKind.i64
 (Ex.subQ' (Int.ofNat (Nat.succ p))
 (1 : Int))) /
 (4294967296 : Int) %
 (65536 : Int))
 (2 : Int) ++
 movk
 (Ex.wrapQ IntKind.i64
 (Ex.addQ
 (Ex.wrapQ IntKind.i64 (Ex.addQ (24 : Int) k))
 (1 : Int)))
 (Ex.wrapQ IntKind.u64
 (Ex.wrapQ IntKind.i64
 (Ex.subQ' (Int.ofNat (Nat.succ p))
 (1 : Int))) /
 (281474976710656 : Int) %
 (65536 : Int))
 (3 : Int)))) +
 (2 : Nat) +
 List.length
 (numL (29 : Int)
 (Ex.wrapQ IntKind.u64
 (Ex.wrapQ IntKind.i64
 (Ex.addQ (65536 : Int)
 (Ex.wrapQ IntKind.i64 (Ex.mulQ (8 : Int) b)))))))
 (Let.n (ns (8 : Nat))))
 (Sy.Res.need
 (List.length
 (lay
 (tr l
 (Int.toNat
 (Ex.wrapQ IntKind.i64
 (Ex.subQ' (↑(List.length l) : Int) (1 : Int)))))
 (Ex.wrapQ IntKind.i64 (Ex.addQ (24 : Int) k))) +
 List.length
 (I.mk (1 : Int)
 (Ex.wrapQ IntKind.i64
 (Ex.addQ
 (Ex.wrapQ IntKind.i64 (Ex.addQ (24 : Int) k))
 (1 : Int)))
 (0 : Int) (0 : Int)
 (Ex.wrapQ IntKind.u64
 (Ex.wrapQ IntKind.i64
 (Ex.subQ' (Int.ofNat (Nat.succ p)) (1 : Int))) %
 (65536 : Int))
 (0 : Int) ::
 (movk
 (Ex.wrapQ IntKind.i64
 (Ex.addQ
 (Ex.wrapQ IntKind.i64 (Ex.addQ (24 : Int) k))
 (1 : Int)))
 (Ex.wrapQ IntKind.u64
 (Ex.wrapQ IntKind.i64
 (Ex.subQ' (Int.ofNat (Nat.succ p))
 (1 : Int))) /
 (65536 : Int) %
 (65536 : Int))
 (1 : Int) ++
 (movk
 (Ex.wrapQ IntKind.i64
 (Ex.addQ
 (Ex.wrapQ IntKind.i64 (Ex.addQ (24 : Int) k))
 (1 : Int)))
 (Ex.wrapQ IntKind.u64
 (Ex.wrapQ IntKind.i64
 (Ex.subQ' (Int.ofNat (Nat.succ p))
 (1 : Int))) /
 (4294967296 : Int) %
 (65536 : Int))
 (2 : Int) ++
 movk
 (Ex.wrapQ IntKind.i64
 (Ex.addQ
 (Ex.wrapQ IntKind.i64 (Ex.addQ (24 : Int) k))
 (1 : Int)))
 (Ex.wrapQ IntKind.u64
 (Ex.wrapQ IntKind.i64
 (Ex.subQ' (Int.ofNat (Nat.succ p))
 (1 : Int))) /
 (281474976710656 : Int) %
 (65536 : Int))
 (3 : Int)))) +
 (2 : Nat) +
 List.length
 (numL (29 : Int)
 (Ex.wrapQ IntKind.u64
 (Ex.wrapQ IntKind.i64
 (Ex.addQ (65536 : Int)
 (Ex.wrapQ IntKind.i64 (Ex.mulQ (8 : Int) b)))))) +
 (1 : Nat) ≤
 (9223372036854775807 : Nat))
 (Sy.Res.need
 ((List.length
 (lay
 (tr l
 (Int.toNat
 (Ex.wrapQ IntKind.i64
 (Ex.subQ' (↑(List.length l) : Int)
 (1 : Int)))))
 (Ex.wrapQ IntKind.i64 (Ex.addQ (24 : Int) k))) +
 List.length
 (I.mk (1 : Int)
 (Ex.wrapQ IntKind.i64
 (Ex.addQ
 (Ex.wrapQ IntKind.i64 (Ex.addQ (24 : Int) k))
 (1 : Int)))
 (0 : Int) (0 : Int)
 (Ex.wrapQ IntKind.u64
 (Ex.wrapQ IntKind.i64
 (Ex.subQ' (Int.ofNat (Nat.succ p))
 (1 : Int))) %
 (65536 : Int))
 (0 : Int) ::
 (movk
 (Ex.wrapQ IntKind.i64
 (Ex.addQ
 (Ex.wrapQ IntKind.i64
 (Ex.addQ (24 : Int) k))
 (1 : Int)))
 (Ex.wrapQ IntKind.u64
 (Ex.wrapQ IntKind.i64
 (Ex.subQ' (Int.ofNat (Nat.succ p))
 (1 : Int))) /
 (65536 : Int) %
 (65536 : Int))
 (1 : Int) ++
 (movk
 (Ex.wrapQ IntKind.i64
 (Ex.addQ
 (Ex.wrapQ IntKind.i64
 (Ex.addQ (24 : Int) k))
 (1 : Int)))
 (Ex.wrapQ IntKind.u64
 (Ex.wrapQ IntKind.i64
 (Ex.subQ' (Int.ofNat (Nat.succ p))
 (1 : Int))) /
 (4294967296 : Int) %
 (65536 : Int))
 (2 : Int) ++
 movk
 (Ex.wrapQ IntKind.i64
 (Ex.addQ
 (Ex.wrapQ IntKind.i64
 (Ex.addQ (24 : Int) k))
 (1 : Int)))
 (Ex.wrapQ IntKind.u64
 (Ex.wrapQ IntKind.i64
 (Ex.subQ' (Int.ofNat (Nat.succ p))
 (1 : Int))) /
 (281474976710656 : Int) %
 (65536 : Int))
 (3 : Int)))) +
 (2 : Nat) +
 List.length
 (numL (29 : Int)
 (Ex.wrapQ IntKind.u64
 (Ex.wrapQ IntKind.i64
 (Ex.addQ (65536 : Int)
 (Ex.wrapQ IntKind.i64 (Ex.mulQ (8 : Int) b)))))) +
 (1 : Nat)) *
 (48 : Nat) ≤
 (140737488355328 : Nat))
 (Sy.Res.hyp
 (Nat.le
 (List.length
 (lay
 (tr l
 (Int.toNat
 (Ex.wrapQ IntKind.i64
 (Ex.subQ' (↑(List.length l) : Int)
 (1 : Int)))))
 (Ex.wrapQ IntKind.i64 (Ex.addQ (24 : Int) k))) +
 List.length
 (I.mk (1 : Int)
 (Ex.wrapQ IntKind.i64
 (Ex.addQ
 (Ex.wrapQ IntKind.i64 (Ex.addQ (24 : Int) k))
 (1 : Int)))
 (0 : Int) (0 : Int)
 (Ex.wrapQ IntKind.u64
 (Ex.wrapQ IntKind.i64
 (Ex.subQ' (Int.ofNat (Nat.succ p))
 (1 : Int))) %
 (65536 : Int))
 (0 : Int) ::
 (movk
 (Ex.wrapQ IntKind.i64
 (Ex.addQ
 (Ex.wrapQ IntKind.i64
 (Ex.addQ (24 : Int) k))
 (1 : Int)))
 (Ex.wrapQ IntKind.u64
 (Ex.wrapQ IntKind.i64
 (Ex.subQ' (Int.ofNat (Nat.succ p))
 (1 : Int))) /
 (65536 : Int) %
 (65536 : Int))
 (1 : Int) ++
 (movk
 (Ex.wrapQ IntKind.i64
 (Ex.addQ
 (Ex.wrapQ IntKind.i64
 (Ex.addQ (24 : Int) k))
 (1 : Int)))
 (Ex.wrapQ IntKind.u64
 (Ex.wrapQ IntKind.i64
 (Ex.subQ' (Int.ofNat (Nat.succ p))
 (1 : Int))) /
 (4294967296 : Int) %
 (65536 : Int))
 (2 : Int) ++
 movk
 (Ex.wrapQ IntKind.i64
 (Ex.addQ
 (Ex.wrapQ IntKind.i64
 (Ex.addQ (24 : Int) k))
 (1 : Int)))
 (Ex.wrapQ IntKind.u64
 (Ex.wrapQ IntKind.i64
 (Ex.subQ' (Int.ofNat (Nat.succ p))
 (1 : Int))) /
 (281474976710656 : Int) %
 (65536 : Int))
 (3 : Int)))) +
 (2 : Nat) +
 List.length
 (numL (29 : Int)
 (Ex.wrapQ IntKind.u64
 (Ex.wrapQ IntKind.i64
 (Ex.addQ (65536 : Int)
 (Ex.wrapQ IntKind.i64 (Ex.mulQ (8 : Int) b)))))) +
 (1 : Nat))
 (Let.n (ns (11 : Nat))))
 (Sy.Res.leaf
 (Value.tuple
 (Array.mk
 [Value.slice
 (some
 (Addr.mk (Let.n (ns (10 : Nat))) (0 : Nat) none))
 (List.length
 (lay
 (tr l
 (Int.toNat
 (Ex.wrapQ IntKind.i64
 (Ex.subQ' (↑(List.length l) : Int)
 (1 : Int)))))
 (Ex.wrapQ IntKind.i64
 (Ex.addQ (24 : Int) k))) +
 List.length
 (I.mk (1 : Int)
 (Ex.wrapQ IntKind.i64
 (Ex.addQ
 (Ex.wrapQ IntKind.i64
 (Ex.addQ (24 : Int) k))
 (1 : Int)))
 (0 : Int) (0 : Int)
 (Ex.wrapQ IntKind.u64
 (Ex.wrapQ IntKind.i64
 (Ex.subQ' (Int.ofNat (Nat.succ p))
 (1 : Int))) %
 (65536 : Int))
 (0 : Int) ::
 (movk
 (Ex.wrapQ IntKind.i64
 (Ex.addQ
 (Ex.wrapQ IntKind.i64
 (Ex.addQ (24 : Int) k))
 (1 : Int)))
 (Ex.wrapQ IntKind.u64
 (Ex.wrapQ IntKind.i64
 (Ex.subQ'
 (Int.ofNat (Nat.succ p))
 (1 : Int))) /
 (65536 : Int) %
 (65536 : Int))
 (1 : Int) ++
 (movk
 (Ex.wrapQ IntKind.i64
 (Ex.addQ
 (Ex.wrapQ IntKind.i64
 (Ex.addQ (24 : Int) k))
 (1 : Int)))
 (Ex.wrapQ IntKind.u64
 (Ex.wrapQ IntKind.i64
 (Ex.subQ'
 (Int.ofNat (Nat.succ p))
 (1 : Int))) /
 (4294967296 : Int) %
 (65536 : Int))
 (2 : Int) ++
 movk
 (Ex.wrapQ IntKind.i64
 (Ex.addQ
 (Ex.wrapQ IntKind.i64
 (Ex.addQ (24 : Int) k))
 (1 : Int)))
 (Ex.wrapQ IntKind.u64
 (Ex.wrapQ IntKind.i64
 (Ex.subQ'
 (Int.ofNat (Nat.succ p))
 (1 : Int))) /
 (281474976710656 : Int) %
 (65536 : Int))
 (3 : Int)))) +
 (2 : Nat) +
 List.length
 (numL (29 : Int)
 (Ex.wrapQ IntKind.u64
 (Ex.wrapQ IntKind.i64
 (Ex.addQ (65536 : Int)
 (Ex.wrapQ IntKind.i64
 (Ex.mulQ (8 : Int) b)))))) +
 (1 : Nat))
 (Let.n (ns (11 : Nat))),
 Value.int IntKind.i64 (0 : Int)]),
 [Blk.mk (Let.n (ns (10 : Nat)))
 (Sy.Cont.row (29 : Nat) (6 : Nat)
 (List.length
 (lay
 (tr l
 (Int.toNat
 (Ex.wrapQ IntKind.i64
 (Ex.subQ' (↑(List.length l) : Int)
 (1 : Int)))))
 (Ex.wrapQ IntKind.i64
 (Ex.addQ (24 : Int) k))) +
 List.length
 (I.mk (1 : Int)
 (Ex.wrapQ IntKind.i64
 (Ex.addQ
 (Ex.wrapQ IntKind.i64
 (Ex.addQ (24 : Int) k))
 (1 : Int)))
 (0 : Int) (0 : Int)
 (Ex.wrapQ IntKind.u64
 (Ex.wrapQ IntKind.i64
 (Ex.subQ' (Int.ofNat (Nat.succ p))
 (1 : Int))) %
 (65536 : Int))
 (0 : Int) ::
 (movk
 (Ex.wrapQ IntKind.i64
 (Ex.addQ
 (Ex.wrapQ IntKind.i64
 (Ex.addQ (24 : Int) k))
 (1 : Int)))
 (Ex.wrapQ IntKind.u64
 (Ex.wrapQ IntKind.i64
 (Ex.subQ'
 (Int.ofNat (Nat.succ p))
 (1 : Int))) /
 (65536 : Int) %
 (65536 : Int))
 (1 : Int) ++
 (movk
 (Ex.wrapQ IntKind.i64
 (Ex.addQ
 (Ex.wrapQ IntKind.i64
 (Ex.addQ (24 : Int) k))
 (1 : Int)))
 (Ex.wrapQ IntKind.u64
 (Ex.wrapQ IntKind.i64
 (Ex.subQ'
 (Int.ofNat (Nat.succ p))
 (1 : Int))) /
 (4294967296 : Int) %
 (65536 : Int))
 (2 : Int) ++
 movk
 (Ex.wrapQ IntKind.i64
 (Ex.addQ
 (Ex.wrapQ IntKind.i64
 (Ex.addQ (24 : Int) k))
 (1 : Int)))
 (Ex.wrapQ IntKind.u64
 (Ex.wrapQ IntKind.i64
 (Ex.subQ'
 (Int.ofNat (Nat.succ p))
 (1 : Int))) /
 (281474976710656 : Int) %
 (65536 : Int))
 (3 : Int)))) +
 (2 : Nat) +
 List.length
 (numL (29 : Int)
 (Ex.wrapQ IntKind.u64
 (Ex.wrapQ IntKind.i64
 (Ex.addQ (65536 : Int)
 (Ex.wrapQ IntKind.i64
 (Ex.mulQ (8 : Int) b)))))) +
 (1 : Nat))
 (Let.n (ns (11 : Nat)))
 (insCells
 (lay
 (tr l
 (Int.toNat
 (Ex.wrapQ IntKind.i64
 (Ex.subQ' (↑(List.length l) : Int)
 (1 : Int)))))
 (Ex.wrapQ IntKind.i64
 (Ex.addQ (24 : Int) k))) ++
 insCells
 (I.mk (1 : Int)
 (Ex.wrapQ IntKind.i64
 (Ex.addQ
 (Ex.wrapQ IntKind.i64
 (Ex.addQ (24 : Int) k))
 (1 : Int)))
 (0 : Int) (0 : Int)
 (Ex.wrapQ IntKind.u64
 (Ex.wrapQ IntKind.i64
 (Ex.subQ' (Int.ofNat (Nat.succ p))
 (1 : Int))) %
 (65536 : Int))
 (0 : Int) ::
 (movk
 (Ex.wrapQ IntKind.i64
 (Ex.addQ
 (Ex.wrapQ IntKind.i64
 (Ex.addQ (24 : Int) k))
 (1 : Int)))
 (Ex.wrapQ IntKind.u64
 (Ex.wrapQ IntKind.i64
 (Ex.subQ'
 (Int.ofNat (Nat.succ p))
 (1 : Int))) /
 (65536 : Int) %
 (65536 : Int))
 (1 : Int) ++
 (movk
 (Ex.wrapQ IntKind.i64
 (Ex.addQ
 (Ex.wrapQ IntKind.i64
 (Ex.addQ (24 : Int) k))
 (1 : Int)))
 (Ex.wrapQ IntKind.u64
 (Ex.wrapQ IntKind.i64
 (Ex.subQ'
 (Int.ofNat (Nat.succ p))
 (1 : Int))) /
 (4294967296 : Int) %
 (65536 : Int))
 (2 : Int) ++
 movk
 (Ex.wrapQ IntKind.i64
 (Ex.addQ
 (Ex.wrapQ IntKind.i64
 (Ex.addQ (24 : Int) k))
 (1 : Int)))
 (Ex.wrapQ IntKind.u64
 (Ex.wrapQ IntKind.i64
 (Ex.subQ'
 (Int.ofNat (Nat.succ p))
 (1 : Int))) /
 (281474976710656 : Int) %
 (65536 : Int))
 (3 : Int)))) ++
 [Value.int IntKind.i64 (5 : Int),
 Value.int IntKind.i64
 (Ex.wrapQ IntKind.i64 (Ex.addQ (24 : Int) k)),
 Value.int IntKind.i64
 (Ex.wrapQ IntKind.i64 (Ex.addQ (24 : Int) k)),
 Value.int IntKind.i64
 (Ex.wrapQ IntKind.i64
 (Ex.addQ
 (Ex.wrapQ IntKind.i64
 (Ex.addQ (24 : Int) k))
 (1 : Int))),
 Value.int IntKind.i64 (0 : Int),
 Value.int IntKind.i64 (0 : Int),
 Value.int IntKind.i64 (14 : Int),
 Value.int IntKind.i64
 (Ex.wrapQ IntKind.i64 (Ex.addQ (24 : Int) k)),
 Value.int IntKind.i64
 (Ex.wrapQ IntKind.i64 (Ex.addQ (24 : Int) k)),
 Value.int IntKind.i64 (0 : Int),
 Value.int IntKind.i64 (3 : Int),
 Value.int IntKind.i64 (0 : Int)] ++
 insCells
 (numL (29 : Int)
 (Ex.wrapQ IntKind.u64
 (Ex.wrapQ IntKind.i64
 (Ex.addQ (65536 : Int)
 (Ex.wrapQ IntKind.i64
 (Ex.mulQ (8 : Int) b)))))) ++
 [Value.int IntKind.i64 (3 : Int),
 Value.int IntKind.i64 (29 : Int),
 Value.int IntKind.i64 (29 : Int),
 Value.int IntKind.i64
 (Ex.wrapQ IntKind.i64 (Ex.addQ (24 : Int) k)),
 Value.int IntKind.i64 (0 : Int),
 Value.int IntKind.i64 (0 : Int)]))
 true,
 Blk.mk (Let.n (ns (9 : Nat)))
 (Sy.Cont.obj
 (Obj.cells
 (Array.mk
 [Value.int IntKind.i64 (3 : Int),
 Value.int IntKind.i64 (29 : Int),
 Value.int IntKind.i64 (29 : Int),
 Value.int IntKind.i64
 (Ex.wrapQ IntKind.i64 (Ex.addQ (24 : Int) k)),
 Value.int IntKind.i64 (0 : Int),
 Value.int IntKind.i64 (0 : Int)])
 (29 : Nat)))
 true,
 Blk.mk (Let.n (ns (4 : Nat)))
 (Sy.Cont.obj
 (Obj.cells
 (Array.mk
 [Value.int IntKind.i64 (5 : Int),
 Value.int IntKind.i64
 (Ex.wrapQ IntKind.i64 (Ex.addQ (24 : Int) k)),
 Value.int IntKind.i64
 (Ex.wrapQ IntKind.i64 (Ex.addQ (24 : Int) k)),
 Value.int IntKind.i64
 (Ex.wrapQ IntKind.i64
 (Ex.addQ
 (Ex.wrapQ IntKind.i64
 (Ex.addQ (24 : Int) k))
 (1 : Int))),
 Value.int IntKind.i64 (0 : Int),
 Value.int IntKind.i64 (0 : Int),
 Value.int IntKind.i64 (14 : Int),
 Value.int IntKind.i64
 (Ex.wrapQ IntKind.i64 (Ex.addQ (24 : Int) k)),
 Value.int IntKind.i64
 (Ex.wrapQ IntKind.i64 (Ex.addQ (24 : Int) k)),
 Value.int IntKind.i64 (0 : Int),
 Value.int IntKind.i64 (3 : Int),
 Value.int IntKind.i64 (0 : Int)])
 (29 : Nat)))
 true])))))))))))))))
 (Sy.Res.br
 (Ex.ltQ (5 : Int)
 (Ex.wrapQ IntKind.i64
 (Ex.addQ k (↑(E.needs (tr l (List.length l - (1 : Nat)))) : Int))))
 (Sy.Res.leaf
 (Value.tuple
 (Array.mk [Value.slice none (0 : Nat) (0 : Nat), Value.int IntKind.i64 (30 : Int)]),
 []))
 (Sy.Res.need
 ((isExpr (24 : Int) l ∧ goodN l) ∧
 (0 : Int) ≤ Ex.wrapQ IntKind.i64 (Ex.subQ' (↑(List.length l) : Int) (1 : Int)) ∧
 Ex.wrapQ IntKind.i64 (Ex.subQ' (↑(List.length l) : Int) (1 : Int)) <
 (↑(List.length l) : Int) ∧
 Ex.wrapQ IntKind.i64 (Ex.subQ' (↑(List.length l) : Int) (1 : Int)) <
 (↑(List.length l) : Int) ∧
 (24 : Int) ≤ Ex.wrapQ IntKind.i64 (Ex.addQ (24 : Int) k) ∧
 Ex.wrapQ IntKind.i64 (Ex.addQ (24 : Int) k) +
 (↑(E.needs
 (tr l
 (Int.toNat
 (Ex.wrapQ IntKind.i64
 (Ex.subQ' (↑(List.length l) : Int) (1 : Int)))))) :
 Int) ≤
 (29 : Int))
 (Sy.Res.hyp
 (Nat.le
 (List.length
 (lay
 (tr l
 (Int.toNat
 (Ex.wrapQ IntKind.i64 (Ex.subQ' (↑(List.length l) : Int) (1 : Int)))))
 (Ex.wrapQ IntKind.i64 (Ex.addQ (24 : Int) k))))
 (Let.n (ns (1 : Nat))))
 (Sy.Res.need
 (goodU
 (Ex.wrapQ IntKind.u64
 (Ex.wrapQ IntKind.i64 (Ex.subQ' (Int.ofNat (Nat.succ p)) (1 : Int)))) ∧
 List.length
 (lay
 (tr l
 (Int.toNat
 (Ex.wrapQ IntKind.i64 (Ex.subQ' (↑(List.length l) : Int) (1 : Int)))))
 (Ex.wrapQ IntKind.i64 (Ex.addQ (24 : Int) k))) ≤
 (1000000 : Nat))
 (Sy.Res.hyp
 (Nat.le
 (List.length
 (lay
 (tr l
 (Int.toNat
 (Ex.wrapQ IntKind.i64 (Ex.subQ' (↑(List.length l) : Int) (1 : Int)))))
 (Ex.wrapQ IntKind.i64 (Ex.addQ (24 : Int) k))) +
 List.length
 (numL
 (Ex.wrapQ IntKind.i64
 (Ex.addQ (Ex.wrapQ IntKind.i64 (Ex.addQ (24 : Int) k)) (1 : Int)))
 (Ex.wrapQ IntKind.u64
 (Ex.wrapQ IntKind.i64 (Ex.subQ' (Int.ofNat (Nat.succ p)) (1 : Int))))))
 (Let.n (ns (3 : Nat))))
 (Sy.Res.need
 (List.length
 (lay
 (tr l
 (Int.toNat
 (Ex.wrapQ IntKind.i64
 (Ex.subQ' (↑(List.length l) : Int) (1 : Int)))))
 (Ex.wrapQ IntKind.i64 (Ex.addQ (24 : Int) k))) +
 List.length
 (numL
 (Ex.wrapQ IntKind.i64
 (Ex.addQ (Ex.wrapQ IntKind.i64 (Ex.addQ (24 : Int) k)) (1 : Int)))
 (Ex.wrapQ IntKind.u64
 (Ex.wrapQ IntKind.i64
 (Ex.subQ' (Int.ofNat (Nat.succ p)) (1 : Int))))) +
 (2 : Nat) ≤
 (9223372036854775807 : Nat))
 (Sy.Res.need
 ((List.length
 (lay
 (tr l
 (Int.toNat
 (Ex.wrapQ IntKind.i64
 (Ex.subQ' (↑(List.length l) : Int) (1 : Int)))))
 (Ex.wrapQ IntKind.i64 (Ex.addQ (24 : Int) k))) +
 List.length
 (numL
 (Ex.wrapQ IntKind.i64
 (Ex.addQ (Ex.wrapQ IntKind.i64 (Ex.addQ (24 : Int) k))
 (1 : Int)))
 (Ex.wrapQ IntKind.u64
 (Ex.wrapQ IntKind.i64
 (Ex.subQ' (Int.ofNat (Nat.succ p)) (1 : Int))))) +
 (2 : Nat)) *
 (48 : Nat) ≤
 (140737488355328 : Nat))
 (Sy.Res.hyp
 (Nat.le
 (List.length
 (lay
 (tr l
 (Int.toNat
 (Ex.wrapQ IntKind.i64
 (Ex.subQ' (↑(List.length l) : Int) (1 : Int)))))
 (Ex.wrapQ IntKind.i64 (Ex.addQ (24 : Int) k))) +
 List.length
 (numL
 (Ex.wrapQ IntKind.i64
 (Ex.addQ (Ex.wrapQ IntKind.i64 (Ex.addQ (24 : Int) k))
 (1 : Int)))
 (Ex.wrapQ IntKind.u64
 (Ex.wrapQ IntKind.i64
 (Ex.subQ' (Int.ofNat (Nat.succ p)) (1 : Int))))) +
 (2 : Nat))
 (Let.n (ns (6 : Nat))))
 (Sy.Res.need
 (goodU
 (Ex.wrapQ IntKind.u64
 (Ex.wrapQ IntKind.i64
 (Ex.addQ (65536 : Int)
 (Ex.wrapQ IntKind.i64 (Ex.mulQ (8 : Int) b))))) ∧
 List.length
 (lay
 (tr l
 (Int.toNat
 (Ex.wrapQ IntKind.i64
 (Ex.subQ' (↑(List.length l) : Int) (1 : Int)))))
 (Ex.wrapQ IntKind.i64 (Ex.addQ (24 : Int) k))) +
 List.length
 (I.mk (1 : Int)
 (Ex.wrapQ IntKind.i64
 (Ex.addQ (Ex.wrapQ IntKind.i64 (Ex.addQ (24 : Int) k))
 (1 : Int)))
 (0 : Int) (0 : Int)
 (Ex.wrapQ IntKind.u64
 (Ex.wrapQ IntKind.i64
 (Ex.subQ' (Int.ofNat (Nat.succ p)) (1 : Int))) %
 (65536 : Int))
 (0 : Int) ::
 (movk
 (Ex.wrapQ IntKind.i64
 (Ex.addQ (Ex.wrapQ IntKind.i64 (Ex.addQ (24 : Int) k))
 (1 : Int)))
 (Ex.wrapQ IntKind.u64
 (Ex.wrapQ IntKind.i64
 (Ex.subQ' (Int.ofNat (Nat.succ p)) (1 : Int))) /
 (65536 : Int) %
 (65536 : Int))
 (1 : Int) ++
 (movk
 (Ex.wrapQ IntKind.i64
 (Ex.addQ (Ex.wrapQ IntKind.i64 (Ex.addQ (24 : Int) k))
 (1 : Int)))
 (Ex.wrapQ IntKind.u64
 (Ex.wrapQ IntKind.i64
 (Ex.subQ' (Int.ofNat (Nat.succ p)) (1 : Int))) /
 (4294967296 : Int) %
 (65536 : Int))
 (2 : Int) ++
 movk
 (Ex.wrapQ IntKind.i64
 (Ex.addQ (Ex.wrapQ IntKind.i64 (Ex.addQ (24 : Int) k))
 (1 : Int)))
 (Ex.wrapQ IntKind.u64
 (Ex.wrapQ IntKind.i64
 (Ex.subQ' (Int.ofNat (Nat.succ p)) (1 : Int))) /
 (281474976710656 : Int) %
 (65536 : Int))
 (3 : Int)))) +
 (2 : Nat) ≤
 (1000000 : Nat))
 (Sy.Res.hyp
 (Nat.le
 (List.length
 (lay
 (tr l
 (Int.toNat
 (Ex.wrapQ IntKind.i64
 (Ex.subQ' (↑(List.length l) : Int) (1 : Int)))))
 (Ex.wrapQ IntKind.i64 (Ex.addQ (24 : Int) k))) +
 List.length
 (I.mk (1 : Int)
 (Ex.wrapQ IntKind.i64
 (Ex.addQ (Ex.wrapQ IntKind.i64 (Ex.addQ (24 : Int) k))
 (1 : Int)))
 (0 : Int) (0 : Int)
 (Ex.wrapQ IntKind.u64
 (Ex.wrapQ IntKind.i64
 (Ex.subQ' (Int.ofNat (Nat.succ p)) (1 : Int))) %
 (65536 : Int))
 (0 : Int) ::
 (movk
 (Ex.wrapQ IntKind.i64
 (Ex.addQ (Ex.wrapQ IntKind.i64 (Ex.addQ (24 : Int) k))
 (1 : Int)))
 (Ex.wrapQ IntKind.u64
 (Ex.wrapQ IntKind.i64
 (Ex.subQ' (Int.ofNat (Nat.succ p)) (1 : Int))) /
 (65536 : Int) %
 (65536 : Int))
 (1 : Int) ++
 (movk
 (Ex.wrapQ IntKind.i64
 (Ex.addQ
 (Ex.wrapQ IntKind.i64 (Ex.addQ (24 : Int) k))
 (1 : Int)))
 (Ex.wrapQ IntKind.u64
 (Ex.wrapQ IntKind.i64
 (Ex.subQ' (Int.ofNat (Nat.succ p))
 (1 : Int))) /
 (4294967296 : Int) %
 (65536 : Int))
 (2 : Int) ++
 movk
 (Ex.wrapQ IntKind.i64
 (Ex.addQ
 (Ex.wrapQ IntKind.i64 (Ex.addQ (24 : Int) k))
 (1 : Int)))
 (Ex.wrapQ IntKind.u64
 (Ex.wrapQ IntKind.i64
 (Ex.subQ' (Int.ofNat (Nat.succ p))
 (1 : Int))) /
 (281474976710656 : Int) %
 (65536 : Int))
 (3 : Int)))) +
 (2 : Nat) +
 List.length
 (numL (29 : Int)
 (Ex.wrapQ IntKind.u64
 (Ex.wrapQ IntKind.i64
 (Ex.addQ (65536 : Int)
 (Ex.wrapQ IntKind.i64 (Ex.mulQ (8 : Int) b)))))))
 (Let.n (ns (8 : Nat))))
 (Sy.Res.need
 (List.length
 (lay
 (tr l
 (Int.toNat
 (Ex.wrapQ IntKind.i64
 (Ex.subQ' (↑(List.length l) : Int) (1 : Int)))))
 (Ex.wrapQ IntKind.i64 (Ex.addQ (24 : Int) k))) +
 List.length
 (I.mk (1 : Int)
 (Ex.wrapQ IntKind.i64
 (Ex.addQ
 (Ex.wrapQ IntKind.i64 (Ex.addQ (24 : Int) k))
 (1 : Int)))
 (0 : Int) (0 : Int)
 (Ex.wrapQ IntKind.u64
 (Ex.wrapQ IntKind.i64
 (Ex.subQ' (Int.ofNat (Nat.succ p)) (1 : Int))) %
 (65536 : Int))
 (0 : Int) ::
 (movk
 (Ex.wrapQ IntKind.i64
 (Ex.addQ
 (Ex.wrapQ IntKind.i64 (Ex.addQ (24 : Int) k))
 (1 : Int)))
 (Ex.wrapQ IntKind.u64
 (Ex.wrapQ IntKind.i64
 (Ex.subQ' (Int.ofNat (Nat.succ p))
 (1 : Int))) /
 (65536 : Int) %
 (65536 : Int))
 (1 : Int) ++
 (movk
 (Ex.wrapQ IntKind.i64
 (Ex.addQ
 (Ex.wrapQ IntKind.i64 (Ex.addQ (24 : Int) k))
 (1 : Int)))
 (Ex.wrapQ IntKind.u64
 (Ex.wrapQ IntKind.i64
 (Ex.subQ' (Int.ofNat (Nat.succ p))
 (1 : Int))) /
 (4294967296 : Int) %
 (65536 : Int))
 (2 : Int) ++
 movk
 (Ex.wrapQ IntKind.i64
 (Ex.addQ
 (Ex.wrapQ IntKind.i64 (Ex.addQ (24 : Int) k))
 (1 : Int)))
 (Ex.wrapQ IntKind.u64
 (Ex.wrapQ IntKind.i64
 (Ex.subQ' (Int.ofNat (Nat.succ p))
 (1 : Int))) /
 (281474976710656 : Int) %
 (65536 : Int))
 (3 : Int)))) +
 (2 : Nat) +
 List.length
 (numL (29 : Int)
 (Ex.wrapQ IntKind.u64
 (Ex.wrapQ IntKind.i64
 (Ex.addQ (65536 : Int)
 (Ex.wrapQ IntKind.i64 (Ex.mulQ (8 : Int) b)))))) +
 (1 : Nat) ≤
 (9223372036854775807 : Nat))
 (Sy.Res.need
 ((List.length
 (lay
 (tr l
 (Int.toNat
 (Ex.wrapQ IntKind.i64
 (Ex.subQ' (↑(List.length l) : Int)
 (1 : Int)))))
 (Ex.wrapQ IntKind.i64 (Ex.addQ (24 : Int) k))) +
 List.length
 (I.mk (1 : Int)
 (Ex.wrapQ IntKind.i64
 (Ex.addQ
 (Ex.wrapQ IntKind.i64 (Ex.addQ (24 : Int) k))
 (1 : Int)))
 (0 : Int) (0 : Int)
 (Ex.wrapQ IntKind.u64
 (Ex.wrapQ IntKind.i64
 (Ex.subQ' (Int.ofNat (Nat.succ p))
 (1 : Int))) %
 (65536 : Int))
 (0 : Int) ::
 (movk
 (Ex.wrapQ IntKind.i64
 (Ex.addQ
 (Ex.wrapQ IntKind.i64
 (Ex.addQ (24 : Int) k))
 (1 : Int)))
 (Ex.wrapQ IntKind.u64
 (Ex.wrapQ IntKind.i64
 (Ex.subQ' (Int.ofNat (Nat.succ p))
 (1 : Int))) /
 (65536 : Int) %
 (65536 : Int))
 (1 : Int) ++
 (movk
 (Ex.wrapQ IntKind.i64
 (Ex.addQ
 (Ex.wrapQ IntKind.i64
 (Ex.addQ (24 : Int) k))
 (1 : Int)))
 (Ex.wrapQ IntKind.u64
 (Ex.wrapQ IntKind.i64
 (Ex.subQ' (Int.ofNat (Nat.succ p))
 (1 : Int))) /
 (4294967296 : Int) %
 (65536 : Int))
 (2 : Int) ++
 movk
 (Ex.wrapQ IntKind.i64
 (Ex.addQ
 (Ex.wrapQ IntKind.i64
 (Ex.addQ (24 : Int) k))
 (1 : Int)))
 (Ex.wrapQ IntKind.u64
 (Ex.wrapQ IntKind.i64
 (Ex.subQ' (Int.ofNat (Nat.succ p))
 (1 : Int))) /
 (281474976710656 : Int) %
 (65536 : Int))
 (3 : Int)))) +
 (2 : Nat) +
 List.length
 (numL (29 : Int)
 (Ex.wrapQ IntKind.u64
 (Ex.wrapQ IntKind.i64
 (Ex.addQ (65536 : Int)
 (Ex.wrapQ IntKind.i64 (Ex.mulQ (8 : Int) b)))))) +
 (1 : Nat)) *
 (48 : Nat) ≤
 (140737488355328 : Nat))
 (Sy.Res.hyp
 (Nat.le
 (List.length
 (lay
 (tr l
 (Int.toNat
 (Ex.wrapQ IntKind.i64
 (Ex.subQ' (↑(List.length l) : Int)
 (1 : Int)))))
 (Ex.wrapQ IntKind.i64 (Ex.addQ (24 : Int) k))) +
 List.length
 (I.mk (1 : Int)
 (Ex.wrapQ IntKind.i64
 (Ex.addQ
 (Ex.wrapQ IntKind.i64 (Ex.addQ (24 : Int) k))
 (1 : Int)))
 (0 : Int) (0 : Int)
 (Ex.wrapQ IntKind.u64
 (Ex.wrapQ IntKind.i64
 (Ex.subQ' (Int.ofNat (Nat.succ p))
 (1 : Int))) %
 (65536 : Int))
 (0 : Int) ::
 (movk
 (Ex.wrapQ IntKind.i64
 (Ex.addQ
 (Ex.wrapQ IntKind.i64
 (Ex.addQ (24 : Int) k))
 (1 : Int)))
 (Ex.wrapQ IntKind.u64
 (Ex.wrapQ IntKind.i64
 (Ex.subQ' (Int.ofNat (Nat.succ p))
 (1 : Int))) /
 (65536 : Int) %
 (65536 : Int))
 (1 : Int) ++
 (movk
 (Ex.wrapQ IntKind.i64
 (Ex.addQ
 (Ex.wrapQ IntKind.i64
 (Ex.addQ (24 : Int) k))
 (1 : Int)))
 (Ex.wrapQ IntKind.u64
 (Ex.wrapQ IntKind.i64
 (Ex.subQ' (Int.ofNat (Nat.succ p))
 (1 : Int))) /
 (4294967296 : Int) %
 (65536 : Int))
 (2 : Int) ++
 movk
 (Ex.wrapQ IntKind.i64
 (Ex.addQ
 (Ex.wrapQ IntKind.i64
 (Ex.addQ (24 : Int) k))
 (1 : Int)))
 (Ex.wrapQ IntKind.u64
 (Ex.wrapQ IntKind.i64
 (Ex.subQ' (Int.ofNat (Nat.succ p))
 (1 : Int))) /
 (281474976710656 : Int) %
 (65536 : Int))
 (3 : Int)))) +
 (2 : Nat) +
 List.length
 (numL (29 : Int)
 (Ex.wrapQ IntKind.u64
 (Ex.wrapQ IntKind.i64
 (Ex.addQ (65536 : Int)
 (Ex.wrapQ IntKind.i64 (Ex.mulQ (8 : Int) b)))))) +
 (1 : Nat))
 (Let.n (ns (11 : Nat))))
 (Sy.Res.leaf
 (Value.tuple
 (Array.mk
 [Value.slice
 (some
 (Addr.mk (Let.n (ns (10 : Nat))) (0 : Nat) none))
 (List.length
 (lay
 (tr l
 (Int.toNat
 (Ex.wrapQ IntKind.i64
 (Ex.subQ' (↑(List.length l) : Int)
 (1 : Int)))))
 (Ex.wrapQ IntKind.i64
 (Ex.addQ (24 : Int) k))) +
 List.length
 (I.mk (1 : Int)
 (Ex.wrapQ IntKind.i64
 (Ex.addQ
 (Ex.wrapQ IntKind.i64
 (Ex.addQ (24 : Int) k))
 (1 : Int)))
 (0 : Int) (0 : Int)
 (Ex.wrapQ IntKind.u64
 (Ex.wrapQ IntKind.i64
 (Ex.subQ' (Int.ofNat (Nat.succ p))
 (1 : Int))) %
 (65536 : Int))
 (0 : Int) ::
 (movk
 (Ex.wrapQ IntKind.i64
 (Ex.addQ
 (Ex.wrapQ IntKind.i64
 (Ex.addQ (24 : Int) k))
 (1 : Int)))
 (Ex.wrapQ IntKind.u64
 (Ex.wrapQ IntKind.i64
 (Ex.subQ'
 (Int.ofNat (Nat.succ p))
 (1 : Int))) /
 (65536 : Int) %
 (65536 : Int))
 (1 : Int) ++
 (movk
 (Ex.wrapQ IntKind.i64
 (Ex.addQ
 (Ex.wrapQ IntKind.i64
 (Ex.addQ (24 : Int) k))
 (1 : Int)))
 (Ex.wrapQ IntKind.u64
 (Ex.wrapQ IntKind.i64
 (Ex.subQ'
 (Int.ofNat (Nat.succ p))
 (1 : Int))) /
 (4294967296 : Int) %
 (65536 : Int))
 (2 : Int) ++
 movk
 (Ex.wrapQ IntKind.i64
 (Ex.addQ
 (Ex.wrapQ IntKind.i64
 (Ex.addQ (24 : Int) k))
 (1 : Int)))
 (Ex.wrapQ IntKind.u64
 (Ex.wrapQ IntKind.i64
 (Ex.subQ'
 (Int.ofNat (Nat.succ p))
 (1 : Int))) /
 (281474976710656 : Int) %
 (65536 : Int))
 (3 : Int)))) +
 (2 : Nat) +
 List.length
 (numL (29 : Int)
 (Ex.wrapQ IntKind.u64
 (Ex.wrapQ IntKind.i64
 (Ex.addQ (65536 : Int)
 (Ex.wrapQ IntKind.i64
 (Ex.mulQ (8 : Int) b)))))) +
 (1 : Nat))
 (Let.n (ns (11 : Nat))),
 Value.int IntKind.i64 (0 : Int)]),
 [Blk.mk (Let.n (ns (10 : Nat)))
 (Sy.Cont.row (29 : Nat) (6 : Nat)
 (List.length
 (lay
 (tr l
 (Int.toNat
 (Ex.wrapQ IntKind.i64
 (Ex.subQ' (↑(List.length l) : Int)
 (1 : Int)))))
 (Ex.wrapQ IntKind.i64
 (Ex.addQ (24 : Int) k))) +
 List.length
 (I.mk (1 : Int)
 (Ex.wrapQ IntKind.i64
 (Ex.addQ
 (Ex.wrapQ IntKind.i64
 (Ex.addQ (24 : Int) k))
 (1 : Int)))
 (0 : Int) (0 : Int)
 (Ex.wrapQ IntKind.u64
 (Ex.wrapQ IntKind.i64
 (Ex.subQ' (Int.ofNat (Nat.succ p))
 (1 : Int))) %
 (65536 : Int))
 (0 : Int) ::
 (movk
 (Ex.wrapQ IntKind.i64
 (Ex.addQ
 (Ex.wrapQ IntKind.i64
 (Ex.addQ (24 : Int) k))
 (1 : Int)))
 (Ex.wrapQ IntKind.u64
 (Ex.wrapQ IntKind.i64
 (Ex.subQ'
 (Int.ofNat (Nat.succ p))
 (1 : Int))) /
 (65536 : Int) %
 (65536 : Int))
 (1 : Int) ++
 (movk
 (Ex.wrapQ IntKind.i64
 (Ex.addQ
 (Ex.wrapQ IntKind.i64
 (Ex.addQ (24 : Int) k))
 (1 : Int)))
 (Ex.wrapQ IntKind.u64
 (Ex.wrapQ IntKind.i64
 (Ex.subQ'
 (Int.ofNat (Nat.succ p))
 (1 : Int))) /
 (4294967296 : Int) %
 (65536 : Int))
 (2 : Int) ++
 movk
 (Ex.wrapQ IntKind.i64
 (Ex.addQ
 (Ex.wrapQ IntKind.i64
 (Ex.addQ (24 : Int) k))
 (1 : Int)))
 (Ex.wrapQ IntKind.u64
 (Ex.wrapQ IntKind.i64
 (Ex.subQ'
 (Int.ofNat (Nat.succ p))
 (1 : Int))) /
 (281474976710656 : Int) %
 (65536 : Int))
 (3 : Int)))) +
 (2 : Nat) +
 List.length
 (numL (29 : Int)
 (Ex.wrapQ IntKind.u64
 (Ex.wrapQ IntKind.i64
 (Ex.addQ (65536 : Int)
 (Ex.wrapQ IntKind.i64
 (Ex.mulQ (8 : Int) b)))))) +
 (1 : Nat))
 (Let.n (ns (11 : Nat)))
 (insCells
 (lay
 (tr l
 (Int.toNat
 (Ex.wrapQ IntKind.i64
 (Ex.subQ' (↑(List.length l) : Int)
 (1 : Int)))))
 (Ex.wrapQ IntKind.i64
 (Ex.addQ (24 : Int) k))) ++
 insCells
 (I.mk (1 : Int)
 (Ex.wrapQ IntKind.i64
 (Ex.addQ
 (Ex.wrapQ IntKind.i64
 (Ex.addQ (24 : Int) k))
 (1 : Int)))
 (0 : Int) (0 : Int)
 (Ex.wrapQ IntKind.u64
 (Ex.wrapQ IntKind.i64
 (Ex.subQ' (Int.ofNat (Nat.succ p))
 (1 : Int))) %
 (65536 : Int))
 (0 : Int) ::
 (movk
 (Ex.wrapQ IntKind.i64
 (Ex.addQ
 (Ex.wrapQ IntKind.i64
 (Ex.addQ (24 : Int) k))
 (1 : Int)))
 (Ex.wrapQ IntKind.u64
 (Ex.wrapQ IntKind.i64
 (Ex.subQ'
 (Int.ofNat (Nat.succ p))
 (1 : Int))) /
 (65536 : Int) %
 (65536 : Int))
 (1 : Int) ++
 (movk
 (Ex.wrapQ IntKind.i64
 (Ex.addQ
 (Ex.wrapQ IntKind.i64
 (Ex.addQ (24 : Int) k))
 (1 : Int)))
 (Ex.wrapQ IntKind.u64
 (Ex.wrapQ IntKind.i64
 (Ex.subQ'
 (Int.ofNat (Nat.succ p))
 (1 : Int))) /
 (4294967296 : Int) %
 (65536 : Int))
 (2 : Int) ++
 movk
 (Ex.wrapQ IntKind.i64
 (Ex.addQ
 (Ex.wrapQ IntKind.i64
 (Ex.addQ (24 : Int) k))
 (1 : Int)))
 (Ex.wrapQ IntKind.u64
 (Ex.wrapQ IntKind.i64
 (Ex.subQ'
 (Int.ofNat (Nat.succ p))
 (1 : Int))) /
 (281474976710656 : Int) %
 (65536 : Int))
 (3 : Int)))) ++
 [Value.int IntKind.i64 (5 : Int),
 Value.int IntKind.i64
 (Ex.wrapQ IntKind.i64 (Ex.addQ (24 : Int) k)),
 Value.int IntKind.i64
 (Ex.wrapQ IntKind.i64 (Ex.addQ (24 : Int) k)),
 Value.int IntKind.i64
 (Ex.wrapQ IntKind.i64
 (Ex.addQ
 (Ex.wrapQ IntKind.i64
 (Ex.addQ (24 : Int) k))
 (1 : Int))),
 Value.int IntKind.i64 (0 : Int),
 Value.int IntKind.i64 (0 : Int),
 Value.int IntKind.i64 (14 : Int),
 Value.int IntKind.i64
 (Ex.wrapQ IntKind.i64 (Ex.addQ (24 : Int) k)),
 Value.int IntKind.i64
 (Ex.wrapQ IntKind.i64 (Ex.addQ (24 : Int) k)),
 Value.int IntKind.i64 (0 : Int),
 Value.int IntKind.i64 (3 : Int),
 Value.int IntKind.i64 (0 : Int)] ++
 insCells
 (numL (29 : Int)
 (Ex.wrapQ IntKind.u64
 (Ex.wrapQ IntKind.i64
 (Ex.addQ (65536 : Int)
 (Ex.wrapQ IntKind.i64
 (Ex.mulQ (8 : Int) b)))))) ++
 [Value.int IntKind.i64 (3 : Int),
 Value.int IntKind.i64 (29 : Int),
 Value.int IntKind.i64 (29 : Int),
 Value.int IntKind.i64
 (Ex.wrapQ IntKind.i64 (Ex.addQ (24 : Int) k)),
 Value.int IntKind.i64 (0 : Int),
 Value.int IntKind.i64 (0 : Int)]))
 true,
 Blk.mk (Let.n (ns (9 : Nat)))
 (Sy.Cont.obj
 (Obj.cells
 (Array.mk
 [Value.int IntKind.i64 (3 : Int),
 Value.int IntKind.i64 (29 : Int),
 Value.int IntKind.i64 (29 : Int),
 Value.int IntKind.i64
 (Ex.wrapQ IntKind.i64 (Ex.addQ (24 : Int) k)),
 Value.int IntKind.i64 (0 : Int),
 Value.int IntKind.i64 (0 : Int)])
 (29 : Nat)))
 true,
 Blk.mk (Let.n (ns (4 : Nat)))
 (Sy.Cont.obj
 (Obj.cells
 (Array.mk
 [Value.int IntKind.i64 (5 : Int),
 Value.int IntKind.i64
 (Ex.wrapQ IntKind.i64 (Ex.addQ (24 : Int) k)),
 Value.int IntKind.i64
 (Ex.wrapQ IntKind.i64 (Ex.addQ (24 : Int) k)),
 Value.int IntKind.i64
 (Ex.wrapQ IntKind.i64
 (Ex.addQ
 (Ex.wrapQ IntKind.i64
 (Ex.addQ (24 : Int) k))
 (1 : Int))),
 Value.int IntKind.i64 (0 : Int),
 Value.int IntKind.i64 (0 : Int),
 Value.int IntKind.i64 (14 : Int),
 Value.int IntKind.i64
 (Ex.wrapQ IntKind.i64 (Ex.addQ (24 : Int) k)),
 Value.int IntKind.i64
 (Ex.wrapQ IntKind.i64 (Ex.addQ (24 : Int) k)),
 Value.int IntKind.i64 (0 : Int),
 Value.int IntKind.i64 (3 : Int),
 Value.int IntKind.i64 (0 : Int)])
 (29 : Nat)))
 true]))))))))))))))))))))))))))))
 (Sy.Res.br (bif false then true else Ex.ltQ b (0 : Int))
 (Sy.Res.leaf (Value.tuple (Array.mk [Value.slice none (0 : Nat) (0 : Nat), Value.int IntKind.i64 (1 : Int)]), []))
 (Sy.Res.br
 (bif false then true else Ex.ltQ (Ex.wrapQ IntKind.i64 (Ex.subQ' (4096 : Int) (Int.ofNat (Nat.succ p)))) b)
 (Sy.Res.leaf (Value.tuple (Array.mk [Value.slice none (0 : Nat) (0 : Nat), Value.int IntKind.i64 (1 : Int)]), []))
 (Sy.Res.br (bif false then true else Ex.ltQ k (0 : Int))
 (Sy.Res.leaf
 (Value.tuple (Array.mk [Value.slice none (0 : Nat) (0 : Nat), Value.int IntKind.i64 (1 : Int)]), []))
 (Sy.Res.br (bif false then true else Ex.ltQ (4 : Int) k)
 (Sy.Res.leaf
 (Value.tuple (Array.mk [Value.slice none (0 : Nat) (0 : Nat), Value.int IntKind.i64 (1 : Int)]), []))
 (Sy.Res.need (((0 : Int) ≤ (24 : Int) ∧ (24 : Int) ≤ (1000 : Int) ∧ goodN l) ∧ (0 : Nat) < List.length l)
 (Sy.Res.hyp True
 (Sy.Res.br (bif false then true else bif true then !tru (isExpr (24 : Int) l) else false)
 (Sy.Res.leaf
 (Value.tuple (Array.mk [Value.slice none (0 : Nat) (0 : Nat), Value.int IntKind.i64 (1 : Int)]), []))
 (Sy.Res.need
 (nodesOk (24 : Int) l ∧ (0 : Nat) < List.length l ∧ List.length l ≤ (65536 : Nat) ∧ onceOk l)
 (Sy.Res.hyp True
 (Sy.Res.br (Ex.ltQ (↑(E.needs (tr l (List.length l - (1 : Nat)))) : Int) (2 : Int))
 (Sy.Res.br (Ex.ltQ (5 : Int) (Ex.wrapQ IntKind.i64 (Ex.addQ k (2 : Int))))
 (Sy.Res.leaf
 (Value.tuple
 (Array.mk [Value.slice none (0 : Nat) (0 : Nat), Value.int IntKind.i64 (30 : Int)]),
 []))
 (Sy.Res.need
 ((isExpr (24 : Int) l ∧ goodN l) ∧
 (0 : Int) ≤ Ex.wrapQ IntKind.i64 (Ex.subQ' (↑(List.length l) : Int) (1 : Int)) ∧
 Ex.wrapQ IntKind.i64 (Ex.subQ' (↑(List.length l) : Int) (1 : Int)) <
 (↑(List.length l) : Int) ∧
 Ex.wrapQ IntKind.i64 (Ex.subQ' (↑(List.length l) : Int) (1 : Int)) <
 (↑(List.length l) : Int) ∧
 (24 : Int) ≤ Ex.wrapQ IntKind.i64 (Ex.addQ (24 : Int) k) ∧
 Ex.wrapQ IntKind.i64 (Ex.addQ (24 : Int) k) +
 (↑(E.needs
 (tr l
 (Int.toNat
 (Ex.wrapQ IntKind.i64
 (Ex.subQ' (↑(List.length l) : Int) (1 : Int)))))) :
 Int) ≤
 (29 : Int))
 (Sy.Res.hyp
 (Nat.le
 (List.length
 (lay
 (tr l
 (Int.toNat (Ex.wrapQ IntKind.i64 (Ex.subQ' (↑(List.length l) : Int) (1 : Int)))))
 (Ex.wrapQ IntKind.i64 (Ex.addQ (24 : Int) k))))
 (Let.n (ns (1 : Nat))))
 (Sy.Res.need
 (goodU
 (Ex.wrapQ IntKind.u64
 (Ex.wrapQ IntKind.i64 (Ex.subQ' (Int.ofNat (Nat.succ p)) (1 : Int)))) ∧
 List.length
 (lay
 (tr l
 (Int.toNat
 (Ex.wrapQ IntKind.i64 (Ex.subQ' (↑(List.length l) : Int) (1 : Int)))))
 (Ex.wrapQ IntKind.i64 (Ex.addQ (24 : Int) k))) ≤
 (1000000 : Nat))
 (Sy.Res.hyp
 (Nat.le
 (List.length
 (lay
 (tr l
 (Int.toNat
 (Ex.wrapQ IntKind.i64 (Ex.subQ' (↑(List.length l) : Int) (1 : Int)))))
 (Ex.wrapQ IntKind.i64 (Ex.addQ (24 : Int) k))) +
 List.length
 (numL
 (Ex.wrapQ IntKind.i64
 (Ex.addQ (Ex.wrapQ IntKind.i64 (Ex.addQ (24 : Int) k)) (1 : Int)))
 (Ex.wrapQ IntKind.u64
 (Ex.wrapQ IntKind.i64 (Ex.subQ' (Int.ofNat (Nat.succ p)) (1 : Int))))))
 (Let.n (ns (3 : Nat))))
 (Sy.Res.need
 (List.length
 (lay
 (tr l
 (Int.toNat
 (Ex.wrapQ IntKind.i64 (Ex.subQ' (↑(List.length l) : Int) (1 : Int)))))
 (Ex.wrapQ IntKind.i64 (Ex.addQ (24 : Int) k))) +
 List.length
 (numL
 (Ex.wrapQ IntKind.i64
 (Ex.addQ (Ex.wrapQ IntKind.i64 (Ex.addQ (24 : Int) k)) (1 : Int)))
 (Ex.wrapQ IntKind.u64
 (Ex.wrapQ IntKind.i64 (Ex.subQ' (Int.ofNat (Nat.succ p)) (1 : Int))))) +
 (2 : Nat) ≤
 (9223372036854775807 : Nat))
 (Sy.Res.need
 ((List.length
 (lay
 (tr l
 (Int.toNat
 (Ex.wrapQ IntKind.i64
 (Ex.subQ' (↑(List.length l) : Int) (1 : Int)))))
 (Ex.wrapQ IntKind.i64 (Ex.addQ (24 : Int) k))) +
 List.length
 (numL
 (Ex.wrapQ IntKind.i64
 (Ex.addQ (Ex.wrapQ IntKind.i64 (Ex.addQ (24 : Int) k)) (1 : Int)))
 (Ex.wrapQ IntKind.u64
 (Ex.wrapQ IntKind.i64
 (Ex.subQ' (Int.ofNat (Nat.succ p)) (1 : Int))))) +
 (2 : Nat)) *
 (48 : Nat) ≤
 (140737488355328 : Nat))
 (Sy.Res.hyp
 (Nat.le
 (List.length
 (lay
 (tr l
 (Int.toNat
 (Ex.wrapQ IntKind.i64
 (Ex.subQ' (↑(List.length l) : Int) (1 : Int)))))
 (Ex.wrapQ IntKind.i64 (Ex.addQ (24 : Int) k))) +
 List.length
 (numL
 (Ex.wrapQ IntKind.i64
 (Ex.addQ (Ex.wrapQ IntKind.i64 (Ex.addQ (24 : Int) k)) (1 : Int)))
 (Ex.wrapQ IntKind.u64
 (Ex.wrapQ IntKind.i64
 (Ex.subQ' (Int.ofNat (Nat.succ p)) (1 : Int))))) +
 (2 : Nat))
 (Let.n (ns (6 : Nat))))
 (Sy.Res.need
 (goodU
 (Ex.wrapQ IntKind.u64
 (Ex.wrapQ IntKind.i64
 (Ex.addQ (65536 : Int) (Ex.wrapQ IntKind.i64 (Ex.mulQ (8 : Int) b))))) ∧
 List.length
 (lay
 (tr l
 (Int.toNat
 (Ex.wrapQ IntKind.i64
 (Ex.subQ' (↑(List.length l) : Int) (1 : Int)))))
 (Ex.wrapQ IntKind.i64 (Ex.addQ (24 : Int) k))) +
 List.length
 (I.mk (1 : Int)
 (Ex.wrapQ IntKind.i64
 (Ex.addQ (Ex.wrapQ IntKind.i64 (Ex.addQ (24 : Int) k))
 (1 : Int)))
 (0 : Int) (0 : Int)
 (Ex.wrapQ IntKind.u64
 (Ex.wrapQ IntKind.i64
 (Ex.subQ' (Int.ofNat (Nat.succ p)) (1 : Int))) %
 (65536 : Int))
 (0 : Int) ::
 (movk
 (Ex.wrapQ IntKind.i64
 (Ex.addQ (Ex.wrapQ IntKind.i64 (Ex.addQ (24 : Int) k))
 (1 : Int)))
 (Ex.wrapQ IntKind.u64
 (Ex.wrapQ IntKind.i64
 (Ex.subQ' (Int.ofNat (Nat.succ p)) (1 : Int))) /
 (65536 : Int) %
 (65536 : Int))
 (1 : Int) ++
 (movk
 (Ex.wrapQ IntKind.i64
 (Ex.addQ (Ex.wrapQ IntKind.i64 (Ex.addQ (24 : Int) k))
 (1 : Int)))
 (Ex.wrapQ IntKind.u64
 (Ex.wrapQ IntKind.i64
 (Ex.subQ' (Int.ofNat (Nat.succ p)) (1 : Int))) /
 (4294967296 : Int) %
 (65536 : Int))
 (2 : Int) ++
 movk
 (Ex.wrapQ IntKind.i64
 (Ex.addQ (Ex.wrapQ IntKind.i64 (Ex.addQ (24 : Int) k))
 (1 : Int)))
 (Ex.wrapQ IntKind.u64
 (Ex.wrapQ IntKind.i64
 (Ex.subQ' (Int.ofNat (Nat.succ p)) (1 : Int))) /
 (281474976710656 : Int) %
 (65536 : Int))
 (3 : Int)))) +
 (2 : Nat) ≤
 (1000000 : Nat))
 (Sy.Res.hyp
 (Nat.le
 (List.length
 (lay
 (tr l
 (Int.toNat
 (Ex.wrapQ IntKind.i64
 (Ex.subQ' (↑(List.length l) : Int) (1 : Int)))))
 (Ex.wrapQ IntKind.i64 (Ex.addQ (24 : Int) k))) +
 List.length
 (I.mk (1 : Int)
 (Ex.wrapQ IntKind.i64
 (Ex.addQ (Ex.wrapQ IntKind.i64 (Ex.addQ (24 : Int) k))
 (1 : Int)))
 (0 : Int) (0 : Int)
 (Ex.wrapQ IntKind.u64
 (Ex.wrapQ IntKind.i64
 (Ex.subQ' (Int.ofNat (Nat.succ p)) (1 : Int))) %
 (65536 : Int))
 (0 : Int) ::
 (movk
 (Ex.wrapQ IntKind.i64
 (Ex.addQ (Ex.wrapQ IntKind.i64 (Ex.addQ (24 : Int) k))
 (1 : Int)))
 (Ex.wrapQ IntKind.u64
 (Ex.wrapQ IntKind.i64
 (Ex.subQ' (Int.ofNat (Nat.succ p)) (1 : Int))) /
 (65536 : Int) %
 (65536 : Int))
 (1 : Int) ++
 (movk
 (Ex.wrapQ IntKind.i64
 (Ex.addQ (Ex.wrapQ IntKind.i64 (Ex.addQ (24 : Int) k))
 (1 : Int)))
 (Ex.wrapQ IntKind.u64
 (Ex.wrapQ IntKind.i64
 (Ex.subQ' (Int.ofNat (Nat.succ p)) (1 : Int))) /
 (4294967296 : Int) %
 (65536 : Int))
 (2 : Int) ++
 movk
 (Ex.wrapQ IntKind.i64
 (Ex.addQ (Ex.wrapQ IntKind.i64 (Ex.addQ (24 : Int) k))
 (1 : Int)))
 (Ex.wrapQ IntKind.u64
 (Ex.wrapQ IntKind.i64
 (Ex.subQ' (Int.ofNat (Nat.succ p)) (1 : Int))) /
 (281474976710656 : Int) %
 (65536 : Int))
 (3 : Int)))) +
 (2 : Nat) +
 List.length
 (numL (29 : Int)
 (Ex.wrapQ IntKind.u64
 (Ex.wrapQ IntKind.i64
 (Ex.addQ (65536 : Int)
 (Ex.wrapQ IntKind.i64 (Ex.mulQ (8 : Int) b)))))))
 (Let.n (ns (8 : Nat))))
 (Sy.Res.need
 (List.length
 (lay
 (tr l
 (Int.toNat
 (Ex.wrapQ IntKind.i64
 (Ex.subQ' (↑(List.length l) : Int) (1 : Int)))))
 (Ex.wrapQ IntKind.i64 (Ex.addQ (24 : Int) k))) +
 List.length
 (I.mk (1 : Int)
 (Ex.wrapQ IntKind.i64
 (Ex.addQ (Ex.wrapQ IntKind.i64 (Ex.addQ (24 : Int) k))
 (1 : Int)))
 (0 : Int) (0 : Int)
 (Ex.wrapQ IntKind.u64
 (Ex.wrapQ IntKind.i64
 (Ex.subQ' (Int.ofNat (Nat.succ p)) (1 : Int))) %
 (65536 : Int))
 (0 : Int) ::
 (movk
 (Ex.wrapQ IntKind.i64
 (Ex.addQ (Ex.wrapQ IntKind.i64 (Ex.addQ (24 : Int) k))
 (1 : Int)))
 (Ex.wrapQ IntKind.u64
 (Ex.wrapQ IntKind.i64
 (Ex.subQ' (Int.ofNat (Nat.succ p)) (1 : Int))) /
 (65536 : Int) %
 (65536 : Int))
 (1 : Int) ++
 (movk
 (Ex.wrapQ IntKind.i64
 (Ex.addQ (Ex.wrapQ IntKind.i64 (Ex.addQ (24 : Int) k))
 (1 : Int)))
 (Ex.wrapQ IntKind.u64
 (Ex.wrapQ IntKind.i64
 (Ex.subQ' (Int.ofNat (Nat.succ p)) (1 : Int))) /
 (4294967296 : Int) %
 (65536 : Int))
 (2 : Int) ++
 movk
 (Ex.wrapQ IntKind.i64
 (Ex.addQ (Ex.wrapQ IntKind.i64 (Ex.addQ (24 : Int) k))
 (1 : Int)))
 (Ex.wrapQ IntKind.u64
 (Ex.wrapQ IntKind.i64
 (Ex.subQ' (Int.ofNat (Nat.succ p)) (1 : Int))) /
 (281474976710656 : Int) %
 (65536 : Int))
 (3 : Int)))) +
 (2 : Nat) +
 List.length
 (numL (29 : Int)
 (Ex.wrapQ IntKind.u64
 (Ex.wrapQ IntKind.i64
 (Ex.addQ (65536 : Int)
 (Ex.wrapQ IntKind.i64 (Ex.mulQ (8 : Int) b)))))) +
 (1 : Nat) ≤
 (9223372036854775807 : Nat))
 (Sy.Res.need
 ((List.length
 (lay
 (tr l
 (Int.toNat
 (Ex.wrapQ IntKind.i64
 (Ex.subQ' (↑(List.length l) : Int) (1 : Int)))))
 (Ex.wrapQ IntKind.i64 (Ex.addQ (24 : Int) k))) +
 List.length
 (I.mk (1 : Int)
 (Ex.wrapQ IntKind.i64
 (Ex.addQ (Ex.wrapQ IntKind.i64 (Ex.addQ (24 : Int) k))
 (1 : Int)))
 (0 : Int) (0 : Int)
 (Ex.wrapQ IntKind.u64
 (Ex.wrapQ IntKind.i64
 (Ex.subQ' (Int.ofNat (Nat.succ p)) (1 : Int))) %
 (65536 : Int))
 (0 : Int) ::
 (movk
 (Ex.wrapQ IntKind.i64
 (Ex.addQ
 (Ex.wrapQ IntKind.i64 (Ex.addQ (24 : Int) k))
 (1 : Int)))
 (Ex.wrapQ IntKind.u64
 (Ex.wrapQ IntKind.i64
 (Ex.subQ' (Int.ofNat (Nat.succ p))
 (1 : Int))) /
 (65536 : Int) %
 (65536 : Int))
 (1 : Int) ++
 (movk
 (Ex.wrapQ IntKind.i64
 (Ex.addQ
 (Ex.wrapQ IntKind.i64 (Ex.addQ (24 : Int) k))
 (1 : Int)))
 (Ex.wrapQ IntKind.u64
 (Ex.wrapQ IntKind.i64
 (Ex.subQ' (Int.ofNat (Nat.succ p))
 (1 : Int))) /
 (4294967296 : Int) %
 (65536 : Int))
 (2 : Int) ++
 movk
 (Ex.wrapQ IntKind.i64
 (Ex.addQ
 (Ex.wrapQ IntKind.i64 (Ex.addQ (24 : Int) k))
 (1 : Int)))
 (Ex.wrapQ IntKind.u64
 (Ex.wrapQ IntKind.i64
 (Ex.subQ' (Int.ofNat (Nat.succ p))
 (1 : Int))) /
 (281474976710656 : Int) %
 (65536 : Int))
 (3 : Int)))) +
 (2 : Nat) +
 List.length
 (numL (29 : Int)
 (Ex.wrapQ IntKind.u64
 (Ex.wrapQ IntKind.i64
 (Ex.addQ (65536 : Int)
 (Ex.wrapQ IntKind.i64 (Ex.mulQ (8 : Int) b)))))) +
 (1 : Nat)) *
 (48 : Nat) ≤
 (140737488355328 : Nat))
 (Sy.Res.hyp
 (Nat.le
 (List.length
 (lay
 (tr l
 (Int.toNat
 (Ex.wrapQ IntKind.i64
 (Ex.subQ' (↑(List.length l) : Int) (1 : Int)))))
 (Ex.wrapQ IntKind.i64 (Ex.addQ (24 : Int) k))) +
 List.length
 (I.mk (1 : Int)
 (Ex.wrapQ IntKind.i64
 (Ex.addQ (Ex.wrapQ IntKind.i64 (Ex.addQ (24 : Int) k))
 (1 : Int)))
 (0 : Int) (0 : Int)
 (Ex.wrapQ IntKind.u64
 (Ex.wrapQ IntKind.i64
 (Ex.subQ' (Int.ofNat (Nat.succ p)) (1 : Int))) %
 (65536 : Int))
 (0 : Int) ::
 (movk
 (Ex.wrapQ IntKind.i64
 (Ex.addQ
 (Ex.wrapQ IntKind.i64 (Ex.addQ (24 : Int) k))
 (1 : Int)))
 (Ex.wrapQ IntKind.u64
 (Ex.wrapQ IntKind.i64
 (Ex.subQ' (Int.ofNat (Nat.succ p))
 (1 : Int))) /
 (65536 : Int) %
 (65536 : Int))
 (1 : Int) ++
 (movk
 (Ex.wrapQ IntKind.i64
 (Ex.addQ
 (Ex.wrapQ IntKind.i64 (Ex.addQ (24 : Int) k))
 (1 : Int)))
 (Ex.wrapQ IntKind.u64
 (Ex.wrapQ IntKind.i64
 (Ex.subQ' (Int.ofNat (Nat.succ p))
 (1 : Int))) /
 (4294967296 : Int) %
 (65536 : Int))
 (2 : Int) ++
 movk
 (Ex.wrapQ IntKind.i64
 (Ex.addQ
 (Ex.wrapQ IntKind.i64 (Ex.addQ (24 : Int) k))
 (1 : Int)))
 (Ex.wrapQ IntKind.u64
 (Ex.wrapQ IntKind.i64
 (Ex.subQ' (Int.ofNat (Nat.succ p))
 (1 : Int))) /
 (281474976710656 : Int) %
 (65536 : Int))
 (3 : Int)))) +
 (2 : Nat) +
 List.length
 (numL (29 : Int)
 (Ex.wrapQ IntKind.u64
 (Ex.wrapQ IntKind.i64
 (Ex.addQ (65536 : Int)
 (Ex.wrapQ IntKind.i64 (Ex.mulQ (8 : Int) b)))))) +
 (1 : Nat))
 (Let.n (ns (11 : Nat))))
 (Sy.Res.leaf
 (Value.tuple
 (Array.mk
 [Value.slice
 (some (Addr.mk (Let.n (ns (10 : Nat))) (0 : Nat) none))
 (List.length
 (lay
 (tr l
 (Int.toNat
 (Ex.wrapQ IntKind.i64
 (Ex.subQ' (↑(List.length l) : Int)
 (1 : Int)))))
 (Ex.wrapQ IntKind.i64 (Ex.addQ (24 : Int) k))) +
 List.length
 (I.mk (1 : Int)
 (Ex.wrapQ IntKind.i64
 (Ex.addQ
 (Ex.wrapQ IntKind.i64
 (Ex.addQ (24 : Int) k))
 (1 : Int)))
 (0 : Int) (0 : Int)
 (Ex.wrapQ IntKind.u64
 (Ex.wrapQ IntKind.i64
 (Ex.subQ' (Int.ofNat (Nat.succ p))
 (1 : Int))) %
 (65536 : Int))
 (0 : Int) ::
 (movk
 (Ex.wrapQ IntKind.i64
 (Ex.addQ
 (Ex.wrapQ IntKind.i64
 (Ex.addQ (24 : Int) k))
 (1 : Int)))
 (Ex.wrapQ IntKind.u64
 (Ex.wrapQ IntKind.i64
 (Ex.subQ' (Int.ofNat (Nat.succ p))
 (1 : Int))) /
 (65536 : Int) %
 (65536 : Int))
 (1 : Int) ++
 (movk
 (Ex.wrapQ IntKind.i64
 (Ex.addQ
 (Ex.wrapQ IntKind.i64
 (Ex.addQ (24 : Int) k))
 (1 : Int)))
 (Ex.wrapQ IntKind.u64
 (Ex.wrapQ IntKind.i64
 (Ex.subQ' (Int.ofNat (Nat.succ p))
 (1 : Int))) /
 (4294967296 : Int) %
 (65536 : Int))
 (2 : Int) ++
 movk
 (Ex.wrapQ IntKind.i64
 (Ex.addQ
 (Ex.wrapQ IntKind.i64
 (Ex.addQ (24 : Int) k))
 (1 : Int)))
 (Ex.wrapQ IntKind.u64
 (Ex.wrapQ IntKind.i64
 (Ex.subQ' (Int.ofNat (Nat.succ p))
 (1 : Int))) /
 (281474976710656 : Int) %
 (65536 : Int))
 (3 : Int)))) +
 (2 : Nat) +
 List.length
 (numL (29 : Int)
 (Ex.wrapQ IntKind.u64
 (Ex.wrapQ IntKind.i64
 (Ex.addQ (65536 : Int)
 (Ex.wrapQ IntKind.i64
 (Ex.mulQ (8 : Int) b)))))) +
 (1 : Nat))
 (Let.n (ns (11 : Nat))),
 Value.int IntKind.i64 (0 : Int)]),
 [Blk.mk (Let.n (ns (10 : Nat)))
 (Sy.Cont.row (29 : Nat) (6 : Nat)
 (List.length
 (lay
 (tr l
 (Int.toNat
 (Ex.wrapQ IntKind.i64
 (Ex.subQ' (↑(List.length l) : Int)
 (1 : Int)))))
 (Ex.wrapQ IntKind.i64 (Ex.addQ (24 : Int) k))) +
 List.length
 (I.mk (1 : Int)
 (Ex.wrapQ IntKind.i64
 (Ex.addQ
 (Ex.wrapQ IntKind.i64
 (Ex.addQ (24 : Int) k))
 (1 : Int)))
 (0 : Int) (0 : Int)
 (Ex.wrapQ IntKind.u64
 (Ex.wrapQ IntKind.i64
 (Ex.subQ' (Int.ofNat (Nat.succ p))
 (1 : Int))) %
 (65536 : Int))
 (0 : Int) ::
 (movk
 (Ex.wrapQ IntKind.i64
 (Ex.addQ
 (Ex.wrapQ IntKind.i64
 (Ex.addQ (24 : Int) k))
 (1 : Int)))
 (Ex.wrapQ IntKind.u64
 (Ex.wrapQ IntKind.i64
 (Ex.subQ' (Int.ofNat (Nat.succ p))
 (1 : Int))) /
 (65536 : Int) %
 (65536 : Int))
 (1 : Int) ++
 (movk
 (Ex.wrapQ IntKind.i64
 (Ex.addQ
 (Ex.wrapQ IntKind.i64
 (Ex.addQ (24 : Int) k))
 (1 : Int)))
 (Ex.wrapQ IntKind.u64
 (Ex.wrapQ IntKind.i64
 (Ex.subQ' (Int.ofNat (Nat.succ p))
 (1 : Int))) /
 (4294967296 : Int) %
 (65536 : Int))
 (2 : Int) ++
 movk
 (Ex.wrapQ IntKind.i64
 (Ex.addQ
 (Ex.wrapQ IntKind.i64
 (Ex.addQ (24 : Int) k))
 (1 : Int)))
 (Ex.wrapQ IntKind.u64
 (Ex.wrapQ IntKind.i64
 (Ex.subQ' (Int.ofNat (Nat.succ p))
 (1 : Int))) /
 (281474976710656 : Int) %
 (65536 : Int))
 (3 : Int)))) +
 (2 : Nat) +
 List.length
 (numL (29 : Int)
 (Ex.wrapQ IntKind.u64
 (Ex.wrapQ IntKind.i64
 (Ex.addQ (65536 : Int)
 (Ex.wrapQ IntKind.i64
 (Ex.mulQ (8 : Int) b)))))) +
 (1 : Nat))
 (Let.n (ns (11 : Nat)))
 (insCells
 (lay
 (tr l
 (Int.toNat
 (Ex.wrapQ IntKind.i64
 (Ex.subQ' (↑(List.length l) : Int)
 (1 : Int)))))
 (Ex.wrapQ IntKind.i64 (Ex.addQ (24 : Int) k))) ++
 insCells
 (I.mk (1 : Int)
 (Ex.wrapQ IntKind.i64
 (Ex.addQ
 (Ex.wrapQ IntKind.i64
 (Ex.addQ (24 : Int) k))
 (1 : Int)))
 (0 : Int) (0 : Int)
 (Ex.wrapQ IntKind.u64
 (Ex.wrapQ IntKind.i64
 (Ex.subQ' (Int.ofNat (Nat.succ p))
 (1 : Int))) %
 (65536 : Int))
 (0 : Int) ::
 (movk
 (Ex.wrapQ IntKind.i64
 (Ex.addQ
 (Ex.wrapQ IntKind.i64
 (Ex.addQ (24 : Int) k))
 (1 : Int)))
 (Ex.wrapQ IntKind.u64
 (Ex.wrapQ IntKind.i64
 (Ex.subQ' (Int.ofNat (Nat.succ p))
 (1 : Int))) /
 (65536 : Int) %
 (65536 : Int))
 (1 : Int) ++
 (movk
 (Ex.wrapQ IntKind.i64
 (Ex.addQ
 (Ex.wrapQ IntKind.i64
 (Ex.addQ (24 : Int) k))
 (1 : Int)))
 (Ex.wrapQ IntKind.u64
 (Ex.wrapQ IntKind.i64
 (Ex.subQ' (Int.ofNat (Nat.succ p))
 (1 : Int))) /
 (4294967296 : Int) %
 (65536 : Int))
 (2 : Int) ++
 movk
 (Ex.wrapQ IntKind.i64
 (Ex.addQ
 (Ex.wrapQ IntKind.i64
 (Ex.addQ (24 : Int) k))
 (1 : Int)))
 (Ex.wrapQ IntKind.u64
 (Ex.wrapQ IntKind.i64
 (Ex.subQ' (Int.ofNat (Nat.succ p))
 (1 : Int))) /
 (281474976710656 : Int) %
 (65536 : Int))
 (3 : Int)))) ++
 [Value.int IntKind.i64 (5 : Int),
 Value.int IntKind.i64
 (Ex.wrapQ IntKind.i64 (Ex.addQ (24 : Int) k)),
 Value.int IntKind.i64
 (Ex.wrapQ IntKind.i64 (Ex.addQ (24 : Int) k)),
 Value.int IntKind.i64
 (Ex.wrapQ IntKind.i64
 (Ex.addQ
 (Ex.wrapQ IntKind.i64 (Ex.addQ (24 : Int) k))
 (1 : Int))),
 Value.int IntKind.i64 (0 : Int),
 Value.int IntKind.i64 (0 : Int),
 Value.int IntKind.i64 (14 : Int),
 Value.int IntKind.i64
 (Ex.wrapQ IntKind.i64 (Ex.addQ (24 : Int) k)),
 Value.int IntKind.i64
 (Ex.wrapQ IntKind.i64 (Ex.addQ (24 : Int) k)),
 Value.int IntKind.i64 (0 : Int),
 Value.int IntKind.i64 (3 : Int),
 Value.int IntKind.i64 (0 : Int)] ++
 insCells
 (numL (29 : Int)
 (Ex.wrapQ IntKind.u64
 (Ex.wrapQ IntKind.i64
 (Ex.addQ (65536 : Int)
 (Ex.wrapQ IntKind.i64
 (Ex.mulQ (8 : Int) b)))))) ++
 [Value.int IntKind.i64 (3 : Int),
 Value.int IntKind.i64 (29 : Int),
 Value.int IntKind.i64 (29 : Int),
 Value.int IntKind.i64
 (Ex.wrapQ IntKind.i64 (Ex.addQ (24 : Int) k)),
 Value.int IntKind.i64 (0 : Int),
 Value.int IntKind.i64 (0 : Int)]))
 true,
 Blk.mk (Let.n (ns (9 : Nat)))
 (Sy.Cont.obj
 (Obj.cells
 (Array.mk
 [Value.int IntKind.i64 (3 : Int),
 Value.int IntKind.i64 (29 : Int),
 Value.int IntKind.i64 (29 : Int),
 Value.int IntKind.i64
 (Ex.wrapQ IntKind.i64 (Ex.addQ (24 : Int) k)),
 Value.int IntKind.i64 (0 : Int),
 Value.int IntKind.i64 (0 : Int)])
 (29 : Nat)))
 true,
 Blk.mk (Let.n (ns (4 : Nat)))
 (Sy.Cont.obj
 (Obj.cells
 (Array.mk
 [Value.int IntKind.i64 (5 : Int),
 Value.int IntKind.i64
 (Ex.wrapQ IntKind.i64 (Ex.addQ (24 : Int) k)),
 Value.int IntKind.i64
 (Ex.wrapQ IntKind.i64 (Ex.addQ (24 : Int) k)),
 Value.int IntKind.i64
 (Ex.wrapQ IntKind.i64
 (Ex.addQ
 (Ex.wrapQ IntKind.i64 (Ex.addQ (24 : Int) k))
 (1 : Int))),
 Value.int IntKind.i64 (0 : Int),
 Value.int IntKind.i64 (0 : Int),
 Value.int IntKind.i64 (14 : Int),
 Value.int IntKind.i64
 (Ex.wrapQ IntKind.i64 (Ex.addQ (24 : Int) k)),
 Value.int IntKind.i64
 (Ex.wrapQ IntKind.i64 (Ex.addQ (24 : Int) k)),
 Value.int IntKind.i64 (0 : Int),
 Value.int IntKind.i64 (3 : Int),
 Value.int IntKind.i64 (0 : Int)])
 (29 : Nat)))
 true])))))))))))))))
 (Sy.Res.br
 (Ex.ltQ (5 : Int)
 (Ex.wrapQ IntKind.i64 (Ex.addQ k (↑(E.needs (tr l (List.length l - (1 : Nat)))) : Int))))
 (Sy.Res.leaf
 (Value.tuple
 (Array.mk [Value.slice none (0 : Nat) (0 : Nat), Value.int IntKind.i64 (30 : Int)]),
 []))
 (Sy.Res.need
 ((isExpr (24 : Int) l ∧ goodN l) ∧
 (0 : Int) ≤ Ex.wrapQ IntKind.i64 (Ex.subQ' (↑(List.length l) : Int) (1 : Int)) ∧
 Ex.wrapQ IntKind.i64 (Ex.subQ' (↑(List.length l) : Int) (1 : Int)) <
 (↑(List.length l) : Int) ∧
 Ex.wrapQ IntKind.i64 (Ex.subQ' (↑(List.length l) : Int) (1 : Int)) <
 (↑(List.length l) : Int) ∧
 (24 : Int) ≤ Ex.wrapQ IntKind.i64 (Ex.addQ (24 : Int) k) ∧
 Ex.wrapQ IntKind.i64 (Ex.addQ (24 : Int) k) +
 (↑(E.needs
 (tr l
 (Int.toNat
 (Ex.wrapQ IntKind.i64
 (Ex.subQ' (↑(List.length l) : Int) (1 : Int)))))) :
 Int) ≤
 (29 : Int))
 (Sy.Res.hyp
 (Nat.le
 (List.length
 (lay
 (tr l
 (Int.toNat (Ex.wrapQ IntKind.i64 (Ex.subQ' (↑(List.length l) : Int) (1 : Int)))))
 (Ex.wrapQ IntKind.i64 (Ex.addQ (24 : Int) k))))
 (Let.n (ns (1 : Nat))))
 (Sy.Res.need
 (goodU
 (Ex.wrapQ IntKind.u64
 (Ex.wrapQ IntKind.i64 (Ex.subQ' (Int.ofNat (Nat.succ p)) (1 : Int)))) ∧
 List.length
 (lay
 (tr l
 (Int.toNat
 (Ex.wrapQ IntKind.i64 (Ex.subQ' (↑(List.length l) : Int) (1 : Int)))))
 (Ex.wrapQ IntKind.i64 (Ex.addQ (24 : Int) k))) ≤
 (1000000 : Nat))
 (Sy.Res.hyp
 (Nat.le
 (List.length
 (lay
 (tr l
 (Int.toNat
 (Ex.wrapQ IntKind.i64 (Ex.subQ' (↑(List.length l) : Int) (1 : Int)))))
 (Ex.wrapQ IntKind.i64 (Ex.addQ (24 : Int) k))) +
 List.length
 (numL
 (Ex.wrapQ IntKind.i64
 (Ex.addQ (Ex.wrapQ IntKind.i64 (Ex.addQ (24 : Int) k)) (1 : Int)))
 (Ex.wrapQ IntKind.u64
 (Ex.wrapQ IntKind.i64 (Ex.subQ' (Int.ofNat (Nat.succ p)) (1 : Int))))))
 (Let.n (ns (3 : Nat))))
 (Sy.Res.need
 (List.length
 (lay
 (tr l
 (Int.toNat
 (Ex.wrapQ IntKind.i64 (Ex.subQ' (↑(List.length l) : Int) (1 : Int)))))
 (Ex.wrapQ IntKind.i64 (Ex.addQ (24 : Int) k))) +
 List.length
 (numL
 (Ex.wrapQ IntKind.i64
 (Ex.addQ (Ex.wrapQ IntKind.i64 (Ex.addQ (24 : Int) k)) (1 : Int)))
 (Ex.wrapQ IntKind.u64
 (Ex.wrapQ IntKind.i64 (Ex.subQ' (Int.ofNat (Nat.succ p)) (1 : Int))))) +
 (2 : Nat) ≤
 (9223372036854775807 : Nat))
 (Sy.Res.need
 ((List.length
 (lay
 (tr l
 (Int.toNat
 (Ex.wrapQ IntKind.i64
 (Ex.subQ' (↑(List.length l) : Int) (1 : Int)))))
 (Ex.wrapQ IntKind.i64 (Ex.addQ (24 : Int) k))) +
 List.length
 (numL
 (Ex.wrapQ IntKind.i64
 (Ex.addQ (Ex.wrapQ IntKind.i64 (Ex.addQ (24 : Int) k)) (1 : Int)))
 (Ex.wrapQ IntKind.u64
 (Ex.wrapQ IntKind.i64
 (Ex.subQ' (Int.ofNat (Nat.succ p)) (1 : Int))))) +
 (2 : Nat)) *
 (48 : Nat) ≤
 (140737488355328 : Nat))
 (Sy.Res.hyp
 (Nat.le
 (List.length
 (lay
 (tr l
 (Int.toNat
 (Ex.wrapQ IntKind.i64
 (Ex.subQ' (↑(List.length l) : Int) (1 : Int)))))
 (Ex.wrapQ IntKind.i64 (Ex.addQ (24 : Int) k))) +
 List.length
 (numL
 (Ex.wrapQ IntKind.i64
 (Ex.addQ (Ex.wrapQ IntKind.i64 (Ex.addQ (24 : Int) k)) (1 : Int)))
 (Ex.wrapQ IntKind.u64
 (Ex.wrapQ IntKind.i64
 (Ex.subQ' (Int.ofNat (Nat.succ p)) (1 : Int))))) +
 (2 : Nat))
 (Let.n (ns (6 : Nat))))
 (Sy.Res.need
 (goodU
 (Ex.wrapQ IntKind.u64
 (Ex.wrapQ IntKind.i64
 (Ex.addQ (65536 : Int) (Ex.wrapQ IntKind.i64 (Ex.mulQ (8 : Int) b))))) ∧
 List.length
 (lay
 (tr l
 (Int.toNat
 (Ex.wrapQ IntKind.i64
 (Ex.subQ' (↑(List.length l) : Int) (1 : Int)))))
 (Ex.wrapQ IntKind.i64 (Ex.addQ (24 : Int) k))) +
 List.length
 (I.mk (1 : Int)
 (Ex.wrapQ IntKind.i64
 (Ex.addQ (Ex.wrapQ IntKind.i64 (Ex.addQ (24 : Int) k))
 (1 : Int)))
 (0 : Int) (0 : Int)
 (Ex.wrapQ IntKind.u64
 (Ex.wrapQ IntKind.i64
 (Ex.subQ' (Int.ofNat (Nat.succ p)) (1 : Int))) %
 (65536 : Int))
 (0 : Int) ::
 (movk
 (Ex.wrapQ IntKind.i64
 (Ex.addQ (Ex.wrapQ IntKind.i64 (Ex.addQ (24 : Int) k))
 (1 : Int)))
 (Ex.wrapQ IntKind.u64
 (Ex.wrapQ IntKind.i64
 (Ex.subQ' (Int.ofNat (Nat.succ p)) (1 : Int))) /
 (65536 : Int) %
 (65536 : Int))
 (1 : Int) ++
 (movk
 (Ex.wrapQ IntKind.i64
 (Ex.addQ (Ex.wrapQ IntKind.i64 (Ex.addQ (24 : Int) k))
 (1 : Int)))
 (Ex.wrapQ IntKind.u64
 (Ex.wrapQ IntKind.i64
 (Ex.subQ' (Int.ofNat (Nat.succ p)) (1 : Int))) /
 (4294967296 : Int) %
 (65536 : Int))
 (2 : Int) ++
 movk
 (Ex.wrapQ IntKind.i64
 (Ex.addQ (Ex.wrapQ IntKind.i64 (Ex.addQ (24 : Int) k))
 (1 : Int)))
 (Ex.wrapQ IntKind.u64
 (Ex.wrapQ IntKind.i64
 (Ex.subQ' (Int.ofNat (Nat.succ p)) (1 : Int))) /
 (281474976710656 : Int) %
 (65536 : Int))
 (3 : Int)))) +
 (2 : Nat) ≤
 (1000000 : Nat))
 (Sy.Res.hyp
 (Nat.le
 (List.length
 (lay
 (tr l
 (Int.toNat
 (Ex.wrapQ IntKind.i64
 (Ex.subQ' (↑(List.length l) : Int) (1 : Int)))))
 (Ex.wrapQ IntKind.i64 (Ex.addQ (24 : Int) k))) +
 List.length
 (I.mk (1 : Int)
 (Ex.wrapQ IntKind.i64
 (Ex.addQ (Ex.wrapQ IntKind.i64 (Ex.addQ (24 : Int) k))
 (1 : Int)))
 (0 : Int) (0 : Int)
 (Ex.wrapQ IntKind.u64
 (Ex.wrapQ IntKind.i64
 (Ex.subQ' (Int.ofNat (Nat.succ p)) (1 : Int))) %
 (65536 : Int))
 (0 : Int) ::
 (movk
 (Ex.wrapQ IntKind.i64
 (Ex.addQ (Ex.wrapQ IntKind.i64 (Ex.addQ (24 : Int) k))
 (1 : Int)))
 (Ex.wrapQ IntKind.u64
 (Ex.wrapQ IntKind.i64
 (Ex.subQ' (Int.ofNat (Nat.succ p)) (1 : Int))) /
 (65536 : Int) %
 (65536 : Int))
 (1 : Int) ++
 (movk
 (Ex.wrapQ IntKind.i64
 (Ex.addQ (Ex.wrapQ IntKind.i64 (Ex.addQ (24 : Int) k))
 (1 : Int)))
 (Ex.wrapQ IntKind.u64
 (Ex.wrapQ IntKind.i64
 (Ex.subQ' (Int.ofNat (Nat.succ p)) (1 : Int))) /
 (4294967296 : Int) %
 (65536 : Int))
 (2 : Int) ++
 movk
 (Ex.wrapQ IntKind.i64
 (Ex.addQ (Ex.wrapQ IntKind.i64 (Ex.addQ (24 : Int) k))
 (1 : Int)))
 (Ex.wrapQ IntKind.u64
 (Ex.wrapQ IntKind.i64
 (Ex.subQ' (Int.ofNat (Nat.succ p)) (1 : Int))) /
 (281474976710656 : Int) %
 (65536 : Int))
 (3 : Int)))) +
 (2 : Nat) +
 List.length
 (numL (29 : Int)
 (Ex.wrapQ IntKind.u64
 (Ex.wrapQ IntKind.i64
 (Ex.addQ (65536 : Int)
 (Ex.wrapQ IntKind.i64 (Ex.mulQ (8 : Int) b)))))))
 (Let.n (ns (8 : Nat))))
 (Sy.Res.need
 (List.length
 (lay
 (tr l
 (Int.toNat
 (Ex.wrapQ IntKind.i64
 (Ex.subQ' (↑(List.length l) : Int) (1 : Int)))))
 (Ex.wrapQ IntKind.i64 (Ex.addQ (24 : Int) k))) +
 List.length
 (I.mk (1 : Int)
 (Ex.wrapQ IntKind.i64
 (Ex.addQ (Ex.wrapQ IntKind.i64 (Ex.addQ (24 : Int) k))
 (1 : Int)))
 (0 : Int) (0 : Int)
 (Ex.wrapQ IntKind.u64
 (Ex.wrapQ IntKind.i64
 (Ex.subQ' (Int.ofNat (Nat.succ p)) (1 : Int))) %
 (65536 : Int))
 (0 : Int) ::
 (movk
 (Ex.wrapQ IntKind.i64
 (Ex.addQ (Ex.wrapQ IntKind.i64 (Ex.addQ (24 : Int) k))
 (1 : Int)))
 (Ex.wrapQ IntKind.u64
 (Ex.wrapQ IntKind.i64
 (Ex.subQ' (Int.ofNat (Nat.succ p)) (1 : Int))) /
 (65536 : Int) %
 (65536 : Int))
 (1 : Int) ++
 (movk
 (Ex.wrapQ IntKind.i64
 (Ex.addQ (Ex.wrapQ IntKind.i64 (Ex.addQ (24 : Int) k))
 (1 : Int)))
 (Ex.wrapQ IntKind.u64
 (Ex.wrapQ IntKind.i64
 (Ex.subQ' (Int.ofNat (Nat.succ p)) (1 : Int))) /
 (4294967296 : Int) %
 (65536 : Int))
 (2 : Int) ++
 movk
 (Ex.wrapQ IntKind.i64
 (Ex.addQ (Ex.wrapQ IntKind.i64 (Ex.addQ (24 : Int) k))
 (1 : Int)))
 (Ex.wrapQ IntKind.u64
 (Ex.wrapQ IntKind.i64
 (Ex.subQ' (Int.ofNat (Nat.succ p)) (1 : Int))) /
 (281474976710656 : Int) %
 (65536 : Int))
 (3 : Int)))) +
 (2 : Nat) +
 List.length
 (numL (29 : Int)
 (Ex.wrapQ IntKind.u64
 (Ex.wrapQ IntKind.i64
 (Ex.addQ (65536 : Int)
 (Ex.wrapQ IntKind.i64 (Ex.mulQ (8 : Int) b)))))) +
 (1 : Nat) ≤
 (9223372036854775807 : Nat))
 (Sy.Res.need
 ((List.length
 (lay
 (tr l
 (Int.toNat
 (Ex.wrapQ IntKind.i64
 (Ex.subQ' (↑(List.length l) : Int) (1 : Int)))))
 (Ex.wrapQ IntKind.i64 (Ex.addQ (24 : Int) k))) +
 List.length
 (I.mk (1 : Int)
 (Ex.wrapQ IntKind.i64
 (Ex.addQ (Ex.wrapQ IntKind.i64 (Ex.addQ (24 : Int) k))
 (1 : Int)))
 (0 : Int) (0 : Int)
 (Ex.wrapQ IntKind.u64
 (Ex.wrapQ IntKind.i64
 (Ex.subQ' (Int.ofNat (Nat.succ p)) (1 : Int))) %
 (65536 : Int))
 (0 : Int) ::
 (movk
 (Ex.wrapQ IntKind.i64
 (Ex.addQ
 (Ex.wrapQ IntKind.i64 (Ex.addQ (24 : Int) k))
 (1 : Int)))
 (Ex.wrapQ IntKind.u64
 (Ex.wrapQ IntKind.i64
 (Ex.subQ' (Int.ofNat (Nat.succ p))
 (1 : Int))) /
 (65536 : Int) %
 (65536 : Int))
 (1 : Int) ++
 (movk
 (Ex.wrapQ IntKind.i64
 (Ex.addQ
 (Ex.wrapQ IntKind.i64 (Ex.addQ (24 : Int) k))
 (1 : Int)))
 (Ex.wrapQ IntKind.u64
 (Ex.wrapQ IntKind.i64
 (Ex.subQ' (Int.ofNat (Nat.succ p))
 (1 : Int))) /
 (4294967296 : Int) %
 (65536 : Int))
 (2 : Int) ++
 movk
 (Ex.wrapQ IntKind.i64
 (Ex.addQ
 (Ex.wrapQ IntKind.i64 (Ex.addQ (24 : Int) k))
 (1 : Int)))
 (Ex.wrapQ IntKind.u64
 (Ex.wrapQ IntKind.i64
 (Ex.subQ' (Int.ofNat (Nat.succ p))
 (1 : Int))) /
 (281474976710656 : Int) %
 (65536 : Int))
 (3 : Int)))) +
 (2 : Nat) +
 List.length
 (numL (29 : Int)
 (Ex.wrapQ IntKind.u64
 (Ex.wrapQ IntKind.i64
 (Ex.addQ (65536 : Int)
 (Ex.wrapQ IntKind.i64 (Ex.mulQ (8 : Int) b)))))) +
 (1 : Nat)) *
 (48 : Nat) ≤
 (140737488355328 : Nat))
 (Sy.Res.hyp
 (Nat.le
 (List.length
 (lay
 (tr l
 (Int.toNat
 (Ex.wrapQ IntKind.i64
 (Ex.subQ' (↑(List.length l) : Int) (1 : Int)))))
 (Ex.wrapQ IntKind.i64 (Ex.addQ (24 : Int) k))) +
 List.length
 (I.mk (1 : Int)
 (Ex.wrapQ IntKind.i64
 (Ex.addQ (Ex.wrapQ IntKind.i64 (Ex.addQ (24 : Int) k))
 (1 : Int)))
 (0 : Int) (0 : Int)
 (Ex.wrapQ IntKind.u64
 (Ex.wrapQ IntKind.i64
 (Ex.subQ' (Int.ofNat (Nat.succ p)) (1 : Int))) %
 (65536 : Int))
 (0 : Int) ::
 (movk
 (Ex.wrapQ IntKind.i64
 (Ex.addQ
 (Ex.wrapQ IntKind.i64 (Ex.addQ (24 : Int) k))
 (1 : Int)))
 (Ex.wrapQ IntKind.u64
 (Ex.wrapQ IntKind.i64
 (Ex.subQ' (Int.ofNat (Nat.succ p))
 (1 : Int))) /
 (65536 : Int) %
 (65536 : Int))
 (1 : Int) ++
 (movk
 (Ex.wrapQ IntKind.i64
 (Ex.addQ
 (Ex.wrapQ IntKind.i64 (Ex.addQ (24 : Int) k))
 (1 : Int)))
 (Ex.wrapQ IntKind.u64
 (Ex.wrapQ IntKind.i64
 (Ex.subQ' (Int.ofNat (Nat.succ p))
 (1 : Int))) /
 (4294967296 : Int) %
 (65536 : Int))
 (2 : Int) ++
 movk
 (Ex.wrapQ IntKind.i64
 (Ex.addQ
 (Ex.wrapQ IntKind.i64 (Ex.addQ (24 : Int) k))
 (1 : Int)))
 (Ex.wrapQ IntKind.u64
 (Ex.wrapQ IntKind.i64
 (Ex.subQ' (Int.ofNat (Nat.succ p))
 (1 : Int))) /
 (281474976710656 : Int) %
 (65536 : Int))
 (3 : Int)))) +
 (2 : Nat) +
 List.length
 (numL (29 : Int)
 (Ex.wrapQ IntKind.u64
 (Ex.wrapQ IntKind.i64
 (Ex.addQ (65536 : Int)
 (Ex.wrapQ IntKind.i64 (Ex.mulQ (8 : Int) b)))))) +
 (1 : Nat))
 (Let.n (ns (11 : Nat))))
 (Sy.Res.leaf
 (Value.tuple
 (Array.mk
 [Value.slice
 (some (Addr.mk (Let.n (ns (10 : Nat))) (0 : Nat) none))
 (List.length
 (lay
 (tr l
 (Int.toNat
 (Ex.wrapQ IntKind.i64
 (Ex.subQ' (↑(List.length l) : Int)
 (1 : Int)))))
 (Ex.wrapQ IntKind.i64 (Ex.addQ (24 : Int) k))) +
 List.length
 (I.mk (1 : Int)
 (Ex.wrapQ IntKind.i64
 (Ex.addQ
 (Ex.wrapQ IntKind.i64
 (Ex.addQ (24 : Int) k))
 (1 : Int)))
 (0 : Int) (0 : Int)
 (Ex.wrapQ IntKind.u64
 (Ex.wrapQ IntKind.i64
 (Ex.subQ' (Int.ofNat (Nat.succ p))
 (1 : Int))) %
 (65536 : Int))
 (0 : Int) ::
 (movk
 (Ex.wrapQ IntKind.i64
 (Ex.addQ
 (Ex.wrapQ IntKind.i64
 (Ex.addQ (24 : Int) k))
 (1 : Int)))
 (Ex.wrapQ IntKind.u64
 (Ex.wrapQ IntKind.i64
 (Ex.subQ' (Int.ofNat (Nat.succ p))
 (1 : Int))) /
 (65536 : Int) %
 (65536 : Int))
 (1 : Int) ++
 (movk
 (Ex.wrapQ IntKind.i64
 (Ex.addQ
 (Ex.wrapQ IntKind.i64
 (Ex.addQ (24 : Int) k))
 (1 : Int)))
 (Ex.wrapQ IntKind.u64
 (Ex.wrapQ IntKind.i64
 (Ex.subQ' (Int.ofNat (Nat.succ p))
 (1 : Int))) /
 (4294967296 : Int) %
 (65536 : Int))
 (2 : Int) ++
 movk
 (Ex.wrapQ IntKind.i64
 (Ex.addQ
 (Ex.wrapQ IntKind.i64
 (Ex.addQ (24 : Int) k))
 (1 : Int)))
 (Ex.wrapQ IntKind.u64
 (Ex.wrapQ IntKind.i64
 (Ex.subQ' (Int.ofNat (Nat.succ p))
 (1 : Int))) /
 (281474976710656 : Int) %
 (65536 : Int))
 (3 : Int)))) +
 (2 : Nat) +
 List.length
 (numL (29 : Int)
 (Ex.wrapQ IntKind.u64
 (Ex.wrapQ IntKind.i64
 (Ex.addQ (65536 : Int)
 (Ex.wrapQ IntKind.i64
 (Ex.mulQ (8 : Int) b)))))) +
 (1 : Nat))
 (Let.n (ns (11 : Nat))),
 Value.int IntKind.i64 (0 : Int)]),
 [Blk.mk (Let.n (ns (10 : Nat)))
 (Sy.Cont.row (29 : Nat) (6 : Nat)
 (List.length
 (lay
 (tr l
 (Int.toNat
 (Ex.wrapQ IntKind.i64
 (Ex.subQ' (↑(List.length l) : Int)
 (1 : Int)))))
 (Ex.wrapQ IntKind.i64 (Ex.addQ (24 : Int) k))) +
 List.length
 (I.mk (1 : Int)
 (Ex.wrapQ IntKind.i64
 (Ex.addQ
 (Ex.wrapQ IntKind.i64
 (Ex.addQ (24 : Int) k))
 (1 : Int)))
 (0 : Int) (0 : Int)
 (Ex.wrapQ IntKind.u64
 (Ex.wrapQ IntKind.i64
 (Ex.subQ' (Int.ofNat (Nat.succ p))
 (1 : Int))) %
 (65536 : Int))
 (0 : Int) ::
 (movk
 (Ex.wrapQ IntKind.i64
 (Ex.addQ
 (Ex.wrapQ IntKind.i64
 (Ex.addQ (24 : Int) k))
 (1 : Int)))
 (Ex.wrapQ IntKind.u64
 (Ex.wrapQ IntKind.i64
 (Ex.subQ' (Int.ofNat (Nat.succ p))
 (1 : Int))) /
 (65536 : Int) %
 (65536 : Int))
 (1 : Int) ++
 (movk
 (Ex.wrapQ IntKind.i64
 (Ex.addQ
 (Ex.wrapQ IntKind.i64
 (Ex.addQ (24 : Int) k))
 (1 : Int)))
 (Ex.wrapQ IntKind.u64
 (Ex.wrapQ IntKind.i64
 (Ex.subQ' (Int.ofNat (Nat.succ p))
 (1 : Int))) /
 (4294967296 : Int) %
 (65536 : Int))
 (2 : Int) ++
 movk
 (Ex.wrapQ IntKind.i64
 (Ex.addQ
 (Ex.wrapQ IntKind.i64
 (Ex.addQ (24 : Int) k))
 (1 : Int)))
 (Ex.wrapQ IntKind.u64
 (Ex.wrapQ IntKind.i64
 (Ex.subQ' (Int.ofNat (Nat.succ p))
 (1 : Int))) /
 (281474976710656 : Int) %
 (65536 : Int))
 (3 : Int)))) +
 (2 : Nat) +
 List.length
 (numL (29 : Int)
 (Ex.wrapQ IntKind.u64
 (Ex.wrapQ IntKind.i64
 (Ex.addQ (65536 : Int)
 (Ex.wrapQ IntKind.i64
 (Ex.mulQ (8 : Int) b)))))) +
 (1 : Nat))
 (Let.n (ns (11 : Nat)))
 (insCells
 (lay
 (tr l
 (Int.toNat
 (Ex.wrapQ IntKind.i64
 (Ex.subQ' (↑(List.length l) : Int)
 (1 : Int)))))
 (Ex.wrapQ IntKind.i64 (Ex.addQ (24 : Int) k))) ++
 insCells
 (I.mk (1 : Int)
 (Ex.wrapQ IntKind.i64
 (Ex.addQ
 (Ex.wrapQ IntKind.i64
 (Ex.addQ (24 : Int) k))
 (1 : Int)))
 (0 : Int) (0 : Int)
 (Ex.wrapQ IntKind.u64
 (Ex.wrapQ IntKind.i64
 (Ex.subQ' (Int.ofNat (Nat.succ p))
 (1 : Int))) %
 (65536 : Int))
 (0 : Int) ::
 (movk
 (Ex.wrapQ IntKind.i64
 (Ex.addQ
 (Ex.wrapQ IntKind.i64
 (Ex.addQ (24 : Int) k))
 (1 : Int)))
 (Ex.wrapQ IntKind.u64
 (Ex.wrapQ IntKind.i64
 (Ex.subQ' (Int.ofNat (Nat.succ p))
 (1 : Int))) /
 (65536 : Int) %
 (65536 : Int))
 (1 : Int) ++
 (movk
 (Ex.wrapQ IntKind.i64
 (Ex.addQ
 (Ex.wrapQ IntKind.i64
 (Ex.addQ (24 : Int) k))
 (1 : Int)))
 (Ex.wrapQ IntKind.u64
 (Ex.wrapQ IntKind.i64
 (Ex.subQ' (Int.ofNat (Nat.succ p))
 (1 : Int))) /
 (4294967296 : Int) %
 (65536 : Int))
 (2 : Int) ++
 movk
 (Ex.wrapQ IntKind.i64
 (Ex.addQ
 (Ex.wrapQ IntKind.i64
 (Ex.addQ (24 : Int) k))
 (1 : Int)))
 (Ex.wrapQ IntKind.u64
 (Ex.wrapQ IntKind.i64
 (Ex.subQ' (Int.ofNat (Nat.succ p))
 (1 : Int))) /
 (281474976710656 : Int) %
 (65536 : Int))
 (3 : Int)))) ++
 [Value.int IntKind.i64 (5 : Int),
 Value.int IntKind.i64
 (Ex.wrapQ IntKind.i64 (Ex.addQ (24 : Int) k)),
 Value.int IntKind.i64
 (Ex.wrapQ IntKind.i64 (Ex.addQ (24 : Int) k)),
 Value.int IntKind.i64
 (Ex.wrapQ IntKind.i64
 (Ex.addQ
 (Ex.wrapQ IntKind.i64 (Ex.addQ (24 : Int) k))
 (1 : Int))),
 Value.int IntKind.i64 (0 : Int),
 Value.int IntKind.i64 (0 : Int),
 Value.int IntKind.i64 (14 : Int),
 Value.int IntKind.i64
 (Ex.wrapQ IntKind.i64 (Ex.addQ (24 : Int) k)),
 Value.int IntKind.i64
 (Ex.wrapQ IntKind.i64 (Ex.addQ (24 : Int) k)),
 Value.int IntKind.i64 (0 : Int),
 Value.int IntKind.i64 (3 : Int),
 Value.int IntKind.i64 (0 : Int)] ++
 insCells
 (numL (29 : Int)
 (Ex.wrapQ IntKind.u64
 (Ex.wrapQ IntKind.i64
 (Ex.addQ (65536 : Int)
 (Ex.wrapQ IntKind.i64
 (Ex.mulQ (8 : Int) b)))))) ++
 [Value.int IntKind.i64 (3 : Int),
 Value.int IntKind.i64 (29 : Int),
 Value.int IntKind.i64 (29 : Int),
 Value.int IntKind.i64
 (Ex.wrapQ IntKind.i64 (Ex.addQ (24 : Int) k)),
 Value.int IntKind.i64 (0 : Int),
 Value.int IntKind.i64 (0 : Int)]))
 true,
 Blk.mk (Let.n (ns (9 : Nat)))
 (Sy.Cont.obj
 (Obj.cells
 (Array.mk
 [Value.int IntKind.i64 (3 : Int),
 Value.int IntKind.i64 (29 : Int),
 Value.int IntKind.i64 (29 : Int),
 Value.int IntKind.i64
 (Ex.wrapQ IntKind.i64 (Ex.addQ (24 : Int) k)),
 Value.int IntKind.i64 (0 : Int),
 Value.int IntKind.i64 (0 : Int)])
 (29 : Nat)))
 true,
 Blk.mk (Let.n (ns (4 : Nat)))
 (Sy.Cont.obj
 (Obj.cells
 (Array.mk
 [Value.int IntKind.i64 (5 : Int),
 Value.int IntKind.i64
 (Ex.wrapQ IntKind.i64 (Ex.addQ (24 : Int) k)),
 Value.int IntKind.i64
 (Ex.wrapQ IntKind.i64 (Ex.addQ (24 : Int) k)),
 Value.int IntKind.i64
 (Ex.wrapQ IntKind.i64
 (Ex.addQ
 (Ex.wrapQ IntKind.i64 (Ex.addQ (24 : Int) k))
 (1 : Int))),
 Value.int IntKind.i64 (0 : Int),
 Value.int IntKind.i64 (0 : Int),
 Value.int IntKind.i64 (14 : Int),
 Value.int IntKind.i64
 (Ex.wrapQ IntKind.i64 (Ex.addQ (24 : Int) k)),
 Value.int IntKind.i64
 (Ex.wrapQ IntKind.i64 (Ex.addQ (24 : Int) k)),
 Value.int IntKind.i64 (0 : Int),
 Value.int IntKind.i64 (3 : Int),
 Value.int IntKind.i64 (0 : Int)])
 (29 : Nat)))
 true])))))))))))))))))))))))))
theorem radP_run (g o c : Nat) (l : List Nd) (b k : Int) (p : Nat) : Sy.Ran (Sy.inT Try.prog (ctxI (.ofNat (.succ p)) k g o c l) 60 fRAd (radArgs g o c l b (.ofNat (.succ p)) k) [⟨g, .seg o (ndCells l), false⟩] (Sy.rowT tI)) radP_o (radP_R g o c l b k p) := ⟨fun ns => by kernel_rfl, fun ns => by kernel_rfl⟩

end Go.Proofs.Ytgaejhhipnpopaa
