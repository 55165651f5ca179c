/-
  The reference's needs: the call; its lay; Needs and Expr, of both: the calls; Address, of both: explored; Address, of both: its contracts; Symbolic runs, made ready: each operation is looked at once, each function once; Symbolic runs in which a call's own blocks are forgotten behind it, where nothin
-/
import Derived.Test.YtlpcnaeknbmjdaaGreatPb

set_option linter.unusedVariables false
set_option linter.unusedSimpArgs false
noncomputable section
namespace Go.Proofs.YtlpcnaeknbmjdaaGreat.Lw
open Sy.O (fork nil steps)
open Sy.Res (need hyp br leaf both)
open Go Go.RowKit
open Go.Proofs.YtlpcnaeknbmjdaaGreat.Sy (Let Blk)
def rnC (g o c : Nat) (l : List Nd) : Sy.CallC := ⟨fRN, #[.slice (some ⟨g, o, none⟩) l.length c], isExpr 24 l, ⟨[(g, .seg o (ndCells l))], [], 0, []⟩, [Sy.plainO (.int .i64 (tr l (l.length - 1)).needs)]⟩
def ctxRN (g o c : Nat) (l : List Nd) : Sy.Ctx := Sy.mkS [] [(fRN, fun a _ => loopV g o c (Sy.ptrN (a.get 3)) l)] []
def rn_o : Sy.O := (steps [0, 1, 1, 0, 1, 0, 0, 0, 0, 0, 0, 0, 0, 1, 0, 0, 1, 1, 1] nil)
noncomputable def rn_R (g o c : Nat) (l : List Nd) (ns : Nat → Sy.Let) : Sy.Res (Value × List Blk) :=
 let z0 := List.length l
 let z1 := Int.ofNat z0
 let z2 := Ex.subQ' z1 1
 let z3 := Sy.Cont.row 3 1 z0 z0 (needV l z0)
 let z4 := 0 + Int.toNat (Ex.wrapQ .i64 z2) * 1
 need (0 ≤ Int.ofNat z0 ∧ Int.toNat z1 * (8 : Nat) ≤ 281474976710656 ∧ Int.toNat z1 ≤ 9223372036854775807) (need (nodesOk 24 l ∧ 0 < List.length l ∧ List.length l ≤ 65536 ∧ onceOk l) (hyp True (need (0 ≤ Ex.wrapQ .i64 z2 ∧ Ex.wrapQ .i64 z2 < (↑z0 : Int)) (need (∃ (i : Int), Sy.Cont.at z3 z4 = some (Value.int .i64 i)) (hyp (Sy.Cont.at z3 z4 = some (Value.int .i64 (ns 2).i)) (leaf (Value.int .i64 (ns 2).i, [])))))))
theorem rn_run (g o c : Nat) (l : List Nd) : Sy.Ran (Sy.inT Tryz.prog (ctxRN g o c l) 50 fRN (rnC g o c l).args (Sy.blks (rnC g o c l).mem) Sy.noB) rn_o (rn_R g o c l) := ⟨fun _ => by kernel_rfl, fun _ => by kernel_rfl⟩
theorem rnC_met (g o c : Nat) (l : List Nd) : Sy.Meets Tryz.prog (rnC g o c l) := by
 have HS : (ctxRN g o c l).holds Tryz.prog := Sy.mkS_holds (fun _ h => (by cases h)) (fun p hp a L => by
  rcases List.mem_singleton.1 hp with rfl
  exact loopV_met _ _ _ _ _) (fun _ h => (by cases h))
 refine Sy.meets_of HS mixed (rn_run g o c l) fun hok ns => ?_
 have hE : isExpr 24 l := hok
 have hpos := hE.2.1
 have hm := hE.2.2.1
 have e : l.length - 1 < l.length := by omega
 have at' : (Sy.Cont.row tInt 1 l.length l.length (needV l l.length)).at (0 + (l.length - 1) * 1) = some (.int .i64 (tr l (l.length - 1)).needs) := by
  show (needV l l.length)[0 + (l.length - 1) * 1]? = _
  rw [Nat.zero_add, Nat.mul_one, needV_get e, if_pos e]
 simp only [rn_R, Sy.Res.holds, Int.ofNat_eq_natCast, Sy.b_and, Sy.b_or, Sy.b_not, Sy.b_f, Sy.b_and', Sy.b_or', Sy.q_lt, Sy.q_le, Sy.q_eq, Sy.b_tt, Sy.b_ft, not_true_eq_false, not_false_eq_true, dec_q l.length hpos (by omega), Int.toNat_natCast, at', some_int, some_bool, exists_eq', true_and]
 refine ⟨⟨Int.natCast_nonneg _, ?_, ?_⟩, hE, fun _ => ⟨by omega, fun h => Sy.plainO_leaf (List.mem_singleton_self _) rfl (by rw [← h])⟩⟩
 ·show l.length * 8 ≤ _
  omega
 ·show l.length ≤ _
  omega
abbrev fLay : FuncId := 140
abbrev fRNum : FuncId := 138
def rlayA (g o c : Nat) (l : List Nd) (i0 : Nat) (gl n cap : Nat) (xs : List Value) (i t : Int) : Sy.CallC :=
 ⟨fLay, #[.slice (some ⟨gl, 0, none⟩) n cap, .slice (some ⟨g, o, none⟩) l.length c, .int .i64 i, .int .i64 t], ((isExpr 24 l ∧ goodN l) ∧ n + (lay (tr l i.toNat) t).length ≤ 900000) ∧ 0 ≤ i ∧ i < l.length ∧ i < i0 ∧ 24 ≤ t ∧ t + (tr l i.toNat).needs ≤ 29,
  ⟨[(g, .seg o (ndCells l))], [(gl, .row tI 6 n cap xs)], 2, []⟩, [Sy.rowO tI 6 (n + (lay (tr l i.toNat) t).length) (xs ++ insCells (lay (tr l i.toNat) t)) id]⟩
def rlay0 (g o c : Nat) (l : List Nd) (i0 : Nat) (i t : Int) : Sy.CallC :=
 ⟨fLay, #[.slice none 0 0, .slice (some ⟨g, o, none⟩) l.length c, .int .i64 i, .int .i64 t], (isExpr 24 l ∧ goodN l) ∧ 0 ≤ i ∧ i < l.length ∧ i < i0 ∧ 24 ≤ t ∧ t + (tr l i.toNat).needs ≤ 29,
  ⟨[(g, .seg o (ndCells l))], [], 2, []⟩, [Sy.rowO tI 6 (lay (tr l i.toNat) t).length (insCells (lay (tr l i.toNat) t)) id]⟩
def Sy.lenV (v : Value) : Nat := match v with
 | .slice _ n _ => n
 | _ => 0
def Sy.firstRow : List Blk → List Value
 | [] => []
 | b :: L => match b.ct with
   | .row _ _ _ _ xs => xs
   | _ => Sy.firstRow L
def ctxY (g o c : Nat) (l : List Nd) (i0 : Nat) : Sy.Ctx := Sy.mkS [(fLay, fun a L => rlay0 g o c l i0 (Sy.argI a 2) (Sy.argI a 3)), (fLay, fun a L => rlayA g o c l i0 (Sy.ptrN (Sy.argV a 0)) (Sy.lenV (Sy.argV a 0)) (Sy.capN (Sy.argV a 0)) (Sy.firstRow L) (Sy.argI a 2) (Sy.argI a 3)),
 (fRNum, fun a _ => rnum0 (Sy.argI a 1) (Sy.argI a 2)), (fRNum, fun a L => rnumA (Sy.ptrN (Sy.argV a 0)) (Sy.lenV (Sy.argV a 0)) (Sy.capN (Sy.argV a 0)) (Sy.firstRow L) (Sy.argI a 1) (Sy.argI a 2)),
 (fPlain, fun a _ => plC (Sy.argI a 0)), (fCond, fun a _ => cdC (Sy.argI a 0))] [] []
def la_o : Sy.O := (steps [0, 1, 0, 0, 1, 1, 1, 1, 1, 1, 0, 0, 0, 0, 0, 0] (fork (steps [0, 0, 0, 1, 2, 0, 0, 0, 0] nil) (steps [0, 0, 0] (fork (steps [0, 0, 0, 0, 0, 0, 3, 0, 1, 1, 0, 0, 2, 0, 0, 0, 0] nil) (steps [0, 0, 0, 1, 1, 0, 1, 0, 0, 0, 0, 0, 2, 0] (fork (steps [0, 0, 0, 1, 0, 1, 1, 0, 0, 0, 0, 0, 0, 0] nil) (fork (steps [0, 0, 0, 1, 0, 1, 1, 0, 0, 0, 0, 0, 0, 0] nil) (fork (steps [0, 0, 0, 1, 0, 1, 1, 0, 0, 0, 0, 0, 0, 0] nil) (steps [0, 2, 0, 1, 1, 0, 0, 0, 0, 0, 0, 0, 2, 0, 0, 0, 0, 0] (fork (steps [0, 2, 0, 0, 0, 0, 0, 0, 0, 0, 1, 0, 1, 1, 0, 0, 0, 0, 0, 0, 0] nil) (steps [0, 2, 0, 0, 0, 0, 0, 0, 0, 0, 1, 0, 1, 1, 0, 0, 0, 0, 0, 0, 0] nil)))))))))))
noncomputable def la_R (g o c : Nat) (l : List Nd) (gl n cap : Nat) (xs : List Value) (i t : Int) (i0 : Nat) (ns : Nat → Sy.Let) : Sy.Res (Value × List Blk) :=
 let z0 := Sy.Cont.seg o (ndCells l)
 let z1 := o + Int.toNat i * 4
 let z2 := ns 0
 let z3 := o + Int.toNat i * 4 + 1
 let z4 := o + Int.toNat i * 4 + 1 + 1
 let z5 := o + Int.toNat i * 4 + 1 + 1 + 1
 let z6 := n + List.length (numL t (ns 1).i)
 let z7 := ns 6
 let z8 := n + 1
 let z9 := isExpr 24 l ∧ goodN l
 let z10 := tr l (Int.toNat (ns 2).i)
 let z11 := lay z10 t
 let z12 := n + List.length z11 + (1 : Nat) ≤ 9223372036854775807
 let z13 := n + List.length z11 + 1
 let z14 := z13 * (48 : Nat) ≤ 140737488355328
 let z15 := ns 9
 let z16 := some (Addr.mk (ns 8).n 0 none)
 let z17 := List.append xs (insCells z11)
 let z18 := n + List.length z11 + 2
 let z19 := tr l (Int.toNat (ns 3).i)
 let z20 := Ex.addQ t 1
 let z21 := Ex.wrapQ .i64 z20
 let z22 := lay z19 z21
 let z23 := n + List.length z11 + List.length z22 + 1
 let z24 := ns 11
 let z25 := some (Addr.mk (ns 10).n 0 none)
 let z26 := List.append z17 (insCells z22)
 let z27 := n + List.length z11 + List.length z22 + 2
 need (0 ≤ i ∧ i < (↑(List.length l) : Int)) (need (∃ (i_1 : Int), Sy.Cont.at z0 z1 = some (Value.int .i64 i_1)) (hyp (Sy.Cont.at z0 z1 = some (Value.int .i64 z2.i)) (need (∃ (i_1 : Int), Sy.Cont.at z0 z3 = some (Value.int .u64 i_1)) (hyp (Sy.Cont.at z0 z3 = some (Value.int .u64 (ns 1).i)) (need (∃ (i_1 : Int), Sy.Cont.at z0 z4 = some (Value.int .i64 i_1)) (hyp (Sy.Cont.at z0 z4 = some (Value.int .i64 (ns 2).i)) (need (∃ (i_1 : Int), Sy.Cont.at z0 z5 = some (Value.int .i64 i_1)) (hyp (Sy.Cont.at z0 z5 = some (Value.int .i64 (ns 3).i)) (br (Ex.eqQ z2.i 1) (need (goodU (ns 1).i ∧ n ≤ 1000000) (hyp (Nat.le z6 z7.n) (leaf (Value.slice (some (Addr.mk (ns 5).n 0 none)) z6 z7.n, [Blk.mk (ns 5).n (Sy.Cont.row 49 6 z6 z7.n (List.append xs (insCells (numL t (ns 1).i)))) true])))) (br (Ex.eqQ z2.i 2) (need (n + (1 : Nat) ≤ 9223372036854775807) (need (z8 * (48 : Nat) ≤ 140737488355328) (hyp (Nat.le z8 (ns 7).n) (leaf (Value.slice (some (Addr.mk z7.n 0 none)) z8 (ns 7).n, [Blk.mk z7.n (Sy.Cont.row 49 6 z8 (ns 7).n (List.append xs [Value.int .i64 6, Value.int .i64 t, Value.int .i64 31, Value.int .i64 (Ex.wrapQ .i64 (ns 1).i), Value.int .i64 0, Value.int .i64 0])) true]))))) (need ((z9 ∧ n + List.length z11 ≤ 900000) ∧ 0 ≤ (ns 2).i ∧ (ns 2).i < (↑(List.length l) : Int) ∧ (ns 2).i < (↑i0 : Int) ∧ 24 ≤ t ∧ t + (↑(E.needs z10) : Int) ≤ 29) (hyp (Nat.le (n + List.length z11) z7.n) (br (Ex.eqQ z2.i 3) (need z12 (need z14 (hyp (Nat.le z13 z15.n) (leaf (Value.slice z16 z13 z15.n, [Blk.mk (ns 8).n
 (Sy.Cont.row 49 6 z13 z15.n (List.append z17 [Value.int .i64 4, Value.int .i64 t, Value.int .i64 31, Value.int .i64 t, Value.int .i64 0, Value.int .i64 0])) true]))))) (br (Ex.eqQ z2.i 4) (need z12 (need z14 (hyp (Nat.le z13 z15.n) (leaf (Value.slice z16 z13 z15.n, [Blk.mk (ns 8).n (Sy.Cont.row 49 6 z13 z15.n (List.append z17 [Value.int .i64 8, Value.int .i64 t, Value.int .i64 31, Value.int .i64 t, Value.int .i64 0, Value.int .i64 0])) true]))))) (br (Ex.eqQ z2.i 5) (need (n + List.length z11 + (2 : Nat) ≤ 9223372036854775807) (need (z18 * (48 : Nat) ≤ 140737488355328) (hyp (Nat.le z18 z15.n) (leaf (Value.slice z16 z18 z15.n, [Blk.mk (ns 8).n (Sy.Cont.row 49 6 z18 z15.n (List.append z17 [Value.int .i64 16, Value.int .i64 0, Value.int .i64 t, Value.int .i64 31, Value.int .i64 0, Value.int .i64 0, Value.int .i64 17, Value.int .i64 t, Value.int .i64 0, Value.int .i64 0, Value.int .i64 0, Value.int .i64 0])) true]))))) (need ((z9 ∧ n + List.length z11 + List.length z22 ≤ 900000) ∧ 0 ≤ (ns 3).i ∧ (ns 3).i < (↑(List.length l) : Int) ∧ (ns 3).i < (↑i0 : Int) ∧ 24 ≤ Ex.wrapQ .i64 z20 ∧ Ex.wrapQ .i64 z20 + (↑(E.needs z19) : Int) ≤ 29) (hyp (Nat.le (n + List.length z11 + List.length z22) (ns 8).n) (need True (hyp True (br (!Ex.eqQ (binOp z2.i) 0) (need True (hyp True (need (n + List.length z11 + List.length z22 + (1 : Nat) ≤ 9223372036854775807) (need (z23 * (48 : Nat) ≤ 140737488355328) (hyp (Nat.le z23 z24.n) (leaf (Value.slice z25 z23 z24.n, [Blk.mk (ns 10).n (Sy.Cont.row 49 6 z23
 z24.n (List.append z26 [Value.int .i64 (binOp z2.i), Value.int .i64 t, Value.int .i64 t, Value.int .i64 z21, Value.int .i64 0, Value.int .i64 0])) true]))))))) (need True (hyp True (need (n + List.length z11 + List.length z22 + (2 : Nat) ≤ 9223372036854775807) (need (z27 * (48 : Nat) ≤ 140737488355328) (hyp (Nat.le z27 z24.n) (leaf (Value.slice z25 z27 z24.n, [Blk.mk (ns 10).n (Sy.Cont.row 49 6 z27 z24.n (List.append z26 [Value.int .i64 16, Value.int .i64 0, Value.int .i64 t, Value.int .i64 z21, Value.int .i64 0, Value.int .i64 0, Value.int .i64 17, Value.int .i64 t, Value.int .i64 0, Value.int .i64 0, Value.int .i64 0, Value.int .i64 (binCond z2.i)])) true])))))))))))))))))))))))))))
theorem la_run (g o c : Nat) (l : List Nd) (gl n cap : Nat) (xs : List Value) (i t : Int) (i0 : Nat) : Sy.Ran (Sy.inT Tryz.prog (ctxY g o c l i0) 60 fLay (rlayA g o c l i0 gl n cap xs i t).args (Sy.blks (rlayA g o c l i0 gl n cap xs i t).mem) Sy.rowB) la_o (la_R g o c l gl n cap xs i t i0) := ⟨fun _ => by kernel_rfl, fun _ => by kernel_rfl⟩
def l0_o : Sy.O := (steps [0, 1, 0, 0, 1, 1, 1, 1, 1, 1, 0, 0, 0, 0, 0, 0] (fork (steps [0, 0, 0, 0, 0, 0, 0] nil) (steps [0, 0, 0] (fork (steps [0, 0, 0, 0, 0, 0, 0, 0, 0, 0, 0, 0, 0, 0] nil) (steps [0, 0, 0, 0, 1, 0, 0, 0, 0, 0, 2, 0] (fork (steps [0, 0, 0, 1, 0, 1, 1, 0, 0, 0, 0, 0, 0, 0] nil) (fork (steps [0, 0, 0, 1, 0, 1, 1, 0, 0, 0, 0, 0, 0, 0] nil) (fork (steps [0, 0, 0, 1, 0, 1, 1, 0, 0, 0, 0, 0, 0, 0] nil) (steps [0, 2, 0, 1, 1, 0, 0, 0, 0, 0, 0, 0, 2, 0, 0, 0, 0, 0] (fork (steps [0, 2, 0, 0, 0, 0, 0, 0, 0, 0, 1, 0, 1, 1, 0, 0, 0, 0, 0, 0, 0] nil) (steps [0, 2, 0, 0, 0, 0, 0, 0, 0, 0, 1, 0, 1, 1, 0, 0, 0, 0, 0, 0, 0] nil)))))))))))
noncomputable def l0_R (g o c : Nat) (l : List Nd) (i t : Int) (i0 : Nat) (ns : Nat → Sy.Let) : Sy.Res (Value × List Blk) :=
 let z0 := Sy.Cont.seg o (ndCells l)
 let z1 := o + Int.toNat i * 4
 let z2 := ns 0
 let z3 := o + Int.toNat i * 4 + 1
 let z4 := o + Int.toNat i * 4 + 1 + 1
 let z5 := o + Int.toNat i * 4 + 1 + 1 + 1
 let z6 := List.length (numL t (ns 1).i)
 let z7 := ns 6
 let z8 := ns 7
 let z9 := [Value.int .i64 6, Value.int .i64 t, Value.int .i64 31, Value.int .i64 (Ex.wrapQ .i64 (ns 1).i), Value.int .i64 0, Value.int .i64 0]
 let z10 := isExpr 24 l ∧ goodN l
 let z11 := tr l (Int.toNat (ns 2).i)
 let z12 := lay z11 t
 let z13 := List.length z12 + (1 : Nat) ≤ 9223372036854775807
 let z14 := List.length z12 + 1
 let z15 := z14 * (48 : Nat) ≤ 140737488355328
 let z16 := ns 9
 let z17 := some (Addr.mk (ns 8).n 0 none)
 let z18 := insCells z12
 let z19 := [Value.int .i64 4, Value.int .i64 t, Value.int .i64 31, Value.int .i64 t, Value.int .i64 0, Value.int .i64 0]
 let z20 := [Value.int .i64 8, Value.int .i64 t, Value.int .i64 31, Value.int .i64 t, Value.int .i64 0, Value.int .i64 0]
 let z21 := List.length z12 + 2
 let z22 := [Value.int .i64 16, Value.int .i64 0, Value.int .i64 t, Value.int .i64 31, Value.int .i64 0, Value.int .i64 0, Value.int .i64 17, Value.int .i64 t, Value.int .i64 0, Value.int .i64 0, Value.int .i64 0, Value.int .i64 0]
 let z23 := tr l (Int.toNat (ns 3).i)
 let z24 := Ex.addQ t 1
 let z25 := Ex.wrapQ .i64 z24
 let z26 := lay z23 z25
 let z27 := List.length z12 + List.length z26 + 1
 let z28 := ns 11
 let z29 := some (Addr.mk (ns 10).n 0 none)
 let z30 := List.append z18 (insCells z26)
 let z31 := [Value.int .i64 (binOp z2.i), Value.int .i64 t, Value.int .i64 t, Value.int .i64 z25, Value.int .i64 0, Value.int .i64 0]
 let z32 := List.length z12 + List.length z26 + 2
 let z33 := [Value.int .i64 16, Value.int .i64 0, Value.int .i64 t, Value.int .i64 z25, Value.int .i64 0, Value.int .i64 0, Value.int .i64 17, Value.int .i64 t, Value.int .i64 0, Value.int .i64 0, Value.int .i64 0, Value.int .i64 (binCond z2.i)]
 need (0 ≤ i ∧ i < (↑(List.length l) : Int)) (need (∃ (i_1 : Int), Sy.Cont.at z0 z1 = some (Value.int .i64 i_1)) (hyp (Sy.Cont.at z0 z1 = some (Value.int .i64 z2.i)) (need (∃ (i_1 : Int), Sy.Cont.at z0 z3 = some (Value.int .u64 i_1)) (hyp (Sy.Cont.at z0 z3 = some (Value.int .u64 (ns 1).i)) (need (∃ (i_1 : Int), Sy.Cont.at z0 z4 = some (Value.int .i64 i_1)) (hyp (Sy.Cont.at z0 z4 = some (Value.int .i64 (ns 2).i)) (need (∃ (i_1 : Int), Sy.Cont.at z0 z5 = some (Value.int .i64 i_1)) (hyp (Sy.Cont.at z0 z5 = some (Value.int .i64 (ns 3).i)) (br (Ex.eqQ z2.i 1) (need (0 ≤ (ns 1).i ∧ (ns 1).i < 18446744073709551616) (hyp (Nat.le z6 z7.n) (leaf (Value.slice (some (Addr.mk (ns 5).n 0 none)) z6 z7.n, [Blk.mk (ns 5).n (Sy.Cont.row 49 6 z6 z7.n (insCells (numL t (ns 1).i))) true])))) (br (Ex.eqQ z2.i 2) (hyp (Nat.le 1 z8.n) (leaf (Value.slice (some (Addr.mk z7.n 0 none)) 1 z8.n, [Blk.mk z7.n (Sy.Cont.row 49 6 1 z8.n z9) true, Blk.mk (ns 5).n (.obj (.cells (Array.mk z9) 49)) true]))) (need (z10 ∧ 0 ≤ (ns 2).i ∧ (ns 2).i < (↑(List.length l) : Int) ∧ (ns 2).i < (↑i0 : Int) ∧ 24 ≤ t ∧ t + (↑(E.needs z11) : Int) ≤ 29) (hyp (Nat.le (List.length z12) z7.n) (br (Ex.eqQ z2.i 3) (need z13 (need z15 (hyp (Nat.le z14 z16.n) (leaf (Value.slice z17 z14 z16.n, [Blk.mk (ns 8).n (Sy.Cont.row 49 6 z14 z16.n (List.append z18 z19)) true, Blk.mk z8.n (Sy.Cont.obj (Obj.cells (Array.mk z19) 49)) true]))))) (br (Ex.eqQ z2.i 4) (need z13 (need z15 (hyp (Nat.le z14 z16.n) (leaf (Value.slice z17 z14 z16.n, [Blk.mk
 (ns 8).n (Sy.Cont.row 49 6 z14 z16.n (List.append z18 z20)) true, Blk.mk z8.n (Sy.Cont.obj (Obj.cells (Array.mk z20) 49)) true]))))) (br (Ex.eqQ z2.i 5) (need (List.length z12 + (2 : Nat) ≤ 9223372036854775807) (need (z21 * (48 : Nat) ≤ 140737488355328) (hyp (Nat.le z21 z16.n) (leaf (Value.slice z17 z21 z16.n, [Blk.mk (ns 8).n (Sy.Cont.row 49 6 z21 z16.n (List.append z18 z22)) true, Blk.mk z8.n (Sy.Cont.obj (Obj.cells (Array.mk z22) 49)) true]))))) (need ((z10 ∧ List.length z12 + List.length z26 ≤ 900000) ∧ 0 ≤ (ns 3).i ∧ (ns 3).i < (↑(List.length l) : Int) ∧ (ns 3).i < (↑i0 : Int) ∧ 24 ≤ Ex.wrapQ .i64 z24 ∧ Ex.wrapQ .i64 z24 + (↑(E.needs z23) : Int) ≤ 29) (hyp (Nat.le (List.length z12 + List.length z26) (ns 8).n) (need True (hyp True (br (!Ex.eqQ (binOp z2.i) 0) (need True (hyp True (need (List.length z12 + List.length z26 + (1 : Nat) ≤ 9223372036854775807) (need (z27 * (48 : Nat) ≤ 140737488355328) (hyp (Nat.le z27 z28.n) (leaf (Value.slice z29 z27 z28.n, [Blk.mk (ns 10).n (Sy.Cont.row 49 6 z27 z28.n (List.append z30 z31)) true, Blk.mk z16.n (Sy.Cont.obj (Obj.cells (Array.mk z31) 49)) true]))))))) (need True (hyp True (need (List.length z12 + List.length z26 + (2 : Nat) ≤ 9223372036854775807) (need (z32 * (48 : Nat) ≤ 140737488355328) (hyp (Nat.le z32 z28.n) (leaf (Value.slice z29 z32 z28.n, [Blk.mk (ns 10).n (Sy.Cont.row 49 6 z32 z28.n (List.append z30 z33)) true, Blk.mk z16.n (Sy.Cont.obj (Obj.cells (Array.mk z33) 49)) true])))))))))))))))))))))))))))
theorem l0_run (g o c : Nat) (l : List Nd) (i t : Int) (i0 : Nat) : Sy.Ran (Sy.inT Tryz.prog (ctxY g o c l i0) 60 fLay (rlay0 g o c l i0 i t).args (Sy.blks (rlay0 g o c l i0 i t).mem) (Sy.rowT tI)) l0_o (l0_R g o c l i t i0) := ⟨fun _ => by kernel_rfl, fun _ => by kernel_rfl⟩
theorem ctxY_holds (g o c : Nat) (l : List Nd) (i0 : Nat) (h0 : ∀ i t, Sy.Meets Tryz.prog (rlay0 g o c l i0 i t)) (hA : ∀ gl n cap xs i t, Sy.Meets Tryz.prog (rlayA g o c l i0 gl n cap xs i t)) : (ctxY g o c l i0).holds Tryz.prog := Sy.mkS_holds (fun p hp a L => by
 rcases List.mem_cons.1 hp with rfl | hp
 ·exact h0 _ _
 rcases List.mem_cons.1 hp with rfl | hp
 ·exact hA _ _ _ _ _ _
 rcases List.mem_cons.1 hp with rfl | hp
 ·exact rnum0_met _ _
 rcases List.mem_cons.1 hp with rfl | hp
 ·exact rnumA_met _ _ _ _ _ _
 rcases List.mem_cons.1 hp with rfl | hp
 ·exact plC_met _
 rcases List.mem_singleton.1 hp with rfl
 exact cdC_met _) (fun _ h => (by cases h)) (fun _ h => (by cases h))
theorem rlayA_step (g o c : Nat) (l : List Nd) (i0 : Nat) (ih0 : ∀ i t, Sy.Meets Tryz.prog (rlay0 g o c l i0 i t)) (ihA : ∀ gl n cap xs i t, Sy.Meets Tryz.prog (rlayA g o c l i0 gl n cap xs i t)) (gl n cap : Nat) (xs : List Value) (i t : Int) : Sy.Meets Tryz.prog (rlayA g o c l (i0 + 1) gl n cap xs i t) := by
 refine Sy.meets_of (ctxY_holds g o c l i0 ih0 ihA) mixed (la_run g o c l gl n cap xs i t i0) fun hok ns => ?_
 obtain ⟨⟨⟨hE, hG⟩, hn⟩, h0, h1, h2, h3, h4⟩ : ((isExpr 24 l ∧ goodN l) ∧ n + (lay (tr l i.toNat) t).length ≤ 900000) ∧ 0 ≤ i ∧ i < l.length ∧ i < ((i0 + 1 : Nat) : Int) ∧ 24 ≤ t ∧ t + (tr l i.toNat).needs ≤ 29 := hok
 have hok := hE.1
 simp only [la_R, Sy.Res.holds, Int.ofNat_eq_natCast, Sy.b_and, Sy.b_or, Sy.b_not, Sy.b_f, Sy.b_and', Sy.b_or', Sy.q_lt, Sy.q_le, Sy.q_eq, Sy.b_tt, Sy.b_ft, not_true_eq_false, not_false_eq_true]
 have hlt : i.toNat < l.length := by omega
 have ea : l[i.toNat]? = some l[i.toNat] := List.getElem?_eq_getElem hlt
 obtain ⟨a0, a1, a2, a3⟩ := nd_atI ea o
 simp only [a0, a1, a2, a3, some_int, some_bool, exists_eq', true_and]
 have hxv : goodU l[i.toNat].val := hG _ (List.getElem_mem hlt)
 generalize l[i.toNat] = x at *
 refine ⟨⟨h0, h1⟩, fun e0 e1 e2 e3 => ?_⟩
 have hnp := (tr l i.toNat).needs_pos
 have w25 : Ex.wrapQ .i64 (Ex.addQ t 1) = t + 1 := add_small (by omega) (by omega)
 simp only [← e0, ← e1, ← e2, ← e3, w25]
 have hx := hok _ x ea
 have un : 3 ≤ x.op → x.op ≤ 5 → 0 ≤ x.a ∧ x.a < i ∧ tr l i.toNat = .un x.op (tr l x.a.toNat) := fun u1 u2 => by
  have ha := ok_a hx u1
  exact ⟨ha.1, by omega, tr_un ea u1 u2 (by omega)⟩
 have whole := lay_fits hE (i := i.toNat) hlt t
 refine ⟨fun c1 => ⟨⟨hxv, by omega⟩, fun hc => Sy.rowO_leaf' (List.mem_singleton_self _) rfl 0 rfl rfl ?_ ?_ hc⟩, fun c1 => ⟨fun c2 => ⟨by omega, by omega, fun hc => Sy.rowO_leaf' (List.mem_singleton_self _) rfl 0 rfl rfl ?_ ?_ hc⟩, fun c2 => ?_⟩⟩
 ·rw [tr_num ea (by omega)]; rfl
 ·rw [tr_num ea (by omega)]; rfl
 ·rw [tr_loc ea c2]; rfl
 ·rw [tr_loc ea c2]
  have hv : Ex.wrapQ .i64 x.val = x.val := by
   unfold nodeOk at hx
   unfold goodU at hxv
   exact wrap_small hxv.1 (by omega)
  rw [hv]; rfl
 by_cases h6 : x.op ≤ 5
 ·have hop : 3 ≤ x.op := by unfold nodeOk at hx; omega
  obtain ⟨ha0, ha1, eT⟩ := un hop h6
  have hf := lay_fits hE (i := x.a.toNat) (by omega) t
  rw [eT, E.needs] at h4
  rw [eT] at whole
  simp only [lay, List.length_append] at whole
  rw [eT] at hn
  simp only [lay, List.length_append] at hn
  have hu := unL_pos x.op t
  refine ⟨⟨⟨⟨hE, hG⟩, by omega⟩, ha0, by omega, by omega, h3, h4⟩, fun hc0 => ⟨fun c3 => ⟨by omega, by omega, fun hc1 => Sy.rowO_leaf' (List.mem_singleton_self _) rfl 0 rfl rfl ?_ ?_ hc1⟩, fun c3 => ⟨fun c4 => ⟨by omega, by omega, fun hc1 => Sy.rowO_leaf' (List.mem_singleton_self _) rfl 0 rfl rfl ?_ ?_ hc1⟩,
   fun c4 => ⟨fun c5 => ⟨by omega, by omega, fun hc1 => Sy.rowO_leaf' (List.mem_singleton_self _) rfl 0 rfl rfl ?_ ?_ hc1⟩, fun c5 => absurd h6 (by omega)⟩⟩⟩⟩
  ·rw [eT]; simp [lay, unL, c3]; try omega
  ·rw [eT]; simp [lay, unL, insCells, I.cells, c3]
  ·rw [eT]; simp [lay, unL, c4]; try omega
  ·rw [eT]; simp [lay, unL, insCells, I.cells, c4]
  ·rw [eT]; simp [lay, unL, c5]; try omega
  ·rw [eT]; simp [lay, unL, insCells, I.cells, c5]
 ·have h19 : x.op ≤ 19 := by unfold nodeOk at hx; omega
  have ha := ok_a hx (by omega)
  have hb := ok_b hx (by omega)
  have eT : tr l i.toNat = .bin x.op (tr l x.a.toNat) (tr l x.b.toNat) := tr_bin ea (by omega) (by omega) (by omega)
  have hf := lay_fits hE (i := x.a.toNat) (by omega) t
  have hf2 := lay_fits hE (i := x.b.toNat) (by omega) (t + 1)
  rw [eT, E.needs] at h4
  rw [eT] at whole
  simp only [lay, List.length_append] at whole
  rw [eT] at hn
  simp only [lay, List.length_append] at hn
  refine ⟨⟨⟨⟨hE, hG⟩, by omega⟩, ha.1, by omega, by omega, h3, by omega⟩, fun hc0 => ⟨fun c3 => absurd c3 (by omega), fun c3 => ⟨fun c4 => absurd c4 (by omega), fun c4 => ⟨fun c5 => absurd c5 (by omega), fun c5 => ⟨⟨⟨⟨hE, hG⟩, by omega⟩, hb.1, by omega, by omega, by omega, by omega⟩, fun hc1 => fun _ =>
   ⟨fun hz => fun _ => ⟨by omega, by omega, fun hc2 => Sy.rowO_leaf' (List.mem_singleton_self _) rfl 0 rfl rfl ?_ ?_ hc2⟩, fun hz => fun _ => ⟨by omega, by omega, fun hc2 => Sy.rowO_leaf' (List.mem_singleton_self _) rfl 0 rfl rfl ?_ ?_ hc2⟩⟩⟩⟩⟩⟩⟩
  ·rw [eT]; simp only [lay, binL, if_neg hz, List.length_append, List.length_cons, List.length_nil]; omega
  ·rw [eT]; simp [lay, binL, if_neg hz, insCells, I.cells]
  ·have hz : binOp x.op = 0 := Classical.byContradiction hz
   rw [eT]; simp only [lay, binL, if_pos hz, List.length_append, List.length_cons, List.length_nil]; omega
  ·have hz : binOp x.op = 0 := Classical.byContradiction hz
   rw [eT]; simp [lay, binL, if_pos hz, insCells, I.cells]
theorem rlay0_step (g o c : Nat) (l : List Nd) (i0 : Nat) (ih0 : ∀ i t, Sy.Meets Tryz.prog (rlay0 g o c l i0 i t)) (ihA : ∀ gl n cap xs i t, Sy.Meets Tryz.prog (rlayA g o c l i0 gl n cap xs i t)) (i t : Int) : Sy.Meets Tryz.prog (rlay0 g o c l (i0 + 1) i t) := by
 refine Sy.meets_of (ctxY_holds g o c l i0 ih0 ihA) mixed (l0_run g o c l i t i0) fun hok ns => ?_
 obtain ⟨⟨hE, hG⟩, h0, h1, h2, h3, h4⟩ : (isExpr 24 l ∧ goodN l) ∧ 0 ≤ i ∧ i < l.length ∧ i < ((i0 + 1 : Nat) : Int) ∧ 24 ≤ t ∧ t + (tr l i.toNat).needs ≤ 29 := hok
 have hok := hE.1
 simp only [l0_R, Sy.Res.holds, Int.ofNat_eq_natCast, Sy.b_and, Sy.b_or, Sy.b_not, Sy.b_f, Sy.b_and', Sy.b_or', Sy.q_lt, Sy.q_le, Sy.q_eq, Sy.b_tt, Sy.b_ft, not_true_eq_false, not_false_eq_true]
 have hlt : i.toNat < l.length := by omega
 have ea : l[i.toNat]? = some l[i.toNat] := List.getElem?_eq_getElem hlt
 obtain ⟨a0, a1, a2, a3⟩ := nd_atI ea o
 simp only [a0, a1, a2, a3, some_int, some_bool, exists_eq', true_and]
 have hxv : goodU l[i.toNat].val := hG _ (List.getElem_mem hlt)
 generalize l[i.toNat] = x at *
 refine ⟨⟨h0, h1⟩, fun e0 e1 e2 e3 => ?_⟩
 have hnp := (tr l i.toNat).needs_pos
 have w25 : Ex.wrapQ .i64 (Ex.addQ t 1) = t + 1 := add_small (by omega) (by omega)
 simp only [← e0, ← e1, ← e2, ← e3, w25]
 have hx := hok _ x ea
 have un : 3 ≤ x.op → x.op ≤ 5 → 0 ≤ x.a ∧ x.a < i ∧ tr l i.toNat = .un x.op (tr l x.a.toNat) := fun u1 u2 => by
  have ha := ok_a hx u1
  exact ⟨ha.1, by omega, tr_un ea u1 u2 (by omega)⟩
 have whole := lay_fits hE (i := i.toNat) hlt t
 refine ⟨fun c1 => ⟨hxv, fun hc => Sy.rowO_leaf' (List.mem_singleton_self _) rfl 0 rfl rfl ?_ ?_ hc⟩, fun c1 => ⟨fun c2 => fun hc => Sy.rowO_leaf' (List.mem_singleton_self _) rfl 0 rfl rfl ?_ ?_ hc, fun c2 => ?_⟩⟩
 ·rw [tr_num ea (by omega)]; rfl
 ·rw [tr_num ea (by omega)]; rfl
 ·rw [tr_loc ea c2]; rfl
 ·rw [tr_loc ea c2]
  have hv : Ex.wrapQ .i64 x.val = x.val := by
   unfold nodeOk at hx
   unfold goodU at hxv
   exact wrap_small hxv.1 (by omega)
  rw [hv]; rfl
 by_cases h6 : x.op ≤ 5
 ·have hop : 3 ≤ x.op := by unfold nodeOk at hx; omega
  obtain ⟨ha0, ha1, eT⟩ := un hop h6
  have hf := lay_fits hE (i := x.a.toNat) (by omega) t
  rw [eT, E.needs] at h4
  rw [eT] at whole
  simp only [lay, List.length_append] at whole
  refine ⟨⟨⟨hE, hG⟩, ha0, by omega, by omega, h3, h4⟩, fun hc0 => ⟨fun c3 => ⟨by omega, by omega, fun hc1 => Sy.rowO_leaf' (List.mem_singleton_self _) rfl 0 rfl rfl ?_ ?_ hc1⟩, fun c3 => ⟨fun c4 => ⟨by omega, by omega, fun hc1 => Sy.rowO_leaf' (List.mem_singleton_self _) rfl 0 rfl rfl ?_ ?_ hc1⟩,
   fun c4 => ⟨fun c5 => ⟨by omega, by omega, fun hc1 => Sy.rowO_leaf' (List.mem_singleton_self _) rfl 0 rfl rfl ?_ ?_ hc1⟩, fun c5 => absurd h6 (by omega)⟩⟩⟩⟩
  ·rw [eT]; simp [lay, unL, c3]
  ·rw [eT]; simp [lay, unL, insCells, I.cells, c3]
  ·rw [eT]; simp [lay, unL, c4]
  ·rw [eT]; simp [lay, unL, insCells, I.cells, c4]
  ·rw [eT]; simp [lay, unL, c5]
  ·rw [eT]; simp [lay, unL, insCells, I.cells, c5]
 ·have h19 : x.op ≤ 19 := by unfold nodeOk at hx; omega
  have ha := ok_a hx (by omega)
  have hb := ok_b hx (by omega)
  have eT : tr l i.toNat = .bin x.op (tr l x.a.toNat) (tr l x.b.toNat) := tr_bin ea (by omega) (by omega) (by omega)
  have hf := lay_fits hE (i := x.a.toNat) (by omega) t
  have hf2 := lay_fits hE (i := x.b.toNat) (by omega) (t + 1)
  rw [eT, E.needs] at h4
  rw [eT] at whole
  simp only [lay, List.length_append] at whole
  refine ⟨⟨⟨hE, hG⟩, ha.1, by omega, by omega, h3, by omega⟩, fun hc0 => ⟨fun c3 => absurd c3 (by omega), fun c3 => ⟨fun c4 => absurd c4 (by omega), fun c4 => ⟨fun c5 => absurd c5 (by omega), fun c5 => ⟨⟨⟨⟨hE, hG⟩, by omega⟩, hb.1, by omega, by omega, by omega, by omega⟩, fun hc1 => fun _ =>
   ⟨fun hz => fun _ => ⟨by omega, by omega, fun hc2 => Sy.rowO_leaf' (List.mem_singleton_self _) rfl 0 rfl rfl ?_ ?_ hc2⟩, fun hz => fun _ => ⟨by omega, by omega, fun hc2 => Sy.rowO_leaf' (List.mem_singleton_self _) rfl 0 rfl rfl ?_ ?_ hc2⟩⟩⟩⟩⟩⟩⟩
  ·rw [eT]; simp only [lay, binL, if_neg hz, List.length_append, List.length_cons, List.length_nil]; omega
  ·rw [eT]; simp [lay, binL, if_neg hz, insCells, I.cells]
  ·have hz : binOp x.op = 0 := Classical.byContradiction hz
   rw [eT]; simp only [lay, binL, if_pos hz, List.length_append, List.length_cons, List.length_nil]; omega
  ·have hz : binOp x.op = 0 := Classical.byContradiction hz
   rw [eT]; simp [lay, binL, if_pos hz, insCells, I.cells]
theorem rlay_met (g o c : Nat) (l : List Nd) : ∀ i0 : Nat, (∀ i t, Sy.Meets Tryz.prog (rlay0 g o c l i0 i t)) ∧ (∀ gl n cap xs i t, Sy.Meets Tryz.prog (rlayA g o c l i0 gl n cap xs i t))
 | 0 => ⟨fun i t hok => absurd hok.2.2.2.1 (by have := hok.2.1; omega), fun gl n cap xs i t hok => absurd hok.2.2.2.1 (by have := hok.2.1; omega)⟩
 | i0 + 1 => ⟨fun i t => rlay0_step g o c l i0 (rlay_met g o c l i0).1 (rlay_met g o c l i0).2 i t, fun gl n cap xs i t => rlayA_step g o c l i0 (rlay_met g o c l i0).1 (rlay_met g o c l i0).2 gl n cap xs i t⟩
open Go Go.RowKit
open Go.Proofs.YtlpcnaeknbmjdaaGreat.Sy (Let Blk)
abbrev fTX : FuncId := 132
abbrev fRTX : FuncId := 109
def lenOk (l : List Nd) : Prop := (0 < l.length ∧ l.length ≤ 4398046511104) ∧ goodN l
def ctxQ (g o c : Nat) (l : List Nd) : Sy.Ctx := Sy.mkS [(fMay, fun _ _ => mayC g o c l), (fNeeds, fun a _ => needsC g o c l 24 l.length (Sy.argI a 1)), (fExpr, fun a _ => exprC g o c l l.length (Sy.argI a 1) (Sy.argI a 2)),
 (fRX, fun a _ => rxC g o c l (Sy.argI a 1)), (fRN, fun _ _ => rnC g o c l), (fLay, fun a _ => rlay0 g o c l l.length (Sy.argI a 2) (Sy.argI a 3))] [] []
def txArgs (g o c : Nat) (l : List Nd) (k : Int) : Array Value := #[.slice (some ⟨g, o, none⟩) l.length c, .int .i64 k]
def rtxArgs (g o c : Nat) (l : List Nd) (k : Int) : Array Value := #[.slice none 0 0, .slice (some ⟨g, o, none⟩) l.length c, .int .i64 k]
def tx_o : Sy.O := (steps [0, 0, 0, 0, 0, 0] (fork (steps [0, 0, 0, 0, 0, 0, 0, 0, 0] nil) (steps [0, 0, 0, 0, 0, 0, 0, 0, 0, 0, 0, 1] (fork nil (fork nil (steps [0, 0, 0, 0, 0, 0, 0] nil))))))
noncomputable def tx_R (g o c : Nat) (l : List Nd) (k : Int) (ns : Nat → Sy.Let) : Sy.Res (Value × List Blk) :=
 let z0 := leaf (Value.tuple (Array.mk [.slice none 0 0, .int .i64 1]), [])
 let z1 := Ex.subQ' (Int.ofNat (List.length l)) 1
 let z2 := tr l (Int.toNat (Ex.wrapQ .i64 z1))
 let z3 := lay z2 (24 + k)
 let z4 := List.length z3
 need (0 < List.length l ∧ List.length l ≤ 4398046511104) (hyp True (br (!tru (isExpr 24 l)) z0 (need (isExpr 24 l ∧ 0 ≤ Ex.wrapQ .i64 z1 ∧ Ex.wrapQ .i64 z1 < (↑(List.length l) : Int) ∧ Ex.wrapQ .i64 z1 < (↑(List.length l) : Int)) (hyp True (br (bif bif false then true else Ex.ltQ k 0 then true else Ex.leQ 5 k) z0 (br (Ex.ltQ 5 (Ex.wrapQ .i64 (Ex.addQ k (↑(E.needs z2) : Int)))) (leaf (Value.tuple (Array.mk [.slice none 0 0, .int .i64 30]), [])) (need ((isExpr 24 l ∧ goodN l) ∧ 0 ≤ Ex.wrapQ .i64 z1 ∧ Ex.wrapQ .i64 z1 < (↑(List.length l) : Int) ∧ Ex.wrapQ .i64 z1 < (↑(List.length l) : Int) ∧ 0 ≤ k ∧ k + (↑(E.needs z2) : Int) ≤ 5) (hyp (Nat.le z4 (ns 1).n) (leaf (Value.tuple (Array.mk [.slice (some (Addr.mk (ns 0).n 0 none)) z4 (ns 1).n, .int .i64 0]), [Blk.mk (ns 0).n (Sy.Cont.row 49 6 z4 (ns 1).n (insCells z3)) true]))))))))))
theorem tx_run (g o c : Nat) (l : List Nd) (k : Int) : Sy.Ran (Sy.inT Tryz.prog (ctxQ g o c l) 60 fTX (txArgs g o c l k) [⟨g, .seg o (ndCells l), false⟩] (Sy.rowT tI)) tx_o (tx_R g o c l k) := ⟨fun _ => by kernel_rfl, fun _ => by kernel_rfl⟩
def rtx_o : Sy.O := (steps [0, 0, 0, 0, 0, 0, 1, 1] (fork nil (steps [0, 0, 0, 0, 0, 0] (fork nil (steps [0, 0, 0, 0, 0, 0, 0] nil)))))
noncomputable def rtx_R (g o c : Nat) (l : List Nd) (k : Int) (ns : Nat → Sy.Let) : Sy.Res (Value × List Blk) :=
 let z0 := Ex.subQ' (Int.ofNat (List.length l)) 1
 let z1 := Ex.addQ 24 k
 let z2 := tr l (Int.toNat (Ex.wrapQ .i64 z0))
 let z3 := lay z2 (Ex.wrapQ .i64 z1)
 let z4 := List.length z3
 need (((0 : Int) ≤ 24 ∧ (24 : Int) ≤ 1000 ∧ goodN l) ∧ 0 < List.length l) (hyp True (br (bif bif !tru (isExpr 24 l) then true else Ex.ltQ k 0 then true else Ex.ltQ 4 k) (leaf (Value.tuple (Array.mk [.slice none 0 0, .int .i64 1]), [])) (need (nodesOk 24 l ∧ 0 < List.length l ∧ List.length l ≤ 65536 ∧ onceOk l) (hyp True (br (Ex.ltQ 5 (Ex.wrapQ .i64 (Ex.addQ k (↑(E.needs (tr l (List.length l - 1))) : Int)))) (leaf (Value.tuple (Array.mk [.slice none 0 0, .int .i64 30]), [])) (need ((isExpr 24 l ∧ goodN l) ∧ 0 ≤ Ex.wrapQ .i64 z0 ∧ Ex.wrapQ .i64 z0 < (↑(List.length l) : Int) ∧ Ex.wrapQ .i64 z0 < (↑(List.length l) : Int) ∧ 24 ≤ Ex.wrapQ .i64 z1 ∧ Ex.wrapQ .i64 z1 + (↑(E.needs z2) : Int) ≤ 29) (hyp (Nat.le z4 (ns 1).n) (leaf (Value.tuple (Array.mk [.slice (some (Addr.mk (ns 0).n 0 none)) z4 (ns 1).n, .int .i64 0]), [Blk.mk (ns 0).n (Sy.Cont.row 49 6 z4 (ns 1).n (insCells z3)) true])))))))))
theorem rtx_run (g o c : Nat) (l : List Nd) (k : Int) : Sy.Ran (Sy.inT Tryz.prog (ctxQ g o c l) 60 fRTX (rtxArgs g o c l k) [⟨g, .seg o (ndCells l), false⟩] (Sy.rowT tI)) rtx_o (rtx_R g o c l k) := ⟨fun _ => by kernel_rfl, fun _ => by kernel_rfl⟩
theorem leftE {l : List Nd} (h : lenOk l) : Ex.wrapQ .i64 (Ex.subQ' (l.length : Int) 1) = ((l.length - 1 : Nat) : Int) := dec_q l.length h.1.1 (by have := h.1.2; omega)
theorem ctxQ_holds (g o c : Nat) (l : List Nd) : (ctxQ g o c l).holds Tryz.prog := Sy.mkS_holds (fun p hp a L => by
 rcases List.mem_cons.1 hp with rfl | hp
 ·exact mayC_met _ _ _ _
 rcases List.mem_cons.1 hp with rfl | hp
 ·exact needsC_met _ _ _ _ _ _ _
 rcases List.mem_cons.1 hp with rfl | hp
 ·exact exprC_met _ _ _ _ _ _ _
 rcases List.mem_cons.1 hp with rfl | hp
 ·exact rxC_met _ _ _ _ _
 rcases List.mem_cons.1 hp with rfl | hp
 ·exact rnC_met _ _ _ _
 rcases List.mem_singleton.1 hp with rfl
 exact (rlay_met _ _ _ _ _).1 _ _) (fun _ h => (by cases h)) (fun _ h => (by cases h))
def regX (l : List Nd) (k : Int) : Prop := isExpr 24 l ∧ 0 ≤ k ∧ k < 5 ∧ 5 < k + (tr l (l.length - 1)).needs
def okX (l : List Nd) (k : Int) : Prop := isExpr 24 l ∧ 0 ≤ k ∧ k + (tr l (l.length - 1)).needs ≤ 5
def outL (l : List Nd) (k : Int) : List I := lay (tr l (l.length - 1)) (24 + k)
def xReg (f : FuncId) (args : Array Value) (g o : Nat) (l : List Nd) (k : Int) : Sy.CallC := ⟨f, args, lenOk l ∧ regX l k, ⟨[(g, .seg o (ndCells l))], [], 0, []⟩, [Sy.plainO (.tuple #[.slice none 0 0, .int .i64 30])]⟩
def xOk (f : FuncId) (args : Array Value) (g o : Nat) (l : List Nd) (k : Int) : Sy.CallC := ⟨f, args, lenOk l ∧ okX l k, ⟨[(g, .seg o (ndCells l))], [], 2, []⟩, [Sy.rowO tI 6 (outL l k).length (insCells (outL l k)) fun s => .tuple #[s, .int .i64 0]]⟩
theorem txReg_met (g o c : Nat) (l : List Nd) (k : Int) : Sy.Meets Tryz.prog (xReg fTX (txArgs g o c l k) g o l k) := by
 refine Sy.meets_of (ctxQ_holds g o c l) mixed (tx_run g o c l k) fun hok ns => ?_
 obtain ⟨hl, hb⟩ : lenOk l ∧ regX l k := hok
 have h0 := hl.1.1
 have hE := hb.1
 have hm := hE.2.2.1
 have hx := tr_small hE (i := l.length - 1) (by omega)
 have hn := (tr l (l.length - 1)).needs_le
 simp only [tx_R, Sy.Res.holds, Int.ofNat_eq_natCast, Sy.b_and, Sy.b_or, Sy.b_not, Sy.b_f, Sy.b_and', Sy.b_or', Sy.q_lt, Sy.q_le, Sy.q_eq, Sy.b_tt, Sy.b_ft, not_true_eq_false, not_false_eq_true, some_int, some_bool, exists_eq', true_and, tru_t, leftE hl, Int.toNat_natCast, false_or]
 refine ⟨hl.1, fun _ => ?_⟩
 obtain ⟨-, b0, b1, b2⟩ := hb
 refine ⟨fun h => absurd hE h, fun h => ⟨⟨hE, by omega, by omega, by omega⟩, fun _ => ⟨fun h => absurd h (by omega), fun h => ?_⟩⟩⟩
 rw [add_small (by omega) (by omega)]
 exact ⟨fun _ => Sy.plainO_leaf (List.mem_singleton_self _) rfl rfl, fun h => absurd b2 h⟩
theorem txOk_met (g o c : Nat) (l : List Nd) (k : Int) : Sy.Meets Tryz.prog (xOk fTX (txArgs g o c l k) g o l k) := by
 refine Sy.meets_of (ctxQ_holds g o c l) mixed (tx_run g o c l k) fun hok ns => ?_
 obtain ⟨hl, hb⟩ : lenOk l ∧ okX l k := hok
 have h0 := hl.1.1
 have hE := hb.1
 have hm := hE.2.2.1
 have hx := tr_small hE (i := l.length - 1) (by omega)
 have hn := (tr l (l.length - 1)).needs_le
 simp only [tx_R, Sy.Res.holds, Int.ofNat_eq_natCast, Sy.b_and, Sy.b_or, Sy.b_not, Sy.b_f, Sy.b_and', Sy.b_or', Sy.q_lt, Sy.q_le, Sy.q_eq, Sy.b_tt, Sy.b_ft, not_true_eq_false, not_false_eq_true, some_int, some_bool, exists_eq', true_and, tru_t, leftE hl, Int.toNat_natCast, false_or]
 refine ⟨hl.1, fun _ => ?_⟩
 obtain ⟨-, b0, b1⟩ := hb
 have hp := (tr l (l.length - 1)).needs_pos
 refine ⟨fun h => absurd hE h, fun h => ⟨⟨hE, by omega, by omega, by omega⟩, fun _ => ⟨fun h => absurd h (by omega), fun h => ?_⟩⟩⟩
 rw [add_small (by omega) (by omega)]
 exact ⟨fun h => absurd h (by omega), fun h => ⟨⟨⟨hE, hl.2⟩, by omega, by omega, by omega, b0, b1⟩, fun hc => Sy.rowO_leaf' (List.mem_singleton_self _) rfl 0 rfl rfl rfl rfl hc⟩⟩
theorem rtxReg_met (g o c : Nat) (l : List Nd) (k : Int) : Sy.Meets Tryz.prog (xReg fRTX (rtxArgs g o c l k) g o l k) := by
 refine Sy.meets_of (ctxQ_holds g o c l) mixed (rtx_run g o c l k) fun hok ns => ?_
 obtain ⟨hl, hb⟩ : lenOk l ∧ regX l k := hok
 have h0 := hl.1.1
 have hE := hb.1
 have hm := hE.2.2.1
 have hx := tr_small hE (i := l.length - 1) (by omega)
 have hn := (tr l (l.length - 1)).needs_le
 have hw : 0 ≤ k → k < 5 → Ex.wrapQ .i64 (Ex.addQ 24 k) = 24 + k := fun a b => add_small (by omega) (by omega)
 simp only [rtx_R, Sy.Res.holds, Int.ofNat_eq_natCast, Sy.b_and, Sy.b_or, Sy.b_not, Sy.b_f, Sy.b_and', Sy.b_or', Sy.q_lt, Sy.q_le, Sy.q_eq, Sy.b_tt, Sy.b_ft, not_true_eq_false, not_false_eq_true, some_int, some_bool, exists_eq', true_and, tru_t, leftE hl, Int.toNat_natCast, false_or]
 refine ⟨⟨⟨by omega, by omega, hl.2⟩, h0⟩, fun _ => ?_⟩
 obtain ⟨-, b0, b1, b2⟩ := hb
 refine ⟨fun h => absurd h fun h => h.elim (fun h => h.elim (fun h => h hE) (by omega)) (by omega), fun h => ⟨hE, fun _ => ?_⟩⟩
 rw [add_small (by omega) (by omega)]
 exact ⟨fun _ => Sy.plainO_leaf (List.mem_singleton_self _) rfl rfl, fun h => absurd b2 h⟩
theorem rtxOk_met (g o c : Nat) (l : List Nd) (k : Int) : Sy.Meets Tryz.prog (xOk fRTX (rtxArgs g o c l k) g o l k) := by
 refine Sy.meets_of (ctxQ_holds g o c l) mixed (rtx_run g o c l k) fun hok ns => ?_
 obtain ⟨hl, hb⟩ : lenOk l ∧ okX l k := hok
 have h0 := hl.1.1
 have hE := hb.1
 have hm := hE.2.2.1
 have hx := tr_small hE (i := l.length - 1) (by omega)
 have hn := (tr l (l.length - 1)).needs_le
 have hw : 0 ≤ k → k < 5 → Ex.wrapQ .i64 (Ex.addQ 24 k) = 24 + k := fun a b => add_small (by omega) (by omega)
 simp only [rtx_R, Sy.Res.holds, Int.ofNat_eq_natCast, Sy.b_and, Sy.b_or, Sy.b_not, Sy.b_f, Sy.b_and', Sy.b_or', Sy.q_lt, Sy.q_le, Sy.q_eq, Sy.b_tt, Sy.b_ft, not_true_eq_false, not_false_eq_true, some_int, some_bool, exists_eq', true_and, tru_t, leftE hl, Int.toNat_natCast, false_or]
 refine ⟨⟨⟨by omega, by omega, hl.2⟩, h0⟩, fun _ => ?_⟩
 obtain ⟨-, b0, b1⟩ := hb
 have hp := (tr l (l.length - 1)).needs_pos
 refine ⟨fun h => absurd h fun h => h.elim (fun h => h.elim (fun h => h hE) (by omega)) (by omega), fun h => ⟨hE, fun _ => ?_⟩⟩
 rw [add_small (by omega) (by omega), hw (by omega) (by omega)]
 exact ⟨fun h => absurd h (by omega), fun h => ⟨⟨⟨hE, hl.2⟩, by omega, by omega, by omega, by omega, by omega⟩, fun hc => Sy.rowO_leaf' (List.mem_singleton_self _) rfl 0 rfl rfl rfl rfl hc⟩⟩
open Go Go.RowKit
open Go.Proofs.YtlpcnaeknbmjdaaGreat.Sy (Let Blk)
abbrev fPow : FuncId := 39
def isPow (n : Int) : Prop := n = 1 ∨ n = 2 ∨ n = 4 ∨ n = 8 ∨ n = 16 ∨ n = 32 ∨ n = 64 ∨ n = 128 ∨ n = 256 ∨ n = 512 ∨ n = 1024
def pwC (n : Int) : Sy.CallC := ⟨fPow, #[.int .i64 n], True, ⟨[], [], 0, []⟩, [Sy.plainO (.bool (tru (isPow n)))]⟩
def pw_o : Sy.O := (steps [0] (fork nil (steps [0] (fork nil (steps [0] (fork nil (steps [0] (fork nil (steps [0] (fork nil (steps [0] (fork nil (steps [0] (fork nil (steps [0] (fork nil (steps [0] (fork nil (steps [0] (fork nil (steps [0] (fork nil (steps [0] nil)))))))))))))))))))))))
noncomputable def pw_R (n : Int) (ns : Nat → Sy.Let) : Sy.Res (Value × List Blk) :=
 let z0 := leaf (Value.bool true, [])
 br (Ex.eqQ 1 n) z0 (br (Ex.eqQ 2 n) z0 (br (Ex.eqQ 4 n) z0 (br (Ex.eqQ 8 n) z0 (br (Ex.eqQ 16 n) z0 (br (Ex.eqQ 32 n) z0 (br (Ex.eqQ 64 n) z0 (br (Ex.eqQ 128 n) z0 (br (Ex.eqQ 256 n) z0 (br (Ex.eqQ 512 n) z0 (br (Ex.eqQ 1024 n) z0 (leaf (Value.bool false, []))))))))))))
theorem pw_run (n : Int) : Sy.Ran (Sy.inT Tryz.prog Sy.S0 60 fPow (pwC n).args [] Sy.noB) pw_o (pw_R n) := ⟨fun _ => by kernel_rfl, fun _ => by kernel_rfl⟩
theorem pwC_met (n : Int) : Sy.Meets Tryz.prog (pwC n) := by
 refine Sy.meets_of Sy.S0_holds mixed (pw_run n) fun hok ns => ?_
 simp only [pw_R, Sy.Res.holds, Int.ofNat_eq_natCast, Sy.b_and, Sy.b_or, Sy.b_not, Sy.b_f, Sy.b_and', Sy.b_or', Sy.q_lt, Sy.q_le, Sy.q_eq, Sy.b_tt, Sy.b_ft, not_true_eq_false, not_false_eq_true]
 repeat' refine And.intro (fun h => ?_) (fun h => ?_)
 all_goals first
  | exact Sy.plainO_leaf (List.mem_singleton_self _) rfl (by rw [tru_pos (by unfold isPow; omega)])
  | exact Sy.plainO_leaf (List.mem_singleton_self _) rfl (by rw [tru_neg (by unfold isPow; omega)])
abbrev fAd : FuncId := 133
abbrev fRAd : FuncId := 108
def Sy.tW (k : Int) : Int := Ex.wrapQ .i64 (Ex.addQ 24 k)
def Sy.L1 (l : List Nd) (k : Int) : List I := lay (tr l (Int.toNat (Ex.wrapQ .i64 (Ex.subQ' (l.length : Int) 1)))) (Sy.tW k)
def Sy.L2 (s k : Int) : List I := numL (Ex.wrapQ .i64 (Ex.addQ (Sy.tW k) 1)) (Ex.wrapQ .u64 (Ex.wrapQ .i64 (Ex.subQ' s 1)))
def Sy.L3 (k : Int) : List Value := [.int .i64 5, .int .i64 (Sy.tW k), .int .i64 (Sy.tW k), .int .i64 (Ex.wrapQ .i64 (Ex.addQ (Sy.tW k) 1)), .int .i64 0, .int .i64 0, .int .i64 14, .int .i64 (Sy.tW k), .int .i64 (Sy.tW k), .int .i64 0, .int .i64 3, .int .i64 0]
def ctxI (s k : Int) (g o c : Nat) (l : List Nd) : Sy.Ctx := Sy.mkS [(fMay, fun _ _ => mayC g o c l), (fNeeds, fun a _ => needsC g o c l 24 l.length (Sy.argI a 1)), (fExpr, fun a _ => exprC g o c l l.length (Sy.argI a 1) (Sy.argI a 2)),
 (fRX, fun a _ => rxC g o c l (Sy.argI a 1)), (fRN, fun _ _ => rnC g o c l), (fLay, fun a _ => rlay0 g o c l l.length (Sy.argI a 2) (Sy.argI a 3)), (159, fun a _ => numC (Sy.argI a 0) (Sy.argI a 1)),
 (fRNum, fun a _ => rnum0 (Sy.argI a 1) (Sy.argI a 2)), (fRNum, fun a _ => rnumA (Sy.ptrN (Sy.argV a 0)) (Sy.L1 l k).length (Sy.capN (Sy.argV a 0)) (insCells (Sy.L1 l k)) (Sy.argI a 1) (Sy.argI a 2)), (fRNum, fun a _ => rnumA (Sy.ptrN (Sy.argV a 0)) ((Sy.L1 l k).length + (Sy.L2 s k).length + 2) (Sy.capN (Sy.argV a 0)) ((insCells (Sy.L1 l k) ++ insCells (Sy.L2 s k)) ++ Sy.L3 k) (Sy.argI a 1) (Sy.argI a 2)), (fPow, fun a _ => pwC (Sy.argI a 0))] [] []
def adArgs (g o c : Nat) (l : List Nd) (b s k : Int) : Array Value := #[.int .i64 b, .int .i64 s, .slice (some ⟨g, o, none⟩) l.length c, .int .i64 k]
def radArgs (g o c : Nat) (l : List Nd) (b s k : Int) : Array Value := #[.slice none 0 0, .int .i64 b, .int .i64 s, .slice (some ⟨g, o, none⟩) l.length c, .int .i64 k]
def adP_o : Sy.O := (steps [0, 0] (fork (steps [0, 0, 0, 0, 0, 0, 0, 0, 0, 0, 0, 0, 0, 0, 0, 0, 0, 0, 0, 0, 0, 0, 0, 0] nil) (steps [0, 0, 0, 0] (fork (steps [0, 0, 0, 0, 0, 0, 0, 0, 0, 0, 0, 0, 0, 0, 0, 0, 0, 0, 0] nil) (steps [0] (fork (steps [0, 0, 0, 0, 0, 0, 0, 0, 0, 0, 0, 0, 0, 0, 0, 0, 0] nil) (steps [0, 0, 0, 0] (fork (steps [0, 0, 0, 0, 0, 0, 0, 0, 0, 0, 0, 0] nil) (steps [0] (fork (steps [0, 0, 0, 0, 0, 0, 0, 0, 0, 0] nil) (steps [0] (fork (steps [0, 0, 0, 0, 0, 0, 0, 0] nil) (steps [0, 0, 0, 0, 0, 0, 0, 0, 0, 0, 0, 0, 0, 0, 0, 0, 0, 0, 0] (fork nil (steps [0, 0, 0, 0, 0, 0, 0, 1, 0, 0, 0, 0] (fork nil (steps [0, 0, 0, 0, 0, 0, 0, 0, 0, 0, 0, 0, 0, 0, 0, 0, 0, 0, 0, 5, 1, 1, 1, 1, 5, 0, 0, 0, 0, 0, 0, 0, 0, 2, 0, 0, 6, 1, 0, 0, 1, 1, 6, 0, 0, 0, 0, 0, 0, 0, 0, 0, 0, 3, 0, 0, 6, 0, 0, 0] (steps [1, 1, 6, 0, 0, 0, 0, 0, 0, 0, 0, 0, 0, 4, 0, 0, 6, 0, 0, 0, 1, 1, 6, 0, 0, 0, 0, 0, 0, 0, 0, 0, 0, 5, 0, 0, 8, 1, 0, 0, 1, 1, 8, 0, 0, 0, 0, 0, 0, 0, 0, 0, 0, 6, 0, 0, 7, 0, 0, 0] (steps [1, 1, 7, 0, 0, 0, 0, 0, 0, 0] nil)))))))))))))))))))
noncomputable def adP_R (g o c : Nat) (l : List Nd) (b k : Int) (p : Nat) (ns : Nat → Sy.Let) : Sy.Res (Value × List Blk) :=
 let z0 := Int.ofNat (Nat.succ p)
 let z1 := leaf (Value.tuple (Array.mk [.slice none 0 0, .int .i64 1]), [])
 let z2 := Ex.wrapQ .i64 (Ex.subQ' z0 1)
 let z3 := Ex.wrapQ .i64 (Ex.addQ 65536 (Ex.wrapQ .i64 (Ex.mulQ 8 b)))
 let z4 := numL 29 (Ex.wrapQ .u64 z3)
 let z5 := Ex.subQ' (Int.ofNat (List.length l)) 1
 let z6 := tr l (Int.toNat (Ex.wrapQ .i64 z5))
 let z7 := insCells z4
 let z8 := Sy.Cont.row 49 6 (List.length z4) (ns 1).n z7
 let z9 := lay z6 (24 + k)
 let z10 := Ex.wrapQ .i64 (Ex.addQ 24 k)
 let z11 := Ex.wrapQ .i64 (Ex.addQ z10 1)
 let z12 := numL z11 (Ex.wrapQ .u64 z2)
 let z13 := 0 + List.length z9
 let z14 := insCells z12
 let z15 := 0 + List.length z9 + List.length z12
 let z16 := 0 + List.length z9 + List.length z12 + 1
 let z17 := 0 + List.length z9 + List.length z12 + 1 + 1
 let z18 := 0 + List.length z9 + List.length z12 + 1 + 1 + List.length z4
 let z19 := 0 + List.length z9 + List.length z12 + 1 + 1 + List.length z4 + 1
 let z20 := [Value.int .i64 5, Value.int .i64 z10, Value.int .i64 z10, Value.int .i64 z11, Value.int .i64 0, Value.int .i64 0]
 let z21 := [Value.int .i64 14, Value.int .i64 z10, Value.int .i64 z10, Value.int .i64 0, Value.int .i64 3, Value.int .i64 0]
 let z22 := [Value.int .i64 3, Value.int .i64 29, Value.int .i64 29, Value.int .i64 z10, Value.int .i64 0, Value.int .i64 0]
 br (bif false then true else Ex.ltQ 1024 z0) z1 (br (bif false then true else !Ex.eqQ (Ex.andQ .i64 z0 z2) 0) z1 (br (bif false then true else Ex.ltQ b 0) z1 (br (bif false then true else Ex.ltQ (Ex.wrapQ .i64 (Ex.subQ' 4096 (bif Ex.ltQ 1 z0 then Int.ofNat (Nat.succ p) else 1))) b) z1 (br (bif false then true else Ex.ltQ k 0) z1 (br (bif false then true else Ex.leQ 5 k) z1 (need (0 < List.length l ∧ List.length l ≤ 4398046511104) (hyp True (br (bif false then true else bif true then !tru (isExpr 24 l) else false) z1 (need (0 ≤ Ex.wrapQ .u64 z3 ∧ Ex.wrapQ .u64 z3 < 18446744073709551616) (hyp (Nat.le (List.length z4) (ns 1).n) (need (isExpr 24 l ∧ 0 ≤ Ex.wrapQ .i64 z5 ∧ Ex.wrapQ .i64 z5 < (↑(List.length l) : Int) ∧ Ex.wrapQ .i64 z5 < (↑(List.length l) : Int)) (hyp True (br (Ex.ltQ 5 (Ex.wrapQ .i64 (Ex.addQ k (bif Ex.ltQ 2 (↑(E.needs z6) : Int) then (↑(E.needs z6) : Int) else 2)))) (leaf (Value.tuple (Array.mk [.slice none 0 0, .int .i64 30]), [Blk.mk (ns 0).n z8 true])) (need ((isExpr 24 l ∧ goodN l) ∧ 0 ≤ Ex.wrapQ .i64 z5 ∧ Ex.wrapQ .i64 z5 < (↑(List.length l) : Int) ∧ Ex.wrapQ .i64 z5 < (↑(List.length l) : Int) ∧ 0 ≤ k ∧ k + (↑(E.needs z6) : Int) ≤ 5) (hyp (Nat.le (List.length z9) (ns 3).n) (need (0 ≤ Ex.wrapQ .u64 z2 ∧ Ex.wrapQ .u64 z2 < 18446744073709551616) (hyp (Nat.le (List.length z12) (ns 5).n) (need ((0 : Nat) = 0 ∧ List.length (insCells z9) = List.length z9 * 6 ∧ ∀ (u : Value), u ∈ insCells z9 → Value.oneCell' u = true) (need (1 ≤ List.length z9) (need (0 +
 List.length z9 ≤ 9223372036854775807) (need (z13 * (48 : Nat) ≤ 140737488355328) (hyp (Nat.le z13 (ns 11).n) (need ((0 : Nat) = 0 ∧ List.length z14 = List.length z12 * 6 ∧ ∀ (u : Value), u ∈ insCells z12 → Value.oneCell' u = true) (need (0 + List.length z9 + List.length z12 ≤ 9223372036854775807) (need (z15 * (48 : Nat) ≤ 140737488355328) (hyp (Nat.le z15 (ns 13).n) (need (0 + List.length z9 + List.length z12 + (1 : Nat) ≤ 9223372036854775807) (need (z16 * (48 : Nat) ≤ 140737488355328) (hyp (Nat.le z16 (ns 15).n) (need (0 + List.length z9 + List.length z12 + 1 + (1 : Nat) ≤ 9223372036854775807) (need (z17 * (48 : Nat) ≤ 140737488355328) (hyp (Nat.le z17 (ns 17).n) (need ((0 : Nat) = 0 ∧ List.length z7 = List.length z4 * 6 ∧ ∀ (u : Value), u ∈ insCells z4 → Value.oneCell' u = true) (need (0 + List.length z9 + List.length z12 + 1 + 1 + List.length z4 ≤ 9223372036854775807) (need (z18 * (48 : Nat) ≤ 140737488355328) (hyp (Nat.le z18 (ns 19).n) (need (0 + List.length z9 + List.length z12 + 1 + 1 + List.length z4 + (1 : Nat) ≤ 9223372036854775807) (need (z19 * (48 : Nat) ≤ 140737488355328) (hyp (Nat.le z19 (ns 21).n) (leaf (Value.tuple (Array.mk [.slice (some (Addr.mk (ns 20).n 0 none)) z19 (ns 21).n, .int .i64 0]), [Blk.mk (ns 20).n (Sy.Cont.row 49 6 z19 (ns 21).n (List.append (List.append (List.append (List.append (List.append ([] ++ insCells z9) z14) z20) z21) z7) z22)) true, Blk.mk (ns 8).n (.obj (.cells (Array.mk z22) 49)) true, Blk.mk (ns 0).n z8 true, Blk.mk (ns 7).n (.obj
 (.cells (Array.mk z21) 49)) true, Blk.mk (ns 6).n (.obj (.cells (Array.mk z20) 49)) true, Blk.mk (ns 4).n (Sy.Cont.row 49 6 (List.length z12) (ns 5).n z14) true, Blk.mk (ns 2).n (Sy.Cont.row 49 6 (List.length z9) (ns 3).n (insCells z9)) true])))))))))))))))))))))))))))))))))))))))))
theorem adP_run (g o c : Nat) (l : List Nd) (b k : Int) (p : Nat) : Sy.Ran (Sy.inT Tryz.prog (ctxI (.ofNat (.succ p)) k g o c l) 60 fAd (adArgs g o c l b (.ofNat (.succ p)) k) [⟨g, .seg o (ndCells l), false⟩] (Sy.rowT tI)) adP_o (adP_R g o c l b k p) := ⟨fun _ => by kernel_rfl, fun _ => by kernel_rfl⟩
def radP_o : Sy.O := (steps [0] (fork (steps [0, 0, 0, 0, 0, 0] (fork (steps [0, 0, 0, 0, 0, 0, 0, 0, 0, 0, 0, 0, 0, 0, 0, 0, 0, 0] nil) (steps [0] (fork (steps [0, 0, 0, 0, 0, 0, 0, 0, 0, 0, 0, 0, 0, 0, 0, 0] nil) (steps [0, 0, 0] (fork (steps [0, 0, 0, 0, 0, 0, 0, 0, 0, 0, 0, 0] nil) (steps [0] (fork (steps [0, 0, 0, 0, 0, 0, 0, 0, 0, 0] nil) (steps [0] (fork (steps [0, 0, 0, 0, 0, 0, 0, 0] nil) (steps [0, 0, 0, 0, 0, 0, 0, 0, 0, 0, 0, 0, 0, 0, 0, 0, 0, 0, 0] (fork nil (steps [0, 0, 0, 0, 0, 0, 0] (fork (fork nil (steps [0, 0, 0, 0, 0, 0, 0, 1, 0, 0, 0, 0, 0, 0, 0, 0, 1, 0, 1, 1, 0, 0, 0, 0, 0, 0, 0, 2, 0, 0, 0, 0, 0, 0, 0, 0, 1, 0, 1, 1, 0, 0, 0, 0, 0, 0, 0] nil)) (fork nil (steps [0, 0, 0, 0, 0, 0, 0, 1, 0, 0, 0, 0, 0, 0, 0, 0, 1, 0, 1, 1, 0, 0, 0, 0, 0, 0, 0, 2, 0, 0, 0, 0, 0, 0, 0, 0, 1, 0, 1, 1, 0, 0, 0, 0, 0, 0, 0] nil)))))))))))))))) (steps [0, 0, 0, 0] (fork (steps [0, 0, 0, 0, 0, 0, 0, 0, 0, 0, 0, 0, 0, 0, 0, 0] nil) (steps [0, 0, 0] (fork (steps [0, 0, 0, 0, 0, 0, 0, 0, 0, 0, 0, 0] nil) (steps [0] (fork (steps [0, 0, 0, 0, 0, 0, 0, 0, 0, 0] nil) (steps [0] (fork (steps [0, 0, 0, 0, 0, 0, 0, 0] nil) (steps [0, 0, 0, 0, 0, 0, 0, 0, 0, 0, 0, 0, 0, 0, 0, 0, 0, 0, 0] (fork nil (steps [0, 0, 0, 0, 0, 0, 0] (fork (fork nil (steps [0, 0, 0, 0, 0, 0, 0, 1, 0, 0, 0, 0, 0, 0, 0, 0, 1, 0, 1, 1, 0, 0, 0, 0, 0, 0, 0, 2, 0, 0, 0, 0, 0, 0, 0, 0, 1, 0, 1, 1, 0, 0, 0, 0, 0, 0, 0] nil)) (fork nil (steps [0, 0, 0, 0, 0, 0, 0, 1, 0, 0, 0, 0, 0, 0, 0, 0, 1, 0, 1, 1, 0, 0, 0, 0, 0, 0, 0, 2, 0, 0, 0, 0, 0, 0, 0, 0, 1, 0, 1, 1, 0, 0, 0, 0, 0, 0, 0] nil))))))))))))))))
noncomputable def radP_R (g o c : Nat) (l : List Nd) (b k : Int) (p : Nat) (ns : Nat → Sy.Let) : Sy.Res (Value × List Blk) :=
 let z0 := Int.ofNat (Nat.succ p)
 let z1 := leaf (Value.tuple (Array.mk [.slice none 0 0, .int .i64 1]), [])
 let z2 := leaf (Value.tuple (Array.mk [.slice none 0 0, .int .i64 30]), [])
 let z3 := Ex.subQ' (Int.ofNat (List.length l)) 1
 let z4 := Ex.addQ 24 k
 let z5 := tr l (Int.toNat (Ex.wrapQ .i64 z3))
 let z6 := Ex.wrapQ .i64 z4
 let z7 := Ex.wrapQ .i64 (Ex.subQ' z0 1)
 let z8 := Ex.wrapQ .u64 z7
 let z9 := lay (tr l (Int.toNat (Ex.wrapQ .i64 (Ex.subQ' (↑(List.length l) : Int) 1)))) z6
 let z10 := Ex.wrapQ .i64 (Ex.addQ z6 1)
 let z11 := numL z10 z8
 let z12 := List.length z9 + List.length z11 + 2
 let z13 := Ex.wrapQ .u64 (Ex.wrapQ .i64 (Ex.addQ 65536 (Ex.wrapQ .i64 (Ex.mulQ 8 b))))
 let z14 := I.mk 1 z10 0 0 (Ex.wrapQ .u64 z7 % 65536) 0 :: List.append (movk z10 (Ex.wrapQ .u64 z7 / 65536 % 65536) 1) (List.append (movk z10 (Ex.wrapQ .u64 z7 / 4294967296 % 65536) 2) (movk z10 (Ex.wrapQ .u64 z7 / 281474976710656 % 65536) 3))
 let z15 := numL 29 z13
 let z16 := List.length z9 + List.length z14 + 2 + List.length z15 + 1
 let z17 := [Value.int .i64 5, Value.int .i64 z6, Value.int .i64 z6, Value.int .i64 z10, Value.int .i64 0, Value.int .i64 0, Value.int .i64 14, Value.int .i64 z6, Value.int .i64 z6, Value.int .i64 0, Value.int .i64 3, Value.int .i64 0]
 let z18 := [Value.int .i64 3, Value.int .i64 29, Value.int .i64 29, Value.int .i64 z6, Value.int .i64 0, Value.int .i64 0]
 let z19 := need ((isExpr 24 l ∧ goodN l) ∧ 0 ≤ Ex.wrapQ .i64 z3 ∧ Ex.wrapQ .i64 z3 < (↑(List.length l) : Int) ∧ Ex.wrapQ .i64 z3 < (↑(List.length l) : Int) ∧ 24 ≤ Ex.wrapQ .i64 z4 ∧ Ex.wrapQ .i64 z4 + (↑(E.needs z5) : Int) ≤ 29) (hyp (Nat.le (List.length (lay z5 z6)) (ns 1).n) (need (goodU z8 ∧ List.length z9 ≤ 1000000) (hyp (Nat.le (List.length z9 + List.length z11) (ns 3).n) (need (List.length z9 + List.length z11 + (2 : Nat) ≤ 9223372036854775807) (need (z12 * (48 : Nat) ≤ 140737488355328) (hyp (Nat.le z12 (ns 6).n) (need (goodU z13 ∧ List.length z9 + List.length z14 + (2 : Nat) ≤ 1000000) (hyp (Nat.le (List.length z9 + List.length z14 + 2 + List.length z15) (ns 8).n) (need (List.length z9 + List.length z14 + 2 + List.length z15 + (1 : Nat) ≤ 9223372036854775807) (need (z16 * (48 : Nat) ≤ 140737488355328) (hyp (Nat.le z16 (ns 11).n) (leaf (Value.tuple (Array.mk [.slice (some (Addr.mk (ns 10).n 0 none)) z16 (ns 11).n, .int .i64 0]), [Blk.mk (ns 10).n (Sy.Cont.row 49 6 z16 (ns 11).n (List.append (List.append (List.append (List.append (insCells z9) (insCells z14)) z17) (insCells z15)) z18)) true, Blk.mk (ns 9).n (.obj (.cells (Array.mk z18) 49)) true, Blk.mk (ns 4).n (.obj (.cells (Array.mk z17) 49)) true])))))))))))))
 let z20 := br (bif false then true else Ex.ltQ b 0) z1 (br (bif false then true else Ex.ltQ (Ex.wrapQ .i64 (Ex.subQ' 4096 z0)) b) z1 (br (bif false then true else Ex.ltQ k 0) z1 (br (bif false then true else Ex.ltQ 4 k) z1 (need (((0 : Int) ≤ 24 ∧ (24 : Int) ≤ 1000 ∧ goodN l) ∧ 0 < List.length l) (hyp True (br (bif false then true else bif true then !tru (isExpr 24 l) else false) z1 (need (nodesOk 24 l ∧ 0 < List.length l ∧ List.length l ≤ 65536 ∧ onceOk l) (hyp True (br (Ex.ltQ (↑(E.needs (tr l (List.length l - 1))) : Int) 2) (br (Ex.ltQ 5 (Ex.wrapQ .i64 (Ex.addQ k 2))) z2 z19) (br (Ex.ltQ 5 (Ex.wrapQ .i64 (Ex.addQ k (↑(E.needs (tr l (List.length l - 1))) : Int)))) z2 z19))))))))))
 br (!Ex.eqQ z0 1) (need True (hyp True (br (bif true then !tru (isPow z0) else false) z1 z20))) z20
theorem radP_run (g o c : Nat) (l : List Nd) (b k : Int) (p : Nat) : Sy.Ran (Sy.inT Tryz.prog (ctxI (.ofNat (.succ p)) k g o c l) 60 fRAd (radArgs g o c l b (.ofNat (.succ p)) k) [⟨g, .seg o (ndCells l), false⟩] (Sy.rowT tI)) radP_o (radP_R g o c l b k p) := ⟨fun _ => by kernel_rfl, fun _ => by kernel_rfl⟩
open Go Go.RowKit
open Go.Proofs.YtlpcnaeknbmjdaaGreat.Sy (Let Blk)
instance (n : Int) : Decidable (isPow n) := by unfold isPow; infer_instance
theorem pow_tab : ∀ n : Nat, n < 1025 → 0 < n → (Ex.andQ .i64 (n : Int) (Ex.wrapQ .i64 (Ex.subQ' (n : Int) 1)) = 0 ↔ isPow n) := by decide +kernel
theorem pow_iff {s : Int} (h0 : 0 < s) (h1 : s ≤ 1024) : Ex.andQ .i64 s (Ex.wrapQ .i64 (Ex.subQ' s 1)) = 0 ↔ isPow s := by
 obtain ⟨n, rfl⟩ : ∃ n : Nat, s = n := ⟨s.toNat, by omega⟩
 exact pow_tab n (by omega) (by omega)
theorem isPow.bound {s : Int} (h : isPow s) : 1 ≤ s ∧ s ≤ 1024 := by unfold isPow at h; omega
def geoOk (b s : Int) (l : List Nd) (k : Int) : Prop := (isPow s ∧ 0 ≤ b ∧ b ≤ 4096 - s) ∧ (0 ≤ k ∧ k < 5) ∧ isExpr 24 l
def need2 (l : List Nd) : Int := if (tr l (l.length - 1)).needs < 2 then 2 else ((tr l (l.length - 1)).needs : Int)
def aReg (b s : Int) (l : List Nd) (k : Int) : Prop := geoOk b s l k ∧ 5 < k + need2 l
def aOk (b s : Int) (l : List Nd) (k : Int) : Prop := geoOk b s l k ∧ k + need2 l ≤ 5
def addrL (b s : Int) (l : List Nd) (k : Int) : List I :=
 lay (tr l (l.length - 1)) (24 + k) ++ (numL (24 + k + 1) (s - 1) ++ (⟨5, 24 + k, 24 + k, 24 + k + 1, 0, 0⟩ :: ⟨14, 24 + k, 24 + k, 0, 3, 0⟩ :: (numL 29 (65536 + 8 * b) ++ [⟨3, 29, 29, 24 + k, 0, 0⟩])))
def adReg (f : FuncId) (args : Array Value) (g o : Nat) (l : List Nd) (b s k : Int) : Sy.CallC := ⟨f, args, lenOk l ∧ aReg b s l k, ⟨[(g, .seg o (ndCells l))], [], 0, []⟩, [Sy.plainO (.tuple #[.slice none 0 0, .int .i64 30])]⟩
def adOk (f : FuncId) (args : Array Value) (g o : Nat) (l : List Nd) (b s k : Int) : Sy.CallC := ⟨f, args, lenOk l ∧ aOk b s l k, ⟨[(g, .seg o (ndCells l))], [], 2, []⟩, [Sy.rowO tI 6 (addrL b s l k).length (insCells (addrL b s l k)) fun v => .tuple #[v, .int .i64 0]]⟩
theorem wU {a : Int} (h0 : 0 ≤ a) (h1 : a < 1000000) : Ex.wrapQ .u64 a = a := wrapU h0 (by omega)
theorem place_q {b : Int} (h0 : 0 ≤ b) (h1 : b ≤ 4096) : Ex.wrapQ .u64 (Ex.wrapQ .i64 (Ex.addQ 65536 (Ex.wrapQ .i64 (Ex.mulQ 8 b)))) = 65536 + 8 * b := by
 have e : Ex.wrapQ .i64 (Ex.mulQ 8 b) = 8 * b := by rw [Ex.mulQ_eq]; exact wrap_small (by omega) (by omega)
 rw [e, add_small (by omega) (by omega), wU (by omega) (by omega)]
theorem sub_small {a b : Int} (h0 : 0 ≤ a - b) (h1 : a - b < 1000000) : Ex.wrapQ .i64 (Ex.subQ' a b) = a - b := by
 rw [Ex.wrapQ_eq, Ex.subQ_eq]
 simp [IntKind.wrap, IntKind.signed, IntKind.bits]
 omega
theorem low_q {s : Int} (h0 : 1 ≤ s) (h1 : s ≤ 1024) : Ex.wrapQ .u64 (Ex.wrapQ .i64 (Ex.subQ' s 1)) = s - 1 := by
 rw [sub_small (by omega) (by omega), wU (by omega) (by omega)]
theorem need2_pos (l : List Nd) : 2 ≤ need2 l ∧ ((tr l (l.length - 1)).needs : Int) ≤ need2 l := by unfold need2; split <;> omega
theorem max1 {s : Int} (h : 1 ≤ s) : (bif Ex.ltQ 1 s then s else 1) = s := by
 cases hc : Ex.ltQ 1 s
 ·have := (Sy.b_f (b := Ex.ltQ 1 s)).symm ▸ hc
  rw [Ex.ltQ_eq] at hc
  simp at hc
  simp
  omega
 ·rfl
theorem numE (r v : Int) : (I.mk 1 r 0 0 (v % 65536) 0 :: (movk r (v / 65536 % 65536) 1 ++ (movk r (v / 4294967296 % 65536) 2 ++ movk r (v / 281474976710656 % 65536) 3))) = numL r v := rfl
theorem ctxI_holds (s k : Int) (g o c : Nat) (l : List Nd) : (ctxI s k g o c l).holds Tryz.prog := Sy.mkS_holds (fun p hp a L => by
 rcases List.mem_cons.1 hp with rfl | hp
 ·exact mayC_met _ _ _ _
 rcases List.mem_cons.1 hp with rfl | hp
 ·exact needsC_met _ _ _ _ _ _ _
 rcases List.mem_cons.1 hp with rfl | hp
 ·exact exprC_met _ _ _ _ _ _ _
 rcases List.mem_cons.1 hp with rfl | hp
 ·exact rxC_met _ _ _ _ _
 rcases List.mem_cons.1 hp with rfl | hp
 ·exact rnC_met _ _ _ _
 rcases List.mem_cons.1 hp with rfl | hp
 ·exact (rlay_met _ _ _ _ _).1 _ _
 rcases List.mem_cons.1 hp with rfl | hp
 ·exact numC_met _ _
 rcases List.mem_cons.1 hp with rfl | hp
 ·exact rnum0_met _ _
 rcases List.mem_cons.1 hp with rfl | hp
 ·exact rnumA_met _ _ _ _ _ _
 rcases List.mem_cons.1 hp with rfl | hp
 ·exact rnumA_met _ _ _ _ _ _
 rcases List.mem_singleton.1 hp with rfl
 exact pwC_met _) (fun _ h => (by cases h)) (fun _ h => (by cases h))
theorem max2 (l : List Nd) : (bif Ex.ltQ 2 ((tr l (l.length - 1)).needs : Int) then ((tr l (l.length - 1)).needs : Int) else 2) = need2 l := by
 unfold need2
 generalize ((tr l (l.length - 1)).needs) = n
 cases hc : Ex.ltQ 2 (n : Int)
 ·rw [Ex.ltQ_eq] at hc
  simp at hc
  simp
  omega
 ·rw [Ex.ltQ_eq] at hc
  simp at hc
  simp
  omega
theorem adP_reg (g o c : Nat) (l : List Nd) (b k : Int) (p : Nat) : Sy.Meets Tryz.prog (adReg fAd (adArgs g o c l b (.ofNat (.succ p)) k) g o l b (.ofNat (.succ p)) k) := by
 refine Sy.meets_of (ctxI_holds _ _ _ _ _ _) mixed (adP_run g o c l b k p) fun hok ns => ?_
 obtain ⟨hl, ⟨⟨hq, hb0, hb1⟩, hk, hE⟩, hr⟩ : lenOk l ∧ aReg b (.ofNat (.succ p)) l k := hok
 have hp : (0 : Int) < .ofNat (.succ p) := by show (0 : Int) < ((p + 1 : Nat) : Int); omega
 simp only [adP_R]
 generalize Int.ofNat (Nat.succ p) = s at *
 have hs := hq.bound
 have h0 := hl.1.1
 have hm := hE.2.2.1
 have hx := tr_small hE (i := l.length - 1) (by omega)
 have hn := (tr l (l.length - 1)).needs_le
 have h2 : need2 l ≤ 65536 := by unfold need2; split <;> omega
 have h3 := need2_pos l
 have leaf : ∀ L, Sy.leafC (adReg fAd (adArgs g o c l b s k) g o l b s k) (.tuple #[.slice none 0 0, .int .i64 30], L) := fun L => Sy.plainO_leaf (List.mem_singleton_self _) rfl rfl
 simp only [Sy.Res.holds, Int.ofNat_eq_natCast, Sy.b_and, Sy.b_or, Sy.b_not, Sy.b_f, Sy.b_and', Sy.b_or', Sy.q_lt, Sy.q_le, Sy.q_eq, Sy.b_tt, Sy.b_ft, not_true_eq_false, not_false_eq_true, some_int, some_bool, exists_eq', true_and, tru_t, leftE hl, Int.toNat_natCast, false_or, max1 (show 1 ≤ s by omega), max2, place_q hb0 (show b ≤ 4096 by omega), low_q hs.1 hs.2, sub_small (a := 4096) (b := s) (by omega) (by omega), (pow_iff hp hs.2).2 hq, add_small (a := k) (b := need2 l) (by omega) (by omega)]
 refine ⟨fun h => absurd h (by omega), fun _ => ⟨fun h => h.elim, fun _ => ⟨fun h => absurd h (by omega), fun _ => ⟨fun h => absurd h (by omega), fun _ => ⟨fun h => absurd h (by omega), fun _ => ⟨fun h => absurd h (by omega), fun _ => ⟨hl.1, fun _ => ⟨fun h => absurd hE h, fun _ => ?_⟩⟩⟩⟩⟩⟩⟩⟩
 refine ⟨by omega, fun _ => ⟨⟨hE, by omega, by omega, by omega⟩, fun _ => ⟨fun _ => leaf _, fun h => absurd hr h⟩⟩⟩
theorem adP_ok (g o c : Nat) (l : List Nd) (b k : Int) (p : Nat) : Sy.Meets Tryz.prog (adOk fAd (adArgs g o c l b (.ofNat (.succ p)) k) g o l b (.ofNat (.succ p)) k) := by
 refine Sy.meets_of (ctxI_holds _ _ _ _ _ _) mixed (adP_run g o c l b k p) fun hok ns => ?_
 obtain ⟨hl, ⟨⟨hq, hb0, hb1⟩, hk, hE⟩, hr⟩ : lenOk l ∧ aOk b (.ofNat (.succ p)) l k := hok
 have hp : (0 : Int) < .ofNat (.succ p) := by show (0 : Int) < ((p + 1 : Nat) : Int); omega
 simp only [adP_R]
 generalize Int.ofNat (Nat.succ p) = s at *
 have hs := hq.bound
 have h0 := hl.1.1
 have hm := hE.2.2.1
 have h3 := need2_pos l
 have hf := lay_fits hE (i := l.length - 1) (by omega) (24 + k)
 have hn1 := numL_le (24 + k + 1) (s - 1)
 have hn2 := numL_le 29 (65536 + 8 * b)
 have hq1 := numL_pos (24 + k + 1) (s - 1)
 have hq2 := numL_pos 29 (65536 + 8 * b)
 have hnp := (tr l (l.length - 1)).needs_pos
 have hlen : (addrL b s l k).length = (lay (tr l (l.length - 1)) (24 + k)).length + ((numL (24 + k + 1) (s - 1)).length + ((numL 29 (65536 + 8 * b)).length + 3)) := by
  simp only [addrL, List.length_append, List.length_cons, List.length_nil]
 have hcs : insCells (addrL b s l k) = insCells (lay (tr l (l.length - 1)) (24 + k)) ++ (insCells (numL (24 + k + 1) (s - 1)) ++ ((I.mk 5 (24 + k) (24 + k) (24 + k + 1) 0 0).cells ++ ((I.mk 14 (24 + k) (24 + k) 0 3 0).cells ++ (insCells (numL 29 (65536 + 8 * b)) ++ (I.mk 3 29 29 (24 + k) 0 0).cells)))) := by
  simp [addrL, insCells]
 simp only [Sy.Res.holds, Int.ofNat_eq_natCast, Sy.b_and, Sy.b_or, Sy.b_not, Sy.b_f, Sy.b_and', Sy.b_or', Sy.q_lt, Sy.q_le, Sy.q_eq, Sy.b_tt, Sy.b_ft, not_true_eq_false, not_false_eq_true, some_int, some_bool, exists_eq', true_and, tru_t, leftE hl, Int.toNat_natCast, false_or, max1 (show 1 ≤ s by omega), max2, place_q hb0 (show b ≤ 4096 by omega), low_q hs.1 hs.2, sub_small (a := 4096) (b := s) (by omega) (by omega), (pow_iff hp hs.2).2 hq, add_small (a := k) (b := need2 l) (by omega) (by omega), add_small (a := 24) (b := k) (by omega) (by omega), add_small (a := 24 + k) (b := 1) (by omega) (by omega)]
 refine ⟨fun h => absurd h (by omega), fun _ => ⟨fun h => h.elim, fun _ => ⟨fun h => absurd h (by omega), fun _ => ⟨fun h => absurd h (by omega), fun _ => ⟨fun h => absurd h (by omega), fun _ => ⟨fun h => absurd h (by omega), fun _ => ⟨hl.1, fun _ => ⟨fun h => absurd hE h, fun _ => ?_⟩⟩⟩⟩⟩⟩⟩⟩
 refine ⟨by omega, fun _ => ⟨⟨hE, by omega, by omega, by omega⟩, fun _ => ⟨fun h => absurd h (by omega), fun _ => ?_⟩⟩⟩
 generalize lay (tr l (l.length - 1)) (24 + k) = A at *
 generalize numL (24 + k + 1) (s - 1) = B at *
 generalize numL 29 (65536 + 8 * b) = C at *
 have hA := insC_len A
 have hB := insC_len B
 have hC := insC_len C
 refine ⟨⟨⟨hE, hl.2⟩, by omega, by omega, by omega, by omega, by omega⟩, fun _ => ⟨by omega, fun _ => ⟨⟨hA, insC_one _⟩, by omega, by omega, by omega, fun _ => ⟨⟨hB, insC_one _⟩, by omega, by omega, fun _ => ⟨by omega, by omega, fun _ => ⟨by omega, by omega, fun _ => ⟨⟨hC, insC_one _⟩, by omega, by omega, fun _ => ⟨by omega, by omega, fun hc => ?_⟩⟩⟩⟩⟩⟩⟩⟩
 refine Sy.rowO_leaf' (List.mem_singleton_self _) rfl 0 rfl rfl ?_ ?_ hc
 ·rw [hlen]; omega
 ·rw [hcs]; simp [I.cells]
theorem radP_reg (g o c : Nat) (l : List Nd) (b k : Int) (p : Nat) : Sy.Meets Tryz.prog (adReg fRAd (radArgs g o c l b (.ofNat (.succ p)) k) g o l b (.ofNat (.succ p)) k) := by
 refine Sy.meets_of (ctxI_holds _ _ _ _ _ _) mixed (radP_run g o c l b k p) fun hok ns => ?_
 obtain ⟨hl, ⟨⟨hq, hb0, hb1⟩, hk, hE⟩, hr⟩ : lenOk l ∧ aReg b (.ofNat (.succ p)) l k := hok
 have hp : (0 : Int) < .ofNat (.succ p) := by show (0 : Int) < ((p + 1 : Nat) : Int); omega
 simp only [radP_R]
 generalize Int.ofNat (Nat.succ p) = s at *
 have hs := hq.bound
 have h0 := hl.1.1
 have hm := hE.2.2.1
 have hx := tr_small hE (i := l.length - 1) (by omega)
 have hn := (tr l (l.length - 1)).needs_le
 have h2 : need2 l ≤ 65536 := by unfold need2; split <;> omega
 have h3 := need2_pos l
 have leaf : ∀ L, Sy.leafC (adReg fRAd (radArgs g o c l b s k) g o l b s k) (.tuple #[.slice none 0 0, .int .i64 30], L) := fun L => Sy.plainO_leaf (List.mem_singleton_self _) rfl rfl
 simp only [Sy.Res.holds, Int.ofNat_eq_natCast, Sy.b_and, Sy.b_or, Sy.b_not, Sy.b_f, Sy.b_and', Sy.b_or', Sy.q_lt, Sy.q_le, Sy.q_eq, Sy.b_tt, Sy.b_ft, not_true_eq_false, not_false_eq_true, some_int, some_bool, exists_eq', true_and, tru_t, leftE hl, Int.toNat_natCast, false_or, sub_small (a := 4096) (b := s) (by omega) (by omega), add_small (a := k) (b := 2) (by omega) (by omega), add_small (a := k) (b := ((tr l (l.length - 1)).needs : Int)) (by omega) (by omega)]
 refine ⟨fun _ => fun _ => ⟨fun h => absurd hq h, fun _ => ⟨fun h => absurd h (by omega), fun _ => ⟨fun h => absurd h (by omega), fun _ => ⟨fun h => absurd h (by omega), fun _ => ⟨fun h => absurd h (by omega), fun _ => ⟨⟨⟨by omega, by omega, hl.2⟩, h0⟩, fun _ => ⟨fun h => absurd hE h, fun _ => ⟨hE, fun _ => ⟨fun u => ⟨fun _ => leaf _, fun h => absurd h (by unfold need2 at hr; rw [if_pos (by omega)] at hr; omega)⟩, fun u => ⟨fun _ => leaf _, fun h => absurd h (by unfold need2 at hr; rw [if_neg (by omega)] at hr; omega)⟩⟩⟩⟩⟩⟩⟩⟩⟩⟩, fun _ => ⟨fun h => absurd h (by omega), fun _ => ⟨fun h => absurd h (by omega), fun _ => ⟨fun h => absurd h (by omega), fun _ => ⟨fun h => absurd h (by omega), fun _ => ⟨⟨⟨by omega, by omega, hl.2⟩, h0⟩, fun _ => ⟨fun h => absurd hE h, fun _ => ⟨hE, fun _ => ⟨fun u => ⟨fun _ => leaf _, fun h => absurd h (by unfold need2 at hr; rw [if_pos (by omega)] at hr; omega)⟩, fun u => ⟨fun _ => leaf _, fun h => absurd h (by unfold need2 at hr; rw [if_neg (by omega)] at hr; omega)⟩⟩⟩⟩⟩⟩⟩⟩⟩⟩
theorem radP_ok (g o c : Nat) (l : List Nd) (b k : Int) (p : Nat) : Sy.Meets Tryz.prog (adOk fRAd (radArgs g o c l b (.ofNat (.succ p)) k) g o l b (.ofNat (.succ p)) k) := by
 refine Sy.meets_of (ctxI_holds _ _ _ _ _ _) mixed (radP_run g o c l b k p) fun hok ns => ?_
 obtain ⟨hl, ⟨⟨hq, hb0, hb1⟩, hk, hE⟩, hr⟩ : lenOk l ∧ aOk b (.ofNat (.succ p)) l k := hok
 have hp : (0 : Int) < .ofNat (.succ p) := by show (0 : Int) < ((p + 1 : Nat) : Int); omega
 simp only [radP_R]
 generalize Int.ofNat (Nat.succ p) = s at *
 have hs := hq.bound
 have h0 := hl.1.1
 have hm := hE.2.2.1
 have h3 := need2_pos l
 have hx := tr_small hE (i := l.length - 1) (by omega)
 have hn := (tr l (l.length - 1)).needs_le
 have hf := lay_fits hE (i := l.length - 1) (by omega) (24 + k)
 have hn1 := numL_le (24 + k + 1) (s - 1)
 have hn2 := numL_le 29 (65536 + 8 * b)
 have hq1 := numL_pos (24 + k + 1) (s - 1)
 have hq2 := numL_pos 29 (65536 + 8 * b)
 have hnp := (tr l (l.length - 1)).needs_pos
 have hlen : (addrL b s l k).length = (lay (tr l (l.length - 1)) (24 + k)).length + ((numL (24 + k + 1) (s - 1)).length + ((numL 29 (65536 + 8 * b)).length + 3)) := by
  simp only [addrL, List.length_append, List.length_cons, List.length_nil]
 have hcs : insCells (addrL b s l k) = insCells (lay (tr l (l.length - 1)) (24 + k)) ++ (insCells (numL (24 + k + 1) (s - 1)) ++ ((I.mk 5 (24 + k) (24 + k) (24 + k + 1) 0 0).cells ++ ((I.mk 14 (24 + k) (24 + k) 0 3 0).cells ++ (insCells (numL 29 (65536 + 8 * b)) ++ (I.mk 3 29 29 (24 + k) 0 0).cells)))) := by
  simp [addrL, insCells]
 have hgo1 : goodU (s - 1) := by unfold goodU; omega
 have hgo2 : goodU (65536 + 8 * b) := by unfold goodU; omega
 simp only [Sy.Res.holds, Int.ofNat_eq_natCast, Sy.b_and, Sy.b_or, Sy.b_not, Sy.b_f, Sy.b_and', Sy.b_or', Sy.q_lt, Sy.q_le, Sy.q_eq, Sy.b_tt, Sy.b_ft, not_true_eq_false, not_false_eq_true, some_int, some_bool, exists_eq', true_and, tru_t, leftE hl, Int.toNat_natCast, false_or, sub_small (a := 4096) (b := s) (by omega) (by omega), add_small (a := k) (b := 2) (by omega) (by omega), add_small (a := k) (b := ((tr l (l.length - 1)).needs : Int)) (by omega) (by omega), place_q hb0 (show b ≤ 4096 by omega), low_q hs.1 hs.2, add_small (a := 24) (b := k) (by omega) (by omega), add_small (a := 24 + k) (b := 1) (by omega) (by omega)]
 refine ⟨fun _ => fun _ => ⟨fun h => absurd hq h, fun _ => ⟨fun h => absurd h (by omega), fun _ => ⟨fun h => absurd h (by omega), fun _ => ⟨fun h => absurd h (by omega), fun _ => ⟨fun h => absurd h (by omega), fun _ => ⟨⟨⟨by omega, by omega, hl.2⟩, h0⟩, fun _ => ⟨fun h => absurd hE h, fun _ => ⟨hE, fun _ => ⟨fun u => ⟨fun h => absurd h (by omega), fun _ => ?_⟩, fun u => ⟨fun h => absurd h (by omega), fun _ => ?_⟩⟩⟩⟩⟩⟩⟩⟩⟩⟩, fun _ => ⟨fun h => absurd h (by omega), fun _ => ⟨fun h => absurd h (by omega), fun _ => ⟨fun h => absurd h (by omega), fun _ => ⟨fun h => absurd h (by omega), fun _ => ⟨⟨⟨by omega, by omega, hl.2⟩, h0⟩, fun _ => ⟨fun h => absurd hE h, fun _ => ⟨hE, fun _ => ⟨fun u => ⟨fun h => absurd h (by omega), fun _ => ?_⟩, fun u => ⟨fun h => absurd h (by omega), fun _ => ?_⟩⟩⟩⟩⟩⟩⟩⟩⟩⟩
 all_goals
  try simp only [List.append_eq, numE]
  generalize lay (tr l (l.length - 1)) (24 + k) = A at *
  generalize numL (24 + k + 1) (s - 1) = B at *
  generalize numL 29 (65536 + 8 * b) = C at *
  refine ⟨⟨⟨hE, hl.2⟩, by omega, by omega, by omega, by omega, by omega⟩, fun _ => ⟨⟨hgo1, by omega⟩, fun _ => ⟨by omega, by omega, fun _ => ⟨⟨hgo2, by omega⟩, fun _ => ⟨by omega, by omega, fun hc => ?_⟩⟩⟩⟩⟩
  refine Sy.rowO_leaf' (List.mem_singleton_self _) rfl 0 rfl rfl ?_ ?_ hc
  ·rw [hlen]; omega
  ·rw [hcs]; simp [I.cells]
end Go.Proofs.YtlpcnaeknbmjdaaGreat.Lw
namespace Go.Proofs.YtlpcnaeknbmjdaaGreat.Sy
open Go Go.RowKit
open Ev (calm one)
variable {α : Type}
abbrev OpF (α : Type) := Option G → F → List Blk → (Option G → F → List Blk → T α) → T α
structure OpB (α : Type) where
 f : CallE α → OpF α
def OpB.run (b : OpB α) : CallE α → OpF α := @OpB.rec α (fun _ => CallE α → OpF α) (fun f => f) b
structure CodeB (α : Type) where
 f : CallE α → Nat → PieceE α
def CodeB.run (b : CodeB α) : CallE α → Nat → PieceE α := @CodeB.rec α (fun _ => CallE α → Nat → PieceE α) (fun f => f) b
section ops
variable (P : Program) (S : Ctx) (fn : FuncId) (ops : Array Oper)
def genB (i : Nat) : OpB α := ⟨fun call g a L c => evAtG P S fn call ops i g a L c⟩
def elseF (o : Oper) (call : CallE α) (a : F) (L : List Blk) (c : Option G → F → List Blk → T α) : T α := doOp P call o a L (c none)
def argsE (a : F) : List Operand → List Value
 | [] => []
 | x :: r => a.eval x :: argsE a r
def callB (d : Option Nat) (f : FuncId) (args : List Operand) : OpB α := ⟨fun call _ a L c => call f (Array.mk (argsE a args)) L fun v L' => c none (a.put d v) L'⟩
def valOpB (o : Oper) (d : Nat) : OpB α := ⟨fun call _ a L c => (valB P o).run a L (fun v => c none (a.put (some d) v) L) (elseF P o call a L c)⟩
def storeK (L : List Blk) (b off : Nat) (u : Value) (a : F) (c : Option G → F → List Blk → T α) : T α := pickT L b fun p j => reqP (one u) (one u = true) (putT L p j ⟨b, off, none⟩ u fun L' => c none (a.put none undef) L')
def storeF (o : Oper) (call : CallE α) (v u : Value) (a : F) (L : List Blk) (c : Option G → F → List Blk → T α) : T α := match v with
 | .pointer (some ⟨b, off, none⟩) => match u with
   | .agg _ => elseF P o call a L c
   | .tuple _ => elseF P o call a L c
   | u => storeK L b off u a c
 | _ => elseF P o call a L c
def storeB (o : Oper) (x v : Operand) : OpB α := ⟨fun call _ a L c => storeF P o call (a.eval x) (a.eval v) a L c⟩
def allocB (d t : Nat) (z : Value) : OpB α := ⟨fun _ _ a L c => .ask fun x => c none (a.put (some d) (.pointer (some ⟨x.n, 0, none⟩))) (⟨x.n, .obj (.cells z.cells t (0, 0)), true⟩ :: L)⟩
def zeroP (t : TypeId) : Option Value := match P.info? t with
 | some i => i.zero
 | none => none
def namedP (f : FuncId) : Bool := match P.funcs[f]? with
 | some fn => match fn.body with
   | some _ => match fn.name == "runtime.NumGoroutine" with
     | true => false
     | false => true
   | none => false
 | none => false
def doB (o : Oper) : OpB α := ⟨fun call _ a L c => doOp P call o a L (c none)⟩
def freeB (o : Oper) : OpB α := match o.dst with
 | none => match o.op with
   | .store t x v => match sizeP P t with
     | some n => match Nat.beq n 1 with
       | true => storeB P o x v
       | false => doB P o
     | none => doB P o
   | .call c => match c.callee with
     | .value (.func f) => match namedP P f with
       | true => callB none f c.args.toList
       | false => doB P o
     | _ => doB P o
   | _ => doB P o
 | some d => match o.op with
   | .alloc t => match zeroP P t with
     | some z => allocB d t z
     | none => doB P o
   | .call c => match c.callee with
     | .value (.func f) => match namedP P f with
       | true => callB (some d) f c.args.toList
       | false => doB P o
     | .builtin .len => valOpB P o d
     | _ => doB P o
   | _ => valOpB P o d
def yesF (d : Option Nat) (c : Option G → F → List Blk → T α) (a : F) (L : List Blk) : T α := c none (a.put d undef) L
def condB (o : Oper) (t : Nat) (want : Bool) (b : Bool) (call : CallE α) (a : F) (L : List Blk) (c : Option G → F → List Blk → T α) : T α := match want with
 | true => .cond b ((freeB P o).run call none (a.put (some t) (.bool true)) L c) (yesF o.dst c (a.put (some t) (.bool false)) L)
 | false => .cond b (yesF o.dst c (a.put (some t) (.bool true)) L) ((freeB P o).run call none (a.put (some t) (.bool false)) L c)
def guardF (i : Nat) (o : Oper) (t : Nat) (want gr : Bool) (call : CallE α) (g : Option G) (a : F) (L : List Blk) (c : Option G → F → List Blk → T α) : T α := match g with
 | some _ => evAtG P S fn call ops i g a L c
 | none => match a.get t with
   | .bool b => match gr with
     | true => litT b (condB P o t want b call a L c) (heldG P ops L none a o fun g' a' => c g' a' L)
     | false => condB P o t want b call a L c
   | _ => evAtG P S fn call ops i g a L c
def dstAt (j : Nat) : Option Nat := match ops[j]? with
 | some oj => oj.dst
 | none => none
def guardB (i : Nat) (o : Oper) (j : Nat) (want : Bool) : OpB α := match dstAt ops j with
 | some t => match groupOk ops o with
   | true => ⟨fun call g a L c => guardF P S fn ops i o t want true call g a L c⟩
   | false => ⟨fun call g a L c => guardF P S fn ops i o t want false call g a L c⟩
 | none => genB P S fn ops i
def isPick (o : Oper) : Bool := match o.op with
 | .pick .. => true
 | _ => false
def opB (i : Nat) (o : Oper) : OpB α := match S.op fn (keyOf o) with
 | _ :: _ => genB P S fn ops i
 | [] => match isPick o with
   | true => genB P S fn ops i
   | false => match o.guard with
     | none => freeB P o
     | some (j, want) => guardB P S fn ops i o j want
def opsB (l : List Oper) : Nat → List (OpB α) := @List.rec Oper (fun _ => Nat → List (OpB α)) (fun _ => []) (fun o _ ih i => opB P S fn ops i o :: ih (Nat.add i 1)) l
end ops
def runB (call : CallE α) (c : F → List Blk → T α) (l : List (OpB α)) : Option G → F → List Blk → T α :=
 @List.rec (OpB α) (fun _ => Option G → F → List Blk → T α) (fun _ a L => c a L) (fun b _ ih g a L => b.run call g a L ih) l
def Fits (P : Program) (S : Ctx) (fn : FuncId) (ops : Array Oper) (i : Nat) (b : OpB α) : Prop :=
 ∀ (call : CallE α) (g : Option G) (a : F) (L : List Blk) (c : Option G → F → List Blk → T α) (K : α → Prop), (b.run call g a L c).all K → (evAtG P S fn call ops i g a L c).all K
section
variable {P : Program} {S : Ctx} {fn : FuncId} {ops : Array Oper} {i : Nat} {o : Oper}
theorem fits_gen : Fits P S fn ops i (genB P S fn ops i : OpB α) := fun _ _ _ _ _ _ h => h
structure Plain (S : Ctx) (fn : FuncId) (ops : Array Oper) (i : Nat) (o : Oper) : Prop where
 at_ : ops[i]? = some o
 guard : o.guard = none
 op : S.op fn (keyOf o) = []
 pick : ∀ x y z, o.op ≠ .pick x y z
theorem Plain.eq (h : Plain S fn ops i o) (call : CallE α) (g : Option G) (a : F) (L : List Blk) (c : Option G → F → List Blk → T α) : evAtG P S fn call ops i g a L c = doOp P call o a L (c none) := by
 have hn : nth ops.toList i = some o := by rw [nth_eq, Array.getElem?_toList]; exact h.at_
 have hg : guardOf a ops o = .free := by unfold guardOf; rw [h.guard]
 have e1 : evAt P S fn call ops i a L (c none) = doOp P call o a L (c none) := by
  unfold evAt
  simp only [hn]
  unfold guardT
  simp only [hg]
  unfold evOp
  simp only [h.op]
 unfold evAtG
 simp only [hn, hg]
 rw [← e1]
 cases g with
 | none => rfl
 | some g =>
   cases ho : o.op <;> first | rfl | exact absurd ho (h.pick _ _ _)
def FitsD (P : Program) (o : Oper) (b : OpB α) : Prop :=
 ∀ (call : CallE α) (g : Option G) (a : F) (L : List Blk) (c : Option G → F → List Blk → T α) (K : α → Prop), (b.run call g a L c).all K → (doOp P call o a L (c none)).all K
theorem fits_of (h : Plain S fn ops i o) {b : OpB α} (hb : FitsD P o b) : Fits P S fn ops i b :=
 fun call g a L c K hx => by rw [h.eq]; exact hb call g a L c K hx
theorem fits_val {d : Nat} (hd : o.dst = some d) : FitsD P o (valOpB P o d : OpB α) := fun call g a L c K hx => by
 refine valB_do ?_
 rw [hd]
 exact hx
theorem argsE_eq (a : F) : ∀ l : List Operand, argsE a l = l.map a.eval
 | [] => rfl
 | x :: r => by simp only [argsE, List.map_cons, argsE_eq a r]
theorem fits_call {d : Option Nat} {f : FuncId} {cl : Call} (hd : o.dst = d) (ho : o.op = .call cl) (hc : cl.callee = .value (.func f)) (hf : namedP P f = true) : FitsD P o (callB d f cl.args.toList : OpB α) := fun call g a L c K hx => by
 have e : doing P a.eval o = .call f (cl.args.map a.eval) := by
  have : callOf P a.eval o = some (f, cl.args.map a.eval) := by
   unfold namedP at hf
   unfold callOf
   simp only [ho, hc]
   split at hf
   ·rename_i fn' hfn
    simp only [hfn]
    split at hf
    ·rename_i b hb
     simp only [hb]
     split at hf
     ·cases hf
     ·rename_i hn
      simp only [hn]
    ·cases hf
   ·cases hf
  unfold doing
  simp only [ho, this]
 refine doOp_of ?_
 unfold doOp0
 rw [e, hd]
 have ea : cl.args.map a.eval = Array.mk (argsE a cl.args.toList) := by
  rw [argsE_eq]
  apply Array.ext'
  simp
 simp only [ea]
 exact hx
theorem fits_store {t : TypeId} {x v : Operand} (hd : o.dst = none) (ho : o.op = .store t x v) (hs : sizeP P t = some 1) : FitsD P o (storeB P o x v : OpB α) := fun call g a L c K hx => by
 change (storeF P o call (a.eval x) (a.eval v) a L c).all K at hx
 unfold storeF at hx
 split at hx
 ·rename_i b off hv
  have key : ∀ u : Value, a.eval v = u → (∀ l, u ≠ .agg l) → (∀ l, u ≠ .tuple l) → (storeK L b off u a c).all K → (doOp P call o a L (c none)).all K := fun u hu h1 h2 hx => by
   have e : doing P a.eval o = .store b off u := by
    have : storeOf P a.eval o = some (b, off, u) := by
     unfold storeOf
     simp only [ho, hv, hu]
     cases u <;> first | exact absurd rfl (h1 _) | exact absurd rfl (h2 _) | (simp only [hs]; try rfl)
    unfold doing
    simp only [ho, this]
   refine doOp_of ?_
   unfold doOp0
   rw [e, hd]
   exact hx
  split at hx
  ·exact hx
  ·exact hx
  ·rename_i u h1 h2
   exact key _ rfl (fun l hl => h1 l hl) (fun l hl => h2 l hl) hx
 ·exact hx
theorem fits_alloc {d t : Nat} {z : Value} (hd : o.dst = some d) (ho : o.op = .alloc t) (hz : zeroP P t = some z) : FitsD P o (allocB d t z : OpB α) := fun call g a L c K hx => by
 have e : doing P a.eval o = .gen := by
  unfold doing
  simp only [ho]
 refine doOp_of ?_
 unfold doOp0
 rw [e]
 unfold zeroP at hz
 split at hz
 ·rename_i inf hi
  have ex : execOp a.eval o = allocS t := by
   unfold execOp
   rw [ho]
   rfl
  unfold genOp
  rw [ex]
  show (lrun P (((((match P.info? t with
    | some i => (Sem.pure i : Sem TypeInfo)
    | none => stuck "no such type").bind fun i => match i.zero with
    | some v => (Sem.pure v : Sem Value)
    | none => unsupported (.resourceLimit "a value of more than 2^22 cells")).bind fun z => (((Sem.new (.cells z.cells t) fun r => Sem.pure r).bind fun r => Sem.pure (⟨r, 0, none⟩ : Addr)).bind fun ad => Sem.pure (Value.pointer (some ad)))).bind fun v => Sem.pure (Next.value v))) (zerosOf P o) L (stepO call o a (c none))).all K
  rw [hi]
  show (lrun P ((((match inf.zero with
    | some v => (Sem.pure v : Sem Value)
    | none => unsupported (.resourceLimit "a value of more than 2^22 cells")).bind fun z => (((Sem.new (.cells z.cells t) fun r => Sem.pure r).bind fun r => Sem.pure (⟨r, 0, none⟩ : Addr)).bind fun ad => Sem.pure (Value.pointer (some ad)))).bind fun v => Sem.pure (Next.value v))) (zerosOf P o) L (stepO call o a (c none))).all K
  rw [hz]
  intro x
  have hx := hx x
  show (c none (a.put o.dst _) _).all K
  rw [hd]
  exact hx
 ·cases hz
theorem fits_do : FitsD P o (doB P o : OpB α) := fun _ _ _ _ _ _ h => h
theorem fits_free : FitsD P o (freeB P o : OpB α) := by
 unfold freeB
 split
 ·rename_i hd
  split
  ·rename_i t x v ho
   split
   ·rename_i n hn
    split
    ·rename_i h1
     have h1 := Nat.eq_of_beq_eq_true h1
     subst h1
     exact fits_store hd ho hn
    ·exact fits_do
   ·exact fits_do
  ·rename_i cl ho
   split
   ·rename_i f hc
    split
    ·rename_i hf
     exact fits_call hd ho hc hf
    ·exact fits_do
   ·exact fits_do
  ·exact fits_do
 ·rename_i d hd
  split
  ·rename_i t ho
   split
   ·rename_i z hz
    exact fits_alloc hd ho hz
   ·exact fits_do
  ·rename_i cl ho
   split
   ·rename_i f hc
    split
    ·rename_i hf
     exact fits_call hd ho hc hf
    ·exact fits_do
   ·exact fits_val hd
   ·exact fits_do
  ·exact fits_val hd
theorem fits_guard (h : ops[i]? = some o) {j : Nat} {want : Bool} (hg : o.guard = some (j, want)) (hop : S.op fn (keyOf o) = []) : Fits P S fn ops i (guardB P S fn ops i o j want : OpB α) := by
 have hn : nth ops.toList i = some o := by rw [nth_eq, Array.getElem?_toList]; exact h
 unfold guardB
 split
 ·rename_i t ht
  have hgo : ∀ (a : F) (b : Bool), a.get t = .bool b → guardOf a ops o = .test t b want := fun a b hb => by
   unfold dstAt at ht
   split at ht
   ·rename_i oj hj
    have hj' : nth ops.toList j = some oj := by rw [nth_eq, Array.getElem?_toList]; exact hj
    unfold guardOf
    simp only [hg, hj', ht, hb]
   ·cases ht
  have main : ∀ (gr : Bool), groupOk ops o = gr → Fits P S fn ops i (⟨fun call g a L c => guardF P S fn ops i o t want gr call g a L c⟩ : OpB α) := fun gr hgr call g a L c K hx => by
   change (guardF P S fn ops i o t want gr call g a L c).all K at hx
   unfold guardF at hx
   split at hx
   ·exact hx
   ·split at hx
    ·rename_i b hb
     have e := hgo a b hb
     have cnd : (condB P o t want b call a L c).all K → (evAt P S fn call ops i a L (c none)).all K := fun hx => by
      unfold evAt
      simp only [hn]
      unfold guardT
      simp only [e]
      unfold condB at hx
      have ev0 : ∀ a : F, evOp P S fn call o a L (c none) = doOp P call o a L (c none) := fun a => by
       unfold evOp
       simp only [hop]
      cases want with
      | true => exact ⟨fun hb => by rw [ev0]; exact fits_free call none _ L c K (hx.1 hb), fun hb => hx.2 hb⟩
      | false => exact ⟨fun hb => hx.1 hb, fun hb => by rw [ev0]; exact fits_free call none _ L c K (hx.2 hb)⟩
     unfold evAtG
     simp only [hn, e, hgr]
     split at hx
     ·rcases litT_spec hx with hx | hx
      ·exact ⟨0, cnd hx⟩
      ·exact ⟨1, hx⟩
     ·exact cnd hx
    ·exact hx
  split
  ·rename_i hgr
   exact main true hgr
  ·rename_i hgr
   exact main false hgr
 ·exact fits_gen
theorem fits_op (h : ops[i]? = some o) : Fits P S fn ops i (opB P S fn ops i o : OpB α) := by
 unfold opB
 split
 ·exact fits_gen
 ·rename_i hop
  split
  ·exact fits_gen
  ·rename_i hp
   have hpk : ∀ x y z, o.op ≠ .pick x y z := fun x y z he => by
    unfold isPick at hp
    rw [he] at hp
    cases hp
   split
   ·rename_i hg
    exact fits_of ⟨h, hg, hop, hpk⟩ fits_free
   ·rename_i j want hg
    exact fits_guard h hg hop
end
section code
variable (P : Program) (S : Ctx) (fn : FuncId)
def seqF (y : PieceE α) (c : Exit → F → List Blk → T α) (r : Exit) (a : F) (L : List Blk) : T α := match r with
 | .normal => y a L c
 | r => c r a L
def condF (b : Operand) (x y : PieceE α) (a : F) (L : List Blk) (c : Exit → F → List Blk → T α) : T α := match b with
 | .tmp s => match a.get s with
   | .bool t => .cond t (x (a.put (some s) (.bool true)) L c) (y (a.put (some s) (.bool false)) L c)
   | _ => .fail
 | b => match a.eval b with
   | .bool t => .cond t (x a L c) (y a L c)
   | _ => .fail
def blockF (id : Nat) (c : Exit → F → List Blk → T α) (r : Exit) (a : F) (L : List Blk) : T α := match r with
 | .exit id' => match Nat.beq id' id with
   | true => c .normal a L
   | false => c (.exit id') a L
 | r => c r a L
def againF (ih : F → List Blk → T α) (c : Exit → F → List Blk → T α) (x : Exit) (a : F) (L : List Blk) : T α := match x with
 | .normal => ih a L
 | x => c x a L
def roundsF (f : PieceE α) (c : Exit → F → List Blk → T α) (m : Nat) : F → List Blk → T α :=
 @Nat.rec (fun _ => F → List Blk → T α) (fun _ _ => .fail) (fun k ih a L => match Nat.beq (Nat.mod k 4) 0 with
  | true => forceL (compactW 0 a.w) fun w => f ⟨a.n, w⟩ L fun x a1 L1 => againF ih c x a1 L1
  | false => f a L fun x a1 L1 => againF ih c x a1 L1) m
def loopF (x : Code) (f : PieceE α) (n : Nat) (a : F) (L : List Blk) (c : Exit → F → List Blk → T α) : T α := match S.lp fn with
 | k :: ks => .or (.num ((k :: ks).length + 1)) fun j => match nth (k :: ks) j with
   | some k => loopBy (k a L) (.loop x) a L c
   | none => roundsF f c n a L
 | [] => roundsF f c n a L
def codeB (x : Code) : CodeB α := @Code.rec (fun _ => CodeB α)
 ⟨fun _ _ a L c => c .normal a L⟩
 (fun id ops d => match d with
  | false => ⟨fun call _ a L c => runB call (fun a' L' => c .normal a' L') (opsB P S fn ops ops.toList 0) none a L⟩
  | true => ⟨fun call _ a L c => anyF P S fn id ops call a L c⟩)
 (fun _ _ ihx ihy => ⟨fun call n a L c => ihx.run call n a L fun r a1 L1 => seqF (ihy.run call n) c r a1 L1⟩)
 (fun b _ _ ihx ihy => ⟨fun call n a L c => condF b (ihx.run call n) (ihy.run call n) a L c⟩)
 (fun id _ ih => ⟨fun call n a L c => ih.run call n a L fun r a1 L1 => blockF id c r a1 L1⟩)
 (fun x ih => ⟨fun call n a L c => loopF S fn x (ih.run call n) n a L c⟩)
 (fun _ _ _ _ _ _ => ⟨fun _ _ _ _ _ => .fail⟩)
 (fun id => ⟨fun _ _ a L c => c (.exit id) a L⟩)
 (fun _ _ => ⟨fun _ _ _ _ _ => .fail⟩)
 (fun _ => ⟨fun _ _ a L c => c .normal a L⟩)
 (fun _ => ⟨fun _ _ _ _ _ => .fail⟩)
 ⟨fun _ _ a L c => c .ret a L⟩
 (fun _ => ⟨fun _ _ _ _ _ => .fail⟩)
 x
structure FnB (α : Type) where
 f : CallE α → Nat → Array Value → List Blk → (Value → List Blk → T α) → T α
def FnB.run (b : FnB α) : CallE α → Nat → Array Value → List Blk → (Value → List Blk → T α) → T α := @FnB.rec α (fun _ => CallE α → Nat → Array Value → List Blk → (Value → List Blk → T α) → T α) (fun f => f) b
def retF (rs : List ResultVar) (c : Value → List Blk → T α) (x : Exit) (a : F) (L : List Blk) : T α := match x with
 | .normal => resT P a.get L rs fun l => c (oneV l) L
 | .ret => resT P a.get L rs fun l => c (oneV l) L
 | _ => .fail
def fnB (f : FuncId) : FnB α := match nth P.funcs.toList f with
 | none => ⟨fun _ _ _ _ _ => .fail⟩
 | some fc => match fc.body with
   | none => ⟨fun _ _ _ _ _ => .fail⟩
   | some b => ⟨fun call n args L c => (codeB P S f b).run call n (F.init args fc.ntmps) L fun x a L' => retF P fc.results.toList c x a L'⟩
def fnC (f : FuncId) : FnB α := match S.cl f with
 | k :: ks => ⟨fun call n args L c => .or (.num ((k :: ks).length + 1)) fun j => match nth (k :: ks) j with
   | some k => match Nat.decEq (k args L).f f with
     | .isTrue _ => metBy (k args L) args L c
     | .isFalse _ => .fail
   | none => (fnB P S f).run call n args L c⟩
 | [] => fnB P S f
end code
section sound
variable {P : Program} {S : Ctx} {w0 : World} {keep : Nat → Prop} {K : α → Prop}
theorem runB_sound (hS : S.holds P) {fn : FuncId} {call : CallE α} (hs : SoundC P w0 keep K call) {ops : Array Oper} {Q : Exit → Act → World → Prop} {c : F → List Blk → T α} (hQ : ∀ a' L' b' W', (c a' L').all K → RelF a' b' → Rep w0 keep L' W' → Q .normal b' W') :
  ∀ (l : List Oper) (i : Nat), (∀ j o, l[j]? = some o → ops[i + j]? = some o) → i + l.length = ops.size → ∀ {g : Option G} {a : F} {L : List Blk}, (runB call c (opsB P S fn ops l i) g a L).all K →
  ∀ {b : Act} {W : World}, RelF a b → Inv g b → Rep w0 keep L W → wpOps P ops Q (List.range' i l.length) b W
 | [], i, _, _, g, a, L, h, b, W, hf, _, hr => hQ _ _ _ _ h hf hr
 | o :: l, i, hl, hn, g, a, L, h, b, W, hf, hi, hr => by
   have h0 := hl 0 o rfl
   rw [List.length_cons, List.range'_succ, wpOps_cons]
   have h : ((opB P S fn ops i o).run call g a L (runB call c (opsB P S fn ops l (i + 1)))).all K := h
   refine evAtG_sound hS hs (c := runB call c (opsB P S fn ops l (i + 1))) (fits_op (by simpa using h0) call g a L _ K h) hf hi hr fun g' a' L' b' W' hk hf' hi' hr' => ?_
   exact runB_sound hS hs hQ l (i + 1) (fun j u hu => by
    have := hl (j + 1) u (by simpa using hu)
    rw [← this]
    congr 1
    omega) (by rw [List.length_cons] at hn; omega) hk hf' hi' hr'
theorem roundsF_sound {x : Code} {f : PieceE α} (hf : SoundE P w0 keep K x f) {c : Exit → F → List Blk → T α} : ∀ (m : Nat) (a : F) (L : List Blk), (roundsF f c m a L).all K →
  ∀ b W, RelF a b → Rep w0 keep L W → Code.rounds P x (Post w0 keep K c) m b W
 | 0, a, L, h, b, W, _, _ => h.elim
 | m + 1, a, L, h, b, W, hrel, hr => by
   rw [rounds_succ]
   have hg : ∃ a', RelF a' b ∧ (f a' L fun x a1 L1 => againF (roundsF f c m) c x a1 L1).all K := by
    change (match Nat.beq (Nat.mod m 4) 0 with
     | true => forceL (compactW 0 a.w) fun w => f ⟨a.n, w⟩ L fun x a1 L1 => againF (roundsF f c m) c x a1 L1
     | false => f a L fun x a1 L1 => againF (roundsF f c m) c x a1 L1).all K at h
    split at h
    ·rw [forceL_eq] at h
     exact ⟨_, RelF.shorten hrel, h⟩
    ·exact ⟨_, hrel, h⟩
   obtain ⟨a', hrel', h⟩ := hg
   refine wp_mono (hf _ _ _ h b W hrel' hr) ?_
   rintro x a2 W2 ⟨hx, g, L2, h, hrel2, hr2⟩
   cases x with
   | normal => exact roundsF_sound hf m _ _ h a2 W2 hrel2 hr2
   | _ => exact ⟨hx, g, L2, h, hrel2, hr2⟩
theorem codeB_sound (hS : S.holds P) (hP : P.follows .mixedOrders = true) (fn : FuncId) {call : CallE α} (hss : ∀ w0 keep, SoundC P w0 keep K call) (n : Nat) : ∀ x : Code, SoundE P w0 keep K x ((codeB P S fn x).run call n) := by
 have hs : SoundC P w0 keep K call := hss w0 keep
 intro x
 induction x with
 | skip => intro a L c h b W hrel hr; exact wp_skip ⟨rfl, _, _, h, hrel, hr⟩
 | region id ops d =>
   cases d with
   | false =>
     intro a L c h b W hrel hr
     have h : (runB call (fun a' L' => c .normal a' L') (opsB P S fn ops ops.toList 0) none a L).all K := h
     refine wp_region ?_
     have := runB_sound hS hs (Q := Post w0 keep K c) (c := fun a' L' => c .normal a' L') (fun a' L' b' W' hk hb' hr' => ⟨rfl, _, _, hk, hb', hr'⟩) ops.toList 0 (fun j o ho => by rw [Nat.zero_add]; simpa using ho) (by simp) h hrel (Inv.none _) hr
     rw [Array.length_toList, ← List.range_eq_range'] at this
     exact this
   | true =>
     intro a L c h b W hrel hr
     exact anyF_sound hS hP hss id ops _ _ _ h b W hrel hr
 | seq x y ihx ihy =>
   intro a L c h b W hrel hr
   refine wp_seq (wp_mono (ihx _ _ _ h b W hrel hr) ?_)
   rintro x a2 W2 ⟨hx, g2, L2, h, hrel2, hr2⟩
   cases x with
   | normal => exact ihy _ _ _ h a2 W2 hrel2 hr2
   | _ => exact ⟨hx, _, _, h, hrel2, hr2⟩
 | cond c x y ihx ihy =>
   intro a L k h b W hrel hr
   change (condF c ((codeB P S fn x).run call n) ((codeB P S fn y).run call n) a L k).all K at h
   unfold condF at h
   split at h
   ·rename_i s
    split at h
    ·rename_i t hb
     have hb' : b.eval (.tmp s) = .bool t := by rw [← hrel.eval]; exact hb
     cases t with
     | true => exact wp_cond_true hb' (ihx _ _ _ (h.1 rfl) b W (hrel.same hb) hr)
     | false => exact wp_cond_false hb' (ihy _ _ _ (h.2 rfl) b W (hrel.same hb) hr)
    ·exact h.elim
   ·split at h
    ·rename_i t hb
     rw [hrel.eval] at hb
     cases t with
     | true => exact wp_cond_true hb (ihx _ _ _ (h.1 rfl) b W hrel hr)
     | false => exact wp_cond_false hb (ihy _ _ _ (h.2 rfl) b W hrel hr)
    ·exact h.elim
 | block id x ih =>
   intro a L c h b W hrel hr
   refine wp_block (wp_mono (ih _ _ _ h b W hrel hr) ?_)
   rintro x a2 W2 ⟨hx, g2, L2, h, hrel2, hr2⟩
   cases x with
   | exit id' =>
     simp only [blockF] at h
     split at h
     ·rename_i hid
      have hid := Nat.eq_of_beq_eq_true hid
      simp only [Exit.inBlock, hid, if_true]
      exact ⟨rfl, _, _, h, hrel2, hr2⟩
     ·rename_i hid
      have hid : ¬ id' = id := fun he => by rw [he, Nat.beq_refl] at hid; cases hid
      simp only [Exit.inBlock, hid, if_false]
      exact ⟨rfl, _, _, h, hrel2, hr2⟩
   | normal => exact ⟨hx, _, _, h, hrel2, hr2⟩
   | ret => exact ⟨hx, _, _, h, hrel2, hr2⟩
   | _ => simp [calm] at hx
 | loop x ih =>
   intro a L c h b W hrel hr
   change (loopF S fn x ((codeB P S fn x).run call n) n a L c).all K at h
   unfold loopF at h
   split at h
   ·rename_i k ks hlp
    obtain ⟨j, h⟩ := h
    dsimp only at h
    split at h
    ·rename_i k' hj
     rw [nth_eq] at hj
     exact loopBy_sound (hS.lp fn k' (by rw [hlp]; exact List.mem_of_getElem? hj) a L) h hrel hr
    ·exact wp_loop_rounds n (roundsF_sound ih n _ _ h b W hrel hr)
   ·exact wp_loop_rounds n (roundsF_sound ih n _ _ h b W hrel hr)
 | exit id => intro a L c h b W hrel hr; exact wp_exit ⟨rfl, _, _, h, hrel, hr⟩
 | label l => intro a L c h b W hrel hr; exact wp_label ⟨rfl, _, _, h, hrel, hr⟩
 | ret => intro a L c h b W hrel hr; exact wp_ret ⟨rfl, _, _, h, hrel, hr⟩
 | rangeFunc f ps x y _ _ => intro a L c h; exact h.elim
 | scope x _ => intro a L c h; exact h.elim
 | goto l => intro a L c h; exact h.elim
 | refuse s => intro a L c h; exact h.elim
theorem fnB_sound (hS : S.holds P) (hP : P.follows .mixedOrders = true) {call : CallE α} (hs : ∀ w0 keep, SoundC P w0 keep K call) (n : Nat) {f : FuncId} {args : Array Value} {L : List Blk} {c : Value → List Blk → T α} (h : ((fnB P S f).run call n args L c).all K) (W : World) (hr : Rep w0 keep L W) :
  Calls P f args W fun en W' => ∃ v L', en = .returned v ∧ Rep w0 keep L' W' ∧ (c v L').all K := by
 unfold fnB at h
 rw [nth_eq, Array.getElem?_toList] at h
 split at h
 ·exact h.elim
 ·rename_i fc hfn
  split at h
  ·exact h.elim
  ·rename_i x hb
   refine calls_of_wp hfn hb (wp_mono (codeB_sound hS hP f hs n x _ _ _ h _ W (RelF.init args fc.ntmps) hr) ?_)
   rintro x a2 W2 ⟨-, g2, L2, h, hrel2, hr2⟩
   have key : (resT P g2.get L2 fc.results.toList fun l => c (oneV l) L2).all K → bodyPost P fc (fun en W' => ∃ v L', en = .returned v ∧ Rep w0 keep L' W' ∧ (c v L').all K) .ret a2 W2 := fun h => by
    obtain ⟨l, hk, hrun⟩ := resT_spec (fun p hp => (hr2.blk p hp).1) h
    have hrun := resF_run (fn := fc) (hrun W2 (fun p hp => (hr2.blk p hp).1))
    rw [← resF_eq hrel2] at hrun
    exact ⟨hrel2.defers, _, hrun, _, L2, rfl, hr2, hk⟩
   cases x with
   | normal => exact key h
   | ret => exact key h
   | _ => exact h.elim
end sound
section
variable {P : Program} {S : Ctx}
end
end Go.Proofs.YtlpcnaeknbmjdaaGreat.Sy
namespace Go.Proofs.YtlpcnaeknbmjdaaGreat.Sy
open Go Go.RowKit
variable {α : Type}
def vnm (n : Nat) : Value → List Nat → List Nat := @Nat.rec (fun _ => Value → List Nat → List Nat) (fun _ acc => acc) (fun _ ih v acc => match v with
 | .pointer (some a) => a.block :: acc
 | .slice (some a) _ _ => a.block :: acc
 | .map (some r) => r :: acc
 | .chan (some r) => r :: acc
 | .agg c => c.toList.foldr ih acc
 | .tuple c => c.toList.foldr ih acc
 | .func _ f c => c.toList.foldr ih (f.toList.foldr ih acc)
 | .iface _ v => ih v acc
 | _ => acc) n
def contNm (ct : Cont) (acc : List Nat) : List Nat := match ct with
 | .obj (.cells c _ _) => c.toList.foldr (vnm 6) acc
 | .obj (.map es _) => es.toList.foldr (fun e acc => vnm 6 e.key (vnm 6 e.val acc)) acc
 | .obj (.mapIter (some r) _ _ _) => r :: acc
 | .obj _ => acc
 | .row _ size _ _ xs => match xs with
   | .int _ _ :: _ => match Nat.beq size 1 with
     | true => acc
     | false => xs.foldr (vnm 6) acc
   | _ => xs.foldr (vnm 6) acc
 | .seg _ xs => xs.foldr (vnm 6) acc
def memN (b : Nat) (l : List Nat) : Bool := @List.rec Nat (fun _ => Bool) false (fun x _ ih => match Nat.beq x b with
 | true => true
 | false => ih) l
def findC (b : Nat) (L : List Blk) (acc : List Nat) : List Nat := @List.rec Blk (fun _ => List Nat) acc (fun p _ ih => match Nat.beq p.nm b with
 | true => contNm p.ct acc
 | false => ih) L
def reachN (t : Nat) (L : List Blk) (n : Nat) : List Nat → List Nat → List Nat := @Nat.rec (fun _ => List Nat → List Nat → List Nat) (fun _ vis => vis) (fun _ ih work vis => match work with
 | [] => vis
 | b :: r => match Nat.ble t b with
   | false => ih r vis
   | true => match memN b vis with
     | true => ih r vis
     | false => ih (findC b L r) (b :: vis)) n
def topN (L : List Blk) : Nat := @List.rec Blk (fun _ => Nat) 0 (fun p _ ih => match Nat.ble ih p.nm with
 | true => Nat.succ p.nm
 | false => ih) L
def maskE (t : Nat) (vis : List Nat) (L : List Blk) : Nat := @List.rec Blk (fun _ => Nat) 1 (fun p _ m => match Nat.ble t p.nm with
 | false => match Nat.beq m 1 with
   | true => 1
   | false => Nat.add (Nat.mul 2 m) 1
 | true => match memN p.nm vis with
   | true => match Nat.beq m 1 with
     | true => 1
     | false => Nat.add (Nat.mul 2 m) 1
   | false => Nat.mul 2 m) L
def maskOf (L : List Blk) (v : Value) (L' : List Blk) : Nat := match topN L with
 | t => maskE t (reachN t L' 100000 (vnm 6 v []) []) L'
def maskK (L : List Blk) : Nat → (List Blk → T α) → T α := @List.rec Blk (fun _ => Nat → (List Blk → T α) → T α) (fun _ k => k []) (fun x r ih m k => match Nat.ble m 1 with
 | true => k (x :: r)
 | false => match Nat.beq (Nat.mod m 2) 1 with
   | true => ih (Nat.div m 2) fun l => k (x :: l)
   | false => ih (Nat.div m 2) k) L
theorem maskK_spec {K : α → Prop} : ∀ (L : List Blk) (m : Nat) (k : List Blk → T α), (maskK L m k).all K → ∃ L', List.Sublist L' L ∧ (k L').all K
 | [], m, k, h => ⟨[], List.Sublist.refl _, h⟩
 | x :: r, m, k, h => by
   change (match Nat.ble m 1 with
    | true => k (x :: r)
    | false => match Nat.beq (Nat.mod m 2) 1 with
      | true => maskK r (Nat.div m 2) fun l => k (x :: l)
      | false => maskK r (Nat.div m 2) k : T α).all K at h
   split at h
   ·exact ⟨_, List.Sublist.refl _, h⟩
   ·split at h
    ·obtain ⟨L', h1, h2⟩ := maskK_spec r _ _ h
     exact ⟨_, h1.cons_cons x, h2⟩
    ·obtain ⟨L', h1, h2⟩ := maskK_spec r _ _ h
     exact ⟨_, h1.cons x, h2⟩
def dropT (L : List Blk) (c : Value → List Blk → T α) (v : Value) (L' : List Blk) : T α := .or (.drop (maskOf L v L')) fun m => maskK L' m fun L2 => c v L2
theorem dropT_spec {K : α → Prop} {L : List Blk} {c : Value → List Blk → T α} {v : Value} {L' : List Blk} (h : (dropT L c v L').all K) : ∃ L2, List.Sublist L2 L' ∧ (c v L2).all K := by
 obtain ⟨m, h⟩ := h
 exact maskK_spec _ _ _ h
def oldNm (t : Nat) (L : List Blk) (acc : List Nat) : List Nat := @List.rec Blk (fun _ => List Nat) acc (fun p _ ih => match Nat.ble t p.nm with
 | true => ih
 | false => contNm p.ct ih) L
def maskO (L : List Blk) (v : Value) (L' : List Blk) : Nat := match topN L with
 | t => maskE t (reachN t L' 100000 (oldNm t L' (vnm 6 v [])) []) L'
def dropO (L : List Blk) (c : Value → List Blk → T α) (v : Value) (L' : List Blk) : T α := .or (.drop (maskO L v L')) fun m => maskK L' m fun L2 => c v L2
theorem dropO_spec {K : α → Prop} {L : List Blk} {c : Value → List Blk → T α} {v : Value} {L' : List Blk} (h : (dropO L c v L').all K) : ∃ L2, List.Sublist L2 L' ∧ (c v L2).all K := by
 obtain ⟨m, h⟩ := h
 exact maskK_spec _ _ _ h
structure MC where
 f : FuncId
 i : Nat
 k : Array Value → Cont → CallC
def findM (f : FuncId) (l : List MC) : Option MC := @List.rec MC (fun _ => Option MC) none (fun x _ ih => match Nat.beq x.f f with
 | true => some x
 | false => ih) l
theorem findM_spec {f : FuncId} {x : MC} : ∀ {l : List MC}, findM f l = some x → x ∈ l ∧ x.f = f
 | [], h => by cases h
 | y :: l, h => by
   change (match Nat.beq y.f f with
    | true => some y
    | false => findM f l) = some x at h
   split at h
   ·rename_i hb
    injection h with h
    subst h
    exact ⟨List.mem_cons_self, Nat.eq_of_beq_eq_true hb⟩
   ·obtain ⟨h1, h2⟩ := findM_spec h
    exact ⟨List.mem_cons_of_mem _ h1, h2⟩
structure How where
 dr : FuncId → Bool
 st : FuncId → Bool
 mc : List MC
structure How.holds (P : Program) (H : How) : Prop where
 mc : ∀ x ∈ H.mc, ∀ a ct, Meets P (x.k a ct)
section
variable (P : Program) (S : Ctx) (dr : How)
def argM (a : Array Value) (i : Nat) : Nat := match nth a.toList i with
 | some (.slice (some ⟨b, _, _⟩) _ _) => b
 | some (.pointer (some ⟨b, _, _⟩)) => b
 | some (.agg c) => match c.toList with
   | .slice (some ⟨b, _, _⟩) _ _ :: _ => b
   | _ => 0
 | _ => 0
def mcT (x : MC) (f : FuncId) (args : Array Value) (L : List Blk) (c : Value → List Blk → T α) : T α := pickT L (argM args x.i) fun p _ => match x.k args p.ct with
 | k => match Nat.decEq k.f f with
   | .isTrue _ => metBy k args L c
   | .isFalse _ => .fail
def plainJ (ih : CallE α) (n : Nat) : CallE α := fun f args L c => match dr.dr f with
 | true => (fnC P S f).run ih n args L (dropT L c)
 | false => match dr.st f with
   | true => (fnC P S f).run ih n args L (dropO L c)
   | false => (fnC P S f).run ih n args L c
def callJ (n : Nat) : CallE α := @Nat.rec (fun _ => CallE α) (fun _ _ _ _ => .fail) (fun n ih f args L c => match findM f dr.mc with
 | some x => altT (mcT x f args L c) (plainJ P S dr ih n f args L c)
 | none => plainJ P S dr ih n f args L c) n
def shutJ (n : Nat) (f : FuncId) (args : Array Value) (L : List Blk) (v : Value) : T Unit := (fnB P S f).run (callJ P S dr n) n args L fun v' _ => .same (.val v') (.val v) (.ret ())
end
section sound
variable {P : Program} {S : Ctx} {dr : How} {w0 : World} {keep : Nat → Prop} {K : α → Prop}
theorem fnC_sound (hS : S.holds P) (hP : P.follows .mixedOrders = true) {call : CallE α} (hs : ∀ w0 keep, SoundC P w0 keep K call) (n : Nat) {f : FuncId} {args : Array Value} {L : List Blk} {c : Value → List Blk → T α} (h : ((fnC P S f).run call n args L c).all K) (W : World) (hr : Rep w0 keep L W) :
  Calls P f args W fun en W' => ∃ v L', en = .returned v ∧ Rep w0 keep L' W' ∧ (c v L').all K := by
 unfold fnC at h
 split at h
 ·rename_i k ks hcl
  obtain ⟨j, h⟩ := h
  dsimp only at h
  split at h
  ·rename_i k' hj
   rw [nth_eq] at hj
   split at h
   ·rename_i hcf _
    have := metBy_sound (hS.cl f k' (by rw [hcl]; exact List.mem_of_getElem? hj) args L) h hr
    rw [hcf] at this
    exact this
   ·exact h.elim
  ·exact fnB_sound hS hP hs n h W hr
 ·exact fnB_sound hS hP hs n h W hr
theorem mcT_sound (hd : dr.holds P) {x : MC} (hx : x ∈ dr.mc) {f : FuncId} {args : Array Value} {L : List Blk} {c : Value → List Blk → T α} (h : (mcT x f args L c).all K) (W : World) (hr : Rep w0 keep L W) :
  Calls P f args W fun en W' => ∃ v L', en = .returned v ∧ Rep w0 keep L' W' ∧ (c v L').all K := by
 obtain ⟨p, j, hj, hb, h⟩ := pickT_spec h
 dsimp only at h
 split at h
 ·rename_i hcf _
  have := metBy_sound (hd.mc x hx args p.ct) h hr
  rw [hcf] at this
  exact this
 ·exact h.elim
theorem callJ_sound (hS : S.holds P) (hd : dr.holds P) (hP : P.follows .mixedOrders = true) : ∀ (n : Nat) (w0 : World) (keep : Nat → Prop), SoundC P w0 keep K (callJ P S dr n)
 | 0, w0, keep => fun f args L c h => h.elim
 | n + 1, w0, keep => fun f args L c h W hr => by
   have ih : ∀ w0 keep, SoundC P w0 keep K (callJ P S dr n) := callJ_sound hS hd hP n
   have plain : (plainJ P S dr (callJ P S dr n) n f args L c).all K → Calls P f args W fun en W' => ∃ v L', en = .returned v ∧ Rep w0 keep L' W' ∧ (c v L').all K := fun h => by
    unfold plainJ at h
    split at h
    ·refine (fnC_sound hS hP ih n h W hr).mono ?_
     rintro en W' ⟨v, L', rfl, hr', h⟩
     obtain ⟨L2, h1, h2⟩ := dropT_spec h
     exact ⟨v, L2, rfl, hr'.sub h1, h2⟩
    split at h
    ·refine (fnC_sound hS hP ih n h W hr).mono ?_
     rintro en W' ⟨v, L', rfl, hr', h⟩
     obtain ⟨L2, h1, h2⟩ := dropO_spec h
     exact ⟨v, L2, rfl, hr'.sub h1, h2⟩
    ·exact fnC_sound hS hP ih n h W hr
   change (match findM f dr.mc with
    | some x => altT (mcT x f args L c) (plainJ P S dr (callJ P S dr n) n f args L c)
    | none => plainJ P S dr (callJ P S dr n) n f args L c : T α).all K at h
   split at h
   ·rename_i x hx
    rcases altT_spec h with h | h
    ·exact mcT_sound hd (findM_spec hx).1 h W hr
    ·exact plain h
   ·exact plain h
def shutC' (f : FuncId) (args : Array Value) (rd : List (Nat × Cont)) (ok : Prop) (v : Value) : CallC := ⟨f, args, ok, ⟨rd, [], 0, []⟩, [plainO v]⟩
theorem meets_shutJ' (hS : S.holds P) (hd : dr.holds P) (hP : P.follows .mixedOrders = true) {n : Nat} {f : FuncId} {args : Array Value} {rd : List (Nat × Cont)} {v : Value} {o : O}
  (h : ∀ ns, ((shutJ P S dr n f args (blks ⟨rd, [], 0, []⟩) v).run o ns).map (fun x => (x.res.asks, x.l)) = ((shutJ P S dr n f args (blks ⟨rd, [], 0, []⟩) v).run o ns).map (fun x => (x.res.asks.map fun l => l.map fun _ => True, x.r))) (h0 : ∀ ns, ((shutJ P S dr n f args (blks ⟨rd, [], 0, []⟩) v).run o ns).map (fun x => x.res.asks.isSome) = some true) :
  Meets P (shutC' f args rd True v) := by
 intro hok W hpre
 have hall : (shutJ P S dr n f args (blks ⟨rd, [], 0, []⟩) v).all fun _ => True := by
  refine all_of_run _ o fun ns => ?_
  have h := h ns
  have h0 := h0 ns
  cases hx : (shutJ P S dr n f args (blks ⟨rd, [], 0, []⟩) v).run o ns with
  | none => rw [hx] at h0; cases h0
  | some x =>
    rw [hx] at h h0
    simp only [Option.map_some, Option.some.injEq, Prod.mk.injEq] at h h0
    cases ha : x.res.asks with
    | none => rw [ha] at h0; cases h0
    | some l =>
      rw [ha] at h
      refine ⟨x, rfl, h.2, Res.asks_holds ha fun p hp => ?_⟩
      have h1 := h.1
      simp only [Option.map_some, Option.some.injEq] at h1
      rw [h1] at hp
      obtain ⟨q, -, rfl⟩ := List.mem_map.1 hp
      trivial
 refine (fnB_sound hS hP (callJ_sound hS hd hP n) n hall W (rep_of_pre hpre)).mono ?_
 rintro en W' ⟨v', L', rfl, hr', hk⟩
 have hv : v' = v := tok_val hk.1
 subst hv
 refine ⟨_, List.mem_singleton_self _, [], rfl, ?_⟩
 exact post_of_rep hr' rfl trivial [] List.nodup_nil trivial
end sound
end Go.Proofs.YtlpcnaeknbmjdaaGreat.Sy
namespace Go.Proofs.YtlpcnaeknbmjdaaGreat.Sy
open Go Go.RowKit
def O.pack (k n : Nat) (o : O) : O := @Nat.rec (fun _ => Nat → O) (fun _ => o) (fun _ ih n => .step (Nat.mod n 32) (ih (Nat.div n 32))) k n
def O.bz (k n : Nat) (o : O) : O := @Nat.rec (fun _ => Nat → Nat → O) (fun _ _ => o) (fun _ ih d n => @Nat.rec (fun _ => O) (ih (Nat.succ d) (Nat.div n 2)) (fun _ _ => .step d (ih 0 (Nat.div n 2))) (Nat.mod n 2)) k 0 n
def capOf (c : Cont) : Nat := match c with
 | .row _ _ _ cap _ => cap
 | _ => 0
def letN (k : Nat) (ns : List Let) : Nat := match nth ns k with
 | some x => x.n
 | none => 0
def letsOf : List Blk → List Let
 | [] => []
 | b :: r => ⟨b.nm, 0, false, undef, []⟩ :: ⟨capOf b.ct, 0, false, undef, []⟩ :: letsOf r
theorem letsOf_length : ∀ l : List Blk, (letsOf l).length = 2 * l.length
 | [] => rfl
 | b :: r => by simp only [letsOf, List.length_cons, letsOf_length r]; omega
def sameAll : List Blk → List (Nat × Cont) → T Unit
 | [], [] => .ret ()
 | ⟨nm, ct, true⟩ :: l, (n, c) :: r => .same (.nat nm) (.nat n) (.same (.cont ct) (.cont c) (sameAll l r))
 | _, _ => .fail
theorem sameAll_spec {K : Unit → Prop} : ∀ (l : List Blk) (r : List (Nat × Cont)), (sameAll l r).all K → fitsB l r
 | [], [], _ => trivial
 | [], _ :: _, h => h.elim
 | _ :: _, [], h => by
   unfold sameAll at h
   split at h <;> first | contradiction | exact h.elim
 | ⟨nm, ct, false⟩ :: l, (n, c) :: r, h => h.elim
 | ⟨nm, ct, true⟩ :: l, (n, c) :: r, h => by
   obtain ⟨h1, h2, h3⟩ := h
   injection h1 with h1
   have h2 := tok_cont h2
   subst h1 h2
   exact ⟨⟨rfl, rfl, .inl rfl⟩, sameAll_spec l r h3⟩
def endG (ps : List Nat) (k : Nat) (v : List Let → Value) (nw : List Let → List (Nat × Cont)) (v' : Value) (L' : List Blk) : T Unit := match pickL L' ps with
 | bl => .same (.nat bl.length) (.nat k) (.same (.val v') (.val (v (letsOf bl))) (sameAll bl (nw (letsOf bl))))
def graphC (f : FuncId) (args : Array Value) (rd : List (Nat × Cont)) (k : Nat) (v : List Let → Value) (nw : List Let → List (Nat × Cont)) : CallC := ⟨f, args, True, ⟨rd, [], 2 * k, []⟩, [(⟨fun _ => True, nw, fun _ => []⟩, v)]⟩
section
variable (P : Program) (S : Ctx) (dr : How)
def graphJ (n : Nat) (f : FuncId) (args : Array Value) (L : List Blk) (ps : List Nat) (k : Nat) (v : List Let → Value) (nw : List Let → List (Nat × Cont)) : T Unit := (fnB P S f).run (callJ P S dr n) n args L (endG ps k v nw)
end
section
variable {P : Program} {S : Ctx} {dr : How}
theorem meets_graphJ (hS : S.holds P) (hd : dr.holds P) (hP : P.follows .mixedOrders = true) {n : Nat} {f : FuncId} {args : Array Value} {rd : List (Nat × Cont)} (ps : List Nat) (hps : ps.Nodup) {k : Nat} {v : List Let → Value} {nw : List Let → List (Nat × Cont)} {o : O}
  (h : ∀ ns, ((graphJ P S dr n f args (blks ⟨rd, [], 0, []⟩) ps k v nw).run o ns).map (fun x => (x.res.asks, x.l)) = ((graphJ P S dr n f args (blks ⟨rd, [], 0, []⟩) ps k v nw).run o ns).map (fun x => (x.res.asks.map fun l => l.map fun _ => True, x.r))) (h0 : ∀ ns, ((graphJ P S dr n f args (blks ⟨rd, [], 0, []⟩) ps k v nw).run o ns).map (fun x => x.res.asks.isSome) = some true) :
  Meets P (graphC f args rd k v nw) := by
 intro hok W hpre
 have hall : (graphJ P S dr n f args (blks ⟨rd, [], 0, []⟩) ps k v nw).all fun _ => True := by
  refine all_of_run _ o fun ns => ?_
  have h := h ns
  have h0 := h0 ns
  cases hx : (graphJ P S dr n f args (blks ⟨rd, [], 0, []⟩) ps k v nw).run o ns with
  | none => rw [hx] at h0; cases h0
  | some x =>
    rw [hx] at h h0
    simp only [Option.map_some, Option.some.injEq, Prod.mk.injEq] at h h0
    cases ha : x.res.asks with
    | none => rw [ha] at h0; cases h0
    | some l =>
      rw [ha] at h
      refine ⟨x, rfl, h.2, Res.asks_holds ha fun p hp => ?_⟩
      have h1 := h.1
      simp only [Option.map_some, Option.some.injEq] at h1
      rw [h1] at hp
      obtain ⟨q, -, rfl⟩ := List.mem_map.1 hp
      trivial
 refine (fnB_sound hS hP (callJ_sound hS hd hP n) n hall W (rep_of_pre (c := ⟨rd, [], 2 * k, []⟩) ⟨hpre.rd, hpre.use, hpre.nodup, hpre.apart, hpre.rb, hpre.apartB⟩)).mono ?_
 rintro en W' ⟨v', L, rfl, hr', hk⟩
 obtain ⟨h1, h2, h3⟩ := hk
 injection h1 with h1
 have h2 := tok_val h2
 refine ⟨_, List.mem_singleton_self _, letsOf (pickL L ps), congrArg Ending.returned h2, ?_⟩
 exact post_of_rep hr' (by rw [letsOf_length, h1]; rfl) trivial ps hps (by
  show fitsB _ (nw _ ++ [])
  rw [List.append_nil]
  exact sameAll_spec _ _ h3)
end
end Go.Proofs.YtlpcnaeknbmjdaaGreat.Sy
namespace Go.Proofs.YtlpcnaeknbmjdaaGreat
open Sy.O (bz fork nil)
open Sy.Res (need hyp br leaf both)
open Go Go.RowKit
open Sy (Let Blk)
structure NodeD where
 op : Int
 val : Int
 a : Int
 b : Int
def rdOf (B : List (Nat × Sy.Cont)) : List Blk := B.map fun p => ⟨p.1, p.2, false⟩
abbrev fOnce : FuncId := 129
def bodyO1 : Code := Sy.loopBody Tryz.f129 0
def bodyO2 : Code := Sy.loopBody Tryz.f129 1
def slO (v : Value) (g n cap i : Nat) : List (Nat × Value) := [(0, v), (2, .bool false), (3, .slice (some ⟨g, 0, none⟩) n cap), (11, v), (12, .int .i64 (Int.ofNat n)), (13, .int .i64 (Int.ofNat i))]
def intsV (l : List Int) : List Value := l.map fun i => Value.int .i64 i
def on1_o : Sy.O := (fork (bz 12 0xfea (fork (bz 26 0x3dad56f (fork (bz 23 0x5ad56f nil) nil)) (bz 3 0x7 (fork (bz 23 0x5ad56f nil) nil)))) nil)
noncomputable def on1_R (v : Value) (g n cap i : Nat) (xs : List Value) (f : Nat → Value) (B : List (Nat × Sy.Cont)) (ns : Nat → Sy.Let) : Sy.Res (Exit × Nat × List Value × List Blk) :=
 let z0 := Sy.ptrS v
 let z1 := rdOf B
 let z2 := ns 2
 let z3 := ns 3
 let z4 := 0 + Int.toNat z2.i * 1
 let z5 := Value.int .i64 (ns 5).i
 let z6 := Ex.leQ 6 (ns 0).i
 let z7 := Value.int .i64 (Ex.wrapQ .i64 (Ex.addQ (ns 5).i 1))
 let z8 := List.set xs z4 z7
 let z9 := 0 + Int.toNat z3.i * 1
 let z10 := some (Addr.mk g 0 none)
 let z11 := Sy.Cont.obj (Obj.cells (Array.mk [.int .i64 (ns 0).i, .int .u64 (ns 1).i, .int .i64 z2.i, .int .i64 z3.i]) 127)
 br (Ex.ltQ (Int.ofNat i) (Int.ofNat n)) (need ((∃ (n : Nat), ∃ (c : Nat), v = Value.slice (some (Addr.mk z0 (Sy.offS v) none)) n c) ∧ 0 ≤ Int.ofNat i ∧ Int.ofNat i < (↑(Sy.lenS v) : Int)) (need (∃ (i_1 : Int), Sy.HasL z1 z0 (Sy.offS v + Int.toNat (Int.ofNat i) * 4) (Value.int .i64 i_1)) (hyp (∀ (u : Value), Sy.HasL z1 z0 (Sy.offS v + Int.toNat (Int.ofNat i) * 4) u → u = Value.int .i64 (ns 0).i) (need (∃ (i_1 : Int), Sy.HasL z1 z0 (Sy.offS v + Int.toNat (Int.ofNat i) * 4 + 1) (Value.int .u64 i_1)) (hyp (∀ (u : Value), Sy.HasL z1 z0 (Sy.offS v + Int.toNat (Int.ofNat i) * 4 + 1) u → u = Value.int .u64 (ns 1).i) (need (∃ (i_1 : Int), Sy.HasL z1 z0 (Sy.offS v + Int.toNat (Int.ofNat i) * 4 + 1 + 1) (Value.int .i64 i_1)) (hyp (∀ (u : Value), Sy.HasL z1 z0 (Sy.offS v + Int.toNat (Int.ofNat i) * 4 + 1 + 1) u → u = Value.int .i64 z2.i) (need (∃ (i_1 : Int), Sy.HasL z1 z0 (Sy.offS v + Int.toNat (Int.ofNat i) * 4 + 1 + 1 + 1) (Value.int .i64 i_1)) (hyp (∀ (u : Value), Sy.HasL z1 z0 (Sy.offS v + Int.toNat (Int.ofNat i) * 4 + 1 + 1 + 1) u → u = Value.int .i64 z3.i) (br (Ex.leQ 3 (ns 0).i) (need (0 ≤ z2.i ∧ z2.i < (↑n : Int)) (need (∃ (i : Int), Sy.Cont.at (Sy.Cont.row 3 1 n cap xs) z4 = some (Value.int .i64 i)) (hyp (Sy.Cont.at (Sy.Cont.row 3 1 n cap xs) z4 = some z5) (need (0 ≤ z2.i ∧ z2.i < (↑n : Int)) (need (0 + Int.toNat z2.i * 1 < List.length xs) (br z6 (need (0 ≤ z3.i ∧ z3.i < (↑n : Int)) (need (∃ (i : Int), Sy.Cont.at (Sy.Cont.row 3 1 n cap z8) z9 = some (Value.int .i64 i)) (hyp
 (Sy.Cont.at (Sy.Cont.row 3 1 n cap z8) z9 = some (Value.int .i64 (ns 6).i)) (need (0 ≤ z3.i ∧ z3.i < (↑n : Int)) (need (0 + Int.toNat z3.i * 1 < List.length z8) (leaf (Exit.normal, 58, [v, Value.bool false, Value.slice z10 n cap, v, Value.int .i64 (Int.ofNat n), Value.int .i64 (Ex.wrapQ .i64 (Ex.addQ (Int.ofNat i) 1))], Blk.mk (ns 4).n z11 true :: Blk.mk g (Sy.Cont.row 3 1 n cap (List.set z8 z9 (Value.int .i64 (Ex.wrapQ .i64 (Ex.addQ (ns 6).i 1))))) true :: rdOf B))))))) (leaf (Exit.normal, 58, [v, Value.bool false, Value.slice z10 n cap, v, Value.int .i64 (Int.ofNat n), Value.int .i64 (Ex.wrapQ .i64 (Ex.addQ (Int.ofNat i) 1))], Blk.mk (ns 4).n z11 true :: Blk.mk g (Sy.Cont.row 3 1 n cap z8) true :: rdOf B)))))))) (br z6 (need (0 ≤ z3.i ∧ z3.i < (↑n : Int)) (need (∃ (i : Int), Sy.Cont.at (Sy.Cont.row 3 1 n cap xs) z9 = some (Value.int .i64 i)) (hyp (Sy.Cont.at (Sy.Cont.row 3 1 n cap xs) z9 = some z5) (need (0 ≤ z3.i ∧ z3.i < (↑n : Int)) (need (0 + Int.toNat z3.i * 1 < List.length xs) (leaf (Exit.normal, 58, [v, Value.bool false, Value.slice z10 n cap, v, Value.int .i64 (Int.ofNat n), Value.int .i64 (Ex.wrapQ .i64 (Ex.addQ (Int.ofNat i) 1))], Blk.mk (ns 4).n z11 true :: Blk.mk g (Sy.Cont.row 3 1 n cap (List.set xs z9 z7)) true :: rdOf B))))))) (leaf (Exit.normal, 58, [v, Value.bool false, Value.slice z10 n cap, v, Value.int .i64 (Int.ofNat n), Value.int .i64 (Ex.wrapQ .i64 (Ex.addQ (Int.ofNat i) 1))], Blk.mk (ns 4).n z11 true :: Blk.mk g (Sy.Cont.row 3 1 n cap xs) true :: rdOf
 B))))))))))))) (leaf (Exit.exit 0, 58, [v, Value.bool false, Value.slice z10 n cap, v, Value.int .i64 (Int.ofNat n), Value.int .i64 (Int.ofNat i)], Blk.mk g (Sy.Cont.row 3 1 n cap xs) true :: rdOf B))
theorem on1_run (v : Value) (g n cap i : Nat) (xs : List Value) (f : Nat → Value) (B : List (Nat × Sy.Cont)) : Sy.Ran (Sy.pieceT Tryz.prog Sy.S0 50 fOnce bodyO1 58 (slO v g n cap i) ((List.range 58).map f) (⟨g, .row 3 1 n cap xs, true⟩ :: rdOf B) [0, 2, 3, 11, 12, 13]) on1_o (on1_R v g n cap i xs f B) := ⟨fun _ => by kernel_rfl, fun _ => by kernel_rfl⟩
def slO2 (v : Value) (g n cap i : Nat) : List (Nat × Value) := [(0, v), (2, .bool false), (3, .slice (some ⟨g, 0, none⟩) n cap), (38, .slice (some ⟨g, 0, none⟩) n cap), (39, .int .i64 (Int.ofNat n)), (40, .int .i64 (Int.ofNat i))]
def on2_o : Sy.O := (fork (bz 15 0x555d (fork nil nil)) nil)
noncomputable def on2_R (v : Value) (g n cap i : Nat) (xs : List Value) (f : Nat → Value) (B : List (Nat × Sy.Cont)) (ns : Nat → Sy.Let) : Sy.Res (Exit × Nat × List Value × List Blk) :=
 let z0 := Int.ofNat i
 let z1 := 0 + Int.toNat z0 * 1
 let z2 := some (Addr.mk g 0 none)
 br (Ex.ltQ z0 (Int.ofNat n)) (need (0 ≤ Int.ofNat i ∧ Int.ofNat i < (↑n : Int)) (need (∃ (i_1 : Int), Sy.Cont.at (Sy.Cont.row 3 1 n cap xs) z1 = some (Value.int .i64 i_1)) (hyp (Sy.Cont.at (Sy.Cont.row 3 1 n cap xs) z1 = some (Value.int .i64 (ns 0).i)) (need (∃ (p : Option Addr), ∃ (n : Nat), ∃ (c : Nat), v = Value.slice p n c) (br (bif !Ex.eqQ (ns 0).i 1 == Ex.ltQ z0 (Ex.wrapQ .i64 (Ex.subQ' (Int.ofNat (Sy.lenS v)) 1)) then true else Ex.ltQ 1 (ns 0).i) (leaf (Exit.ret, 58, [v, Value.bool false, Value.slice z2 n cap, Value.slice z2 n cap, Value.int .i64 (Int.ofNat n), Value.int .i64 z0], Blk.mk g (Sy.Cont.row 3 1 n cap xs) true :: rdOf B)) (leaf (Exit.normal, 58, [v, Value.bool false, Value.slice z2 n cap, Value.slice z2 n cap, Value.int .i64 (Int.ofNat n), Value.int .i64 (Ex.wrapQ .i64 (Ex.addQ z0 1))], Blk.mk g (Sy.Cont.row 3 1 n cap xs) true :: rdOf B))))))) (leaf (Exit.exit 2, 58, [v, Value.bool false, Value.slice z2 n cap, Value.slice z2 n cap, Value.int .i64 (Int.ofNat n), Value.int .i64 z0], Blk.mk g (Sy.Cont.row 3 1 n cap xs) true :: rdOf B))
theorem on2_run (v : Value) (g n cap i : Nat) (xs : List Value) (f : Nat → Value) (B : List (Nat × Sy.Cont)) : Sy.Ran (Sy.pieceT Tryz.prog Sy.S0 50 fOnce bodyO2 58 (slO2 v g n cap i) ((List.range 58).map f) (⟨g, .row 3 1 n cap xs, true⟩ :: rdOf B) [0, 2, 3, 38, 39, 40]) on2_o (on2_R v g n cap i xs f B) := ⟨fun _ => by kernel_rfl, fun _ => by kernel_rfl⟩
open Go Go.RowKit
open Sy (Let Blk HasL)
structure NodesR (B : List (Nat × Sy.Cont)) (v : Value) (l : List NodeD) : Prop where
 sl : ∃ p n c, v = .slice p n c
 len : Sy.lenS v = l.length
 at_ : l ≠ [] → ∃ n c, v = .slice (some ⟨Sy.ptrS v, Sy.offS v, none⟩) n c
 op : ∀ i n, l[i]? = some n → HasL (rdOf B) (Sy.ptrS v) (Sy.offS v + i * 4) (.int .i64 n.op)
 val : ∀ i n, l[i]? = some n → HasL (rdOf B) (Sy.ptrS v) (Sy.offS v + i * 4 + 1) (.int .u64 n.val)
 a : ∀ i n, l[i]? = some n → HasL (rdOf B) (Sy.ptrS v) (Sy.offS v + i * 4 + 1 + 1) (.int .i64 n.a)
 b : ∀ i n, l[i]? = some n → HasL (rdOf B) (Sy.ptrS v) (Sy.offS v + i * 4 + 1 + 1 + 1) (.int .i64 n.b)
def bump (u : List Int) (i : Int) : List Int := u.set i.toNat (u.getD i.toNat 0 + 1)
def usedS (u : List Int) (n : NodeD) : List Int := bif Ex.leQ 6 n.op then bump (bif Ex.leQ 3 n.op then bump u n.a else u) n.b else bif Ex.leQ 3 n.op then bump u n.a else u
def usedL (l : List NodeD) (u : List Int) : List Int := l.foldl usedS u
def OperO (m : Nat) (n : NodeD) : Prop := (3 ≤ n.op → 0 ≤ n.a ∧ n.a < m) ∧ (6 ≤ n.op → 0 ≤ n.b ∧ n.b < m)
def BdU (m k : Nat) (u : List Int) : Prop := u.length = m ∧ ∀ x ∈ u, 0 ≤ x ∧ x ≤ 2 * k
theorem bump_bd {m : Nat} {k : Int} {u : List Int} {i : Int} (h : u.length = m ∧ ∀ x ∈ u, 0 ≤ x ∧ x ≤ k) (hi : 0 ≤ i ∧ i < m) : (bump u i).length = m ∧ ∀ x ∈ bump u i, 0 ≤ x ∧ x ≤ k + 1 := by
 unfold bump
 refine ⟨by simp [h.1], fun x hx => ?_⟩
 rcases List.mem_or_eq_of_mem_set hx with hx | rfl
 ·have := h.2 x hx
  omega
 ·have hlt : i.toNat < u.length := by rw [h.1]; omega
  have := h.2 (u.getD i.toNat 0) (by rw [List.getD_eq_getElem?_getD, List.getElem?_eq_getElem hlt]; exact List.getElem_mem hlt)
  omega
theorem row_ints {t n cap : Nat} {u : List Int} {i : Nat} (h : i < u.length) : (Sy.Cont.row t 1 n cap (intsV u)).at (0 + i * 1) = some (.int .i64 (u.getD i 0)) := by
 simp [Sy.Cont.at, intsV, h, List.getD_eq_getElem?_getD]
theorem ints_set {u : List Int} {i : Int} (h : 0 ≤ u.getD i.toNat 0 ∧ u.getD i.toNat 0 < 1000000) {x : Int} (hx : x = u.getD i.toNat 0) : (intsV u).set (0 + i.toNat * 1) (.int .i64 (Ex.wrapQ .i64 (Ex.addQ x 1))) = intsV (bump u i) := by
 subst hx
 have e : ∀ y : Int, 0 ≤ y ∧ y < 1000000 → Ex.wrapQ .i64 (Ex.addQ y 1) = y + 1 := fun y hy => by
  rw [Ex.wrapQ_eq, Ex.addQ_eq]
  simp [IntKind.wrap, IntKind.signed, IntKind.bits]
  omega
 rw [e _ h]
 unfold intsV bump
 rw [List.map_set]
 congr 1
 omega
theorem w_succ {k : Nat} (h : k < 4611686018427387904) : Ex.wrapQ .i64 (Ex.addQ (Int.ofNat k) 1) = Int.ofNat (k + 1) := by
 rw [Ex.wrapQ_eq, Ex.addQ_eq]
 simp [IntKind.wrap, IntKind.signed, IntKind.bits]
 omega
theorem getD_bd {m k : Nat} {u : List Int} (h : BdU m k u) {i : Nat} (hi : i < m) : 0 ≤ u.getD i 0 ∧ u.getD i 0 ≤ 2 * k := by
 have hlt : i < u.length := by rw [h.1]; exact hi
 exact h.2 _ (by rw [List.getD_eq_getElem?_getD, List.getElem?_eq_getElem hlt]; exact List.getElem_mem hlt)
theorem usedS_bd {m k : Nat} {u : List Int} {n : NodeD} (h : BdU m k u) (hn : OperO m n) : BdU m (k + 1) (usedS u n) := by
 have h0 : u.length = m ∧ ∀ x ∈ u, 0 ≤ x ∧ x ≤ (2 * k : Nat) := ⟨h.1, fun x hx => by have := h.2 x hx; omega⟩
 have up : ∀ (w : List Int) (c : Int), (w.length = m ∧ ∀ x ∈ w, 0 ≤ x ∧ x ≤ c) → c ≤ 2 * (k + 1 : Nat) → BdU m (k + 1) w := fun w c h1 h2 => ⟨h1.1, fun x hx => by have := h1.2 x hx; omega⟩
 unfold usedS
 rw [Ex.leQ_eq, Ex.leQ_eq]
 by_cases h3 : 3 ≤ n.op
 ·have b1 := bump_bd h0 (hn.1 h3)
  by_cases h6 : 6 ≤ n.op
  ·simp only [h3, h6, decide_true, cond_true]
   exact up _ _ (bump_bd b1 (hn.2 h6)) (by omega)
  ·simp only [h3, h6, decide_true, decide_false, cond_true, cond_false]
   exact up _ _ b1 (by omega)
 ·have h6 : ¬ 6 ≤ n.op := by omega
  simp only [h3, h6, decide_false, cond_false]
  exact up _ _ h0 (by omega)
def OkO (B : List (Nat × Sy.Cont)) (v : Value) (l : List NodeD) : Prop := NodesR B v l ∧ l.length ≤ 65536 ∧ ∀ n ∈ l, OperO l.length n
def loop1C (B : List (Nat × Sy.Cont)) (v : Value) (l : List NodeD) (g cap : Nat) : Sy.LoopC :=
 ⟨.loop bodyO1, 58, slO v g l.length cap 0, OkO B v l, ⟨[], [(g, .row 3 1 l.length cap (intsV (List.replicate l.length 0)))], 0, B⟩,
  [(⟨fun _ => True, fun _ => [(g, .row 3 1 l.length cap (intsV (usedL l (List.replicate l.length 0))))], fun _ => []⟩, .exit 0, fun _ => [(0, v), (2, .bool false), (3, .slice (some ⟨g, 0, none⟩) l.length cap)])]⟩
theorem usedL_step {l : List NodeD} {k : Nat} {n : NodeD} (h : l[k]? = some n) (u : List Int) : usedL (l.take (k + 1)) u = usedS (usedL (l.take k) u) n := by
 unfold usedL
 rw [List.take_add_one, h]
 simp
theorem usedL_bd {l : List NodeD} {m : Nat} {u : List Int} (hn : ∀ n ∈ l, OperO m n) (hu : BdU m 0 u) : ∀ k, k ≤ l.length → BdU m k (usedL (l.take k) u)
 | 0, _ => by simpa [usedL] using hu
 | k + 1, h => by
   have hk : l[k]? = some l[k] := List.getElem?_eq_getElem (by omega)
   rw [usedL_step hk]
   exact usedS_bd (usedL_bd hn hu k (by omega)) (hn _ (List.getElem_mem _))
theorem ent_tail {x y : Blk} {L : List Blk} : Sy.Ent (x :: y :: L) (y :: L) := Sy.Ent.sub (List.sublist_cons_self _ _)
theorem loop1C_met (B : List (Nat × Sy.Cont)) (v : Value) (l : List NodeD) (g cap : Nat) : Sy.MeetsL Tryz.prog (loop1C B v l g cap) := by
 refine Sy.loop_ofB (S := fun _ : Nat => Sy.S0) (n := 50) (fn := fOnce) (fun _ => Sy.S0_holds) mixed (body := bodyO1) rfl [0, 2, 3, 11, 12, 13] (fun k : Nat => slO v g l.length cap k)
  (fun k => ⟨g, .row 3 1 l.length cap (intsV (usedL (l.take k) (List.replicate l.length 0))), true⟩ :: rdOf B) (fun k => k ≤ l.length ∧ OkO B v l) (fun k => l.length - k)
  0 (fun h => ⟨Nat.zero_le _, h⟩) (fun p hp => hp) (by simp only [List.take_zero]; exact Sy.Ent.refl _) (o := fun _ => on1_o) (R := fun k f => on1_R v g l.length cap k _ f B) (fun k f _ => on1_run v g l.length cap k _ f B) ?_
 rintro - k f ⟨hk, hR, hlen, hop⟩ ns
 have hb := usedL_bd (u := List.replicate l.length 0) hop ⟨by simp, fun x hx => by rw [List.eq_of_mem_replicate hx]; simp⟩ k hk
 have hnext : ∀ n, l[k]? = some n → usedL (l.take (k + 1)) (List.replicate l.length 0) = usedS (usedL (l.take k) (List.replicate l.length 0)) n := fun n h => usedL_step h _
 generalize hu : usedL (l.take k) (List.replicate l.length 0) = u at *
 simp only [on1_R, Sy.Res.holds]
 refine ⟨fun hlt => ?_, fun hge => ?_⟩
 ·have hlt : k < l.length := by rw [Ex.ltQ_eq] at hlt; simpa using hlt
  obtain ⟨n, hn⟩ : ∃ n, l[k]? = some n := ⟨_, List.getElem?_eq_getElem hlt⟩
  have hO := hop n (List.mem_of_getElem? hn)
  have next : ∀ (w : List Int) (x : Blk), w = usedS u n → Sy.leafLB (loop1C B v l g cap) [0, 2, 3, 11, 12, 13] (fun k : Nat => slO v g l.length cap k) (fun k => ⟨g, .row 3 1 l.length cap (intsV (usedL (l.take k) (List.replicate l.length 0))), true⟩ :: rdOf B) (fun k => k ≤ l.length ∧ OkO B v l) (fun k => l.length - k) k
    (.normal, 58, [v, .bool false, .slice (some ⟨g, 0, none⟩) l.length cap, v, .int .i64 (Int.ofNat l.length), .int .i64 (Ex.wrapQ .i64 (Ex.addQ (Int.ofNat k) 1))], x :: ⟨g, .row 3 1 l.length cap (intsV w), true⟩ :: rdOf B) := fun w x hw => by
   refine ⟨rfl, .inl ⟨rfl, k + 1, ⟨by omega, hR, hlen, hop⟩, by show l.length - (k + 1) < l.length - k; omega, ?_, ?_⟩⟩
   ·rw [w_succ (by omega)]
    rfl
   ·show Sy.Ent _ (⟨g, .row 3 1 l.length cap (intsV (usedL (l.take (k + 1)) (List.replicate l.length 0))), true⟩ :: rdOf B)
    rw [hnext n hn, hw]
    exact ent_tail
  refine ⟨⟨hR.at_ (fun h => by rw [h] at hlt; simp at hlt), by simp, by rw [hR.len]; simpa using hlt⟩, ⟨n.op, hR.op k n hn⟩, fun e0 => ⟨⟨n.val, hR.val k n hn⟩, fun _ => ⟨⟨n.a, hR.a k n hn⟩, fun e2 => ⟨⟨n.b, hR.b k n hn⟩, fun e3 => ?_⟩⟩⟩⟩
  have e0 := e0 _ (hR.op k n hn)
  have e2 := e2 _ (hR.a k n hn)
  have e3 := e3 _ (hR.b k n hn)
  simp only [Value.int.injEq, true_and] at e0 e2 e3
  rw [← e0, ← e2, ← e3]
  have inr : ∀ (w : List Int) (c : Nat), BdU l.length c w → c ≤ 65540 → ∀ i : Int, 0 ≤ i ∧ i < (l.length : Int) → i.toNat < w.length ∧ 0 ≤ w.getD i.toNat 0 ∧ w.getD i.toNat 0 < 1000000 := fun w c hw hc i hi => by
   have := getD_bd hw (i := i.toNat) (by omega)
   refine ⟨by rw [hw.1]; omega, this.1, by omega⟩
  have hb1 : 3 ≤ n.op → BdU l.length (k + 1) (bump u n.a) := fun h3 => by
   have := bump_bd (m := l.length) (k := 2 * k) ⟨hb.1, fun x hx => hb.2 x hx⟩ (hO.1 h3)
   exact ⟨this.1, fun x hx => by have := this.2 x hx; omega⟩
  refine ⟨fun h3 => ?_, fun h3 => ?_⟩
  ·have h3' : 3 ≤ n.op := by rw [Ex.leQ_eq] at h3; simpa using h3
   obtain ⟨r1, r2⟩ := inr u k hb (by omega) n.a (hO.1 h3')
   refine ⟨hO.1 h3', ⟨_, row_ints r1⟩, fun e5 => ⟨hO.1 h3', by simp [intsV]; omega, fun h6 => ?_, fun h6 => ?_⟩⟩
   ·have h6' : 6 ≤ n.op := by rw [Ex.leQ_eq] at h6; simpa using h6
    rw [row_ints r1] at e5
    simp only [Option.some.injEq, Value.int.injEq, true_and] at e5
    rw [ints_set r2 e5.symm]
    obtain ⟨q1, q2⟩ := inr (bump u n.a) (k + 1) (hb1 h3') (by omega) n.b (hO.2 h6')
    refine ⟨hO.2 h6', ⟨_, row_ints q1⟩, fun e6 => ⟨hO.2 h6', by simp [intsV] at q1 ⊢; omega, ?_⟩⟩
    rw [row_ints q1] at e6
    simp only [Option.some.injEq, Value.int.injEq, true_and] at e6
    rw [ints_set q2 e6.symm]
    exact next _ _ (by unfold usedS; rw [h3, h6]; rfl)
   ·rw [row_ints r1] at e5
    simp only [Option.some.injEq, Value.int.injEq, true_and] at e5
    rw [ints_set r2 e5.symm]
    exact next _ _ (by unfold usedS; rw [h3, h6]; rfl)
  ·refine ⟨fun h6 => ?_, fun h6 => next _ _ (by unfold usedS; rw [h3, h6]; rfl)⟩
   rw [Ex.leQ_eq] at h3 h6
   simp at h3 h6
   omega
 ·have hge : k = l.length := by rw [Ex.ltQ_eq] at hge; simp at hge; omega
  subst hge
  refine ⟨rfl, .inr ⟨by simp, _, List.mem_singleton_self _, rfl, [], rfl, ⟨[0, 1, 2], rfl⟩, ?_, trivial⟩⟩
  have : u = usedL l (List.replicate l.length 0) := by rw [← hu, List.take_length]
  rw [this]
  exact Sy.Ent.sub (List.Sublist.cons_cons _ (List.nil_sublist _))
def loop1D (B : List (Nat × Sy.Cont)) (v : Value) (l : List NodeD) (g cap : Nat) : Sy.LoopC :=
 ⟨.loop bodyO1, 58, slO v g (Sy.lenS v) cap 0, OkO B v l, ⟨[], [(g, .row 3 1 (Sy.lenS v) cap (List.replicate (Sy.lenS v) (.int .i64 0)))], 0, B⟩,
  [(⟨fun _ => True, fun _ => [(g, .row 3 1 (Sy.lenS v) cap (intsV (usedL l (List.replicate l.length 0))))], fun _ => []⟩, .exit 0, fun _ => [(0, v), (2, .bool false), (3, .slice (some ⟨g, 0, none⟩) (Sy.lenS v) cap)])]⟩
theorem loop1D_met (B : List (Nat × Sy.Cont)) (v : Value) (l : List NodeD) (g cap : Nat) : Sy.MeetsL Tryz.prog (loop1D B v l g cap) := fun hok => by
 have e : Sy.lenS v = l.length := hok.1.len
 have h := loop1C_met B v l g cap hok
 unfold loop1D
 rw [e]
 have hz : intsV (List.replicate l.length 0) = List.replicate l.length (.int .i64 0) := by simp [intsV]
 unfold loop1C at h
 rw [hz] at h
 exact h
def passB (m i : Nat) (x : Int) : Bool := bif !(Ex.eqQ x 1 == Ex.ltQ (Int.ofNat i) ((m : Int) - 1)) then true else Ex.ltQ 1 x
def failsU (m : Nat) (u : List Int) : Prop := ∃ i x, u[i]? = some x ∧ passB m i x = true
theorem sub_one {m : Nat} (h : m ≤ 65536) : Ex.wrapQ .i64 (Ex.subQ' (Int.ofNat m) 1) = (m : Int) - 1 := by
 rw [Ex.wrapQ_eq, Ex.subQ_eq]
 simp [IntKind.wrap, IntKind.signed, IntKind.bits]
 omega
def loop2C (B : List (Nat × Sy.Cont)) (v : Value) (l : List NodeD) (u : List Int) (g cap : Nat) : Sy.LoopC :=
 ⟨.loop bodyO2, 58, slO2 v g l.length cap 0, OkO B v l ∧ u.length = l.length, ⟨[], [(g, .row 3 1 l.length cap (intsV u))], 0, B⟩,
  [(⟨fun _ => failsU l.length u, fun _ => [], fun _ => []⟩, .ret, fun _ => [(2, .bool false)]),
   (⟨fun _ => ¬ failsU l.length u, fun _ => [], fun _ => []⟩, .exit 2, fun _ => [])]⟩
theorem loop2C_met (B : List (Nat × Sy.Cont)) (v : Value) (l : List NodeD) (u : List Int) (g cap : Nat) : Sy.MeetsL Tryz.prog (loop2C B v l u g cap) := by
 refine Sy.loop_ofB (S := fun _ : Nat => Sy.S0) (n := 50) (fn := fOnce) (fun _ => Sy.S0_holds) mixed (body := bodyO2) rfl [0, 2, 3, 38, 39, 40] (fun k : Nat => slO2 v g l.length cap k)
  (fun _ => ⟨g, .row 3 1 l.length cap (intsV u), true⟩ :: rdOf B) (fun k => k ≤ l.length ∧ (OkO B v l ∧ u.length = l.length) ∧ ∀ i x, i < k → u[i]? = some x → passB l.length i x = false) (fun k => l.length - k)
  0 (fun h => ⟨Nat.zero_le _, h, fun i x hi => by omega⟩) (fun p hp => hp) (Sy.Ent.refl _) (o := fun _ => on2_o) (R := fun k f => on2_R v g l.length cap k _ f B) (fun k f _ => on2_run v g l.length cap k _ f B) ?_
 rintro - k f ⟨hk, ⟨⟨hR, hlen, hop⟩, hul⟩, hinv⟩ ns
 simp only [on2_R, Sy.Res.holds]
 refine ⟨fun hlt => ?_, fun hge => ?_⟩
 ·have hlt : k < l.length := by rw [Ex.ltQ_eq] at hlt; simpa using hlt
  have hku : k < u.length := by omega
  refine ⟨⟨by simp, by simpa using hlt⟩, ⟨_, row_ints hku⟩, fun e0 => ⟨hR.sl, ?_⟩⟩
  rw [show Int.toNat (Int.ofNat k) = k from rfl, row_ints hku] at e0
  simp only [Option.some.injEq, Value.int.injEq, true_and] at e0
  have hx : u[k]? = some (u.getD k 0) := by rw [List.getD_eq_getElem?_getD, List.getElem?_eq_getElem hku]; rfl
  rw [hR.len, sub_one hlen, ← e0]
  refine ⟨fun h => ?_, fun h => ?_⟩
  ·exact ⟨rfl, .inr ⟨by simp, _, List.mem_cons_self, rfl, [], rfl, ⟨[1], rfl⟩, Sy.Ent.sub (List.nil_sublist _), k, _, hx, h⟩⟩
  ·refine ⟨rfl, .inl ⟨rfl, k + 1, ⟨by omega, ⟨⟨hR, hlen, hop⟩, hul⟩, fun i x hi hxi => ?_⟩, by show l.length - (k + 1) < l.length - k; omega, ?_, Sy.Ent.refl _⟩⟩
   ·by_cases he : i = k
    ·subst he
     rw [hx] at hxi
     injection hxi with hxi
     rw [← hxi]
     exact h
    ·exact hinv i x (by omega) hxi
   ·rw [w_succ (by omega)]
    rfl
 ·have hge : k = l.length := by rw [Ex.ltQ_eq] at hge; simp at hge; omega
  subst hge
  refine ⟨rfl, .inr ⟨by simp, _, List.mem_cons_of_mem _ (List.mem_singleton_self _), rfl, [], rfl, ⟨[], rfl⟩, Sy.Ent.sub (List.nil_sublist _), ?_⟩⟩
  rintro ⟨i, x, hx, hp⟩
  have hi : i < u.length := (List.getElem?_eq_some_iff.1 hx).1
  rw [hinv i x (by omega) hx] at hp
  cases hp
def loop2D (B : List (Nat × Sy.Cont)) (v : Value) (l : List NodeD) (u : List Int) (g cap : Nat) : Sy.LoopC :=
 ⟨.loop bodyO2, 58, slO2 v g (Sy.lenS v) cap 0, OkO B v l ∧ u.length = l.length, ⟨[], [(g, .row 3 1 (Sy.lenS v) cap (intsV u))], 0, B⟩,
  [(⟨fun _ => failsU l.length u, fun _ => [], fun _ => []⟩, .ret, fun _ => [(2, .bool false)]),
   (⟨fun _ => ¬ failsU l.length u, fun _ => [], fun _ => []⟩, .exit 2, fun _ => [])]⟩
theorem loop2D_met (B : List (Nat × Sy.Cont)) (v : Value) (l : List NodeD) (u : List Int) (g cap : Nat) : Sy.MeetsL Tryz.prog (loop2D B v l u g cap) := fun hok => by
 have e : Sy.lenS v = l.length := hok.1.1.len
 have h := loop2C_met B v l u g cap hok
 unfold loop2D
 rw [e]
 exact h
def failsB (m : Nat) : List Int → Nat → Bool
 | [], _ => false
 | x :: r, i => passB m i x || failsB m r (i + 1)
theorem failsB_iff (m : Nat) : ∀ (u : List Int) (i : Nat), failsB m u i = true ↔ ∃ j x, u[j]? = some x ∧ passB m (i + j) x = true
 | [], i => by simp [failsB]
 | y :: r, i => by
   have ih := failsB_iff m r (i + 1)
   simp only [failsB, Bool.or_eq_true, ih]
   constructor
   ·rintro (h | ⟨j, x, h1, h2⟩)
    ·exact ⟨0, y, rfl, h⟩
    ·exact ⟨j + 1, x, by simpa using h1, by rw [show i + (j + 1) = i + 1 + j by omega]; exact h2⟩
   ·rintro ⟨j, x, h1, h2⟩
    cases j with
    | zero =>
      simp only [List.getElem?_cons_zero, Option.some.injEq] at h1
      subst h1
      exact .inl h2
    | succ j => exact .inr ⟨j, x, by simpa using h1, by rw [show i + 1 + j = i + (j + 1) by omega]; exact h2⟩
theorem failsU_iff (m : Nat) (u : List Int) : failsU m u ↔ failsB m u 0 = true := by
 rw [failsB_iff]
 simp [failsU]
def onceF (l : List NodeD) : Bool := !(failsB l.length (usedL l (List.replicate l.length 0)) 0)
def onceC (B : List (Nat × Sy.Cont)) (v : Value) (l : List NodeD) : Sy.CallC := ⟨fOnce, #[v], OkO B v l, ⟨[], [], 0, B⟩, [Sy.plainO (.bool (onceF l))]⟩
def ctxO (B : List (Nat × Sy.Cont)) (v : Value) (l : List NodeD) : Sy.Ctx := Sy.mkS [] [(fOnce, fun a _ => loop1D B v l (Sy.ptrN (a.get 3)) (Sy.capN (a.get 3))), (fOnce, fun a _ => loop2D B v l (usedL l (List.replicate l.length 0)) (Sy.ptrN (a.get 3)) (Sy.capN (a.get 3)))] []
theorem ctxO_holds (B : List (Nat × Sy.Cont)) (v : Value) (l : List NodeD) : (ctxO B v l).holds Tryz.prog := Sy.mkS_holds (fun _ h => (by cases h)) (fun p hp a L => by
 rcases List.mem_cons.1 hp with rfl | hp
 ·exact loop1D_met _ _ _ _ _
 rcases List.mem_singleton.1 hp with rfl
 exact loop2D_met _ _ _ _ _ _) (fun _ h => (by cases h))
open Sy.O (bz fork nil steps)
open Go Go.RowKit
open Sy (Let Blk HasL)
def onc_o : Sy.O := (bz 27 0x6b6ebaa (fork (steps [0, 1] nil) (steps [0, 1] nil)))
noncomputable def onc_R (B : List (Nat × Sy.Cont)) (v : Value) (l : List NodeD) (ns : Nat → Sy.Let) : Sy.Res (Value × List Blk) :=
 let z0 := (∃ (p : Option Addr), ∃ (n : Nat), ∃ (c : Nat), v = Value.slice p n c)
 let z1 := Sy.lenS v
 let z2 := Int.ofNat z1
 let z3 := List.length l
 let z4 := usedL l (List.replicate z3 0)
 let z5 := [] ++ List.eraseIdx (Blk.mk (ns 0).n (Sy.Cont.row 3 1 z1 (Int.toNat z2) (intsV z4)) true :: ([] ++ rdOf B)) (nat_lit 0)
 need z0 (need (0 ≤ Int.ofNat z1 ∧ Int.toNat z2 * (8 : Nat) ≤ 281474976710656 ∧ Int.toNat z2 ≤ 9223372036854775807) (need z0 (need (NodesR B v l ∧ List.length l ≤ 65536 ∧ ∀ (n : NodeD), n ∈ l → OperO z3 n) (need (Sy.GotL ([] ++ rdOf B) B) (hyp True (need (OkO B v l ∧ List.length z4 = List.length l) (need (Sy.GotL z5 B) (both (hyp (∃ (i : Nat), ∃ (x : Int), z4[i]? = some x ∧ passB z3 i x = true) (leaf (Value.bool false, [] ++ z5))) (hyp (failsU z3 z4 → False) (leaf (Value.bool true, [] ++ z5)))))))))))
theorem onc_run (B : List (Nat × Sy.Cont)) (v : Value) (l : List NodeD) : Sy.Ran (Sy.inB Tryz.prog (ctxO B v l) 50 fOnce #[v] (rdOf B)) onc_o (onc_R B v l) := ⟨fun _ => by kernel_rfl, fun _ => by kernel_rfl⟩
theorem gotL_of {L : List Blk} {B : List (Nat × Sy.Cont)} (h : ∀ p ∈ rdOf B, p ∈ L) : Sy.GotL L B := fun p hp => ⟨⟨p.1, p.2, false⟩, h _ (List.mem_map.2 ⟨p, hp, rfl⟩), rfl, fun _ h => h⟩
theorem plainB_leaf {c : Sy.CallC} {v : Value} (ho : Sy.plainO v ∈ c.outs) (hm : c.mem.m = 0) {y : Value × List Blk} (hv : y.1 = v) : Sy.leafB c y :=
 ⟨_, ho, [], hm.symm, hv, Sy.Ent.sub (List.nil_sublist _), trivial⟩
theorem usedL_len (l : List NodeD) (u : List Int) : (usedL l u).length = u.length := by
 unfold usedL
 induction l generalizing u with
 | nil => rfl
 | cons n l ih =>
   rw [List.foldl_cons, ih]
   unfold usedS bump
   cases Ex.leQ 6 n.op <;> cases Ex.leQ 3 n.op <;> simp
theorem onceC_met (B : List (Nat × Sy.Cont)) (v : Value) (l : List NodeD) : Sy.Meets Tryz.prog (onceC B v l) := by
 refine Sy.meets_ofB (ctxO_holds B v l) mixed (L := rdOf B) (Sy.Ent.refl _) (onc_run B v l) fun hok ns => ?_
 obtain ⟨hR, hlen, hop⟩ := hok
 have hul : (usedL l (List.replicate l.length 0)).length = l.length := by rw [usedL_len]; simp
 simp only [onc_R, Sy.Res.holds]
 have e : Int.toNat (Int.ofNat (Sy.lenS v)) = l.length := by rw [hR.len]; rfl
 refine ⟨hR.sl, ⟨by simp, by rw [e]; omega, by rw [e]; omega⟩, hR.sl, ⟨hR, hlen, hop⟩, gotL_of (fun p hp => by simpa using hp), fun _ => ⟨⟨⟨hR, hlen, hop⟩, hul⟩, gotL_of (fun p hp => by simp [hp]), fun h => ?_, fun h => ?_⟩⟩
 ·refine plainB_leaf (List.mem_singleton_self _) rfl ?_
  have : failsB l.length (usedL l (List.replicate l.length 0)) 0 = true := (failsU_iff _ _).1 h
  unfold onceF
  rw [this]
  rfl
 ·refine plainB_leaf (List.mem_singleton_self _) rfl ?_
  have : failsB l.length (usedL l (List.replicate l.length 0)) 0 = false := by
   cases hb : failsB l.length (usedL l (List.replicate l.length 0)) 0 with
   | false => rfl
   | true => exact absurd ((failsU_iff _ _).2 hb) h
  unfold onceF
  rw [this]
  rfl
open Sy.O (bz fork nil pack)
open Go Go.RowKit
open Sy (Let Blk HasL)
abbrev fExpr : FuncId := 98
def bodyX : Code := Sy.loopBody Tryz.f98 0
def slX (v : Value) (loc : Int) (i : Nat) : List (Nat × Value) := [(0, v), (1, .int .i64 loc), (4, .bool false), (9, v), (10, .int .i64 (Int.ofNat (Sy.lenS v))), (11, .int .i64 (Int.ofNat i))]
def ex1_o : Sy.O := (fork (pack 46 0x4e5183c000382d62c0002928398000142418800004000040000021 (fork (bz 52 0xa0205078453de (fork nil nil)) (bz 3 0x7 (fork (bz 142 0x280010005000f00100200804040f0508a7be (fork nil nil)) (bz 8 0xf7 (fork (bz 10 0x2f7 (fork nil nil)) (bz 17 0x17bde (fork nil nil)))))))) nil)
noncomputable def ex1_R (v : Value) (loc : Int) (i : Nat) (f : Nat → Value) (B : List (Nat × Sy.Cont)) (ns : Nat → Sy.Let) : Sy.Res (Exit × Nat × List Value × List Blk) :=
 let z0 := Int.ofNat i
 let z1 := Int.ofNat (Sy.lenS v)
 let z2 := Sy.ptrS v
 let z3 := rdOf B
 let z4 := Sy.offS v + Int.toNat z0 * 4
 let z5 := ns 0
 let z6 := Sy.offS v + Int.toNat z0 * 4 + 1
 let z7 := Sy.offS v + Int.toNat z0 * 4 + 1 + 1
 let z8 := ns 2
 let z9 := Sy.offS v + Int.toNat z0 * 4 + 1 + 1 + 1
 let z10 := ns 3
 let z11 := [v, Value.int .i64 loc, Value.bool false, v, Value.int .i64 z1, Value.int .i64 z0]
 let z12 := Sy.Cont.obj (Obj.cells (Array.mk [.int .i64 z5.i, .int .u64 (ns 1).i, .int .i64 z8.i, .int .i64 z10.i]) 127)
 let z13 := leaf (Exit.ret, 113, z11, Blk.mk (ns 4).n z12 true :: rdOf B)
 let z14 := leaf (Exit.normal, 113, [v, Value.int .i64 loc, Value.bool false, v, Value.int .i64 z1, Value.int .i64 (Ex.wrapQ .i64 (Ex.addQ z0 1))], Blk.mk (ns 4).n z12 true :: rdOf B)
 br (Ex.ltQ z0 z1) (need ((∃ (n : Nat), ∃ (c : Nat), v = Value.slice (some (Addr.mk z2 (Sy.offS v) none)) n c) ∧ 0 ≤ Int.ofNat i ∧ Int.ofNat i < (↑(Sy.lenS v) : Int)) (need (∃ (i_1 : Int), HasL z3 z2 z4 (Value.int .i64 i_1)) (hyp (∀ (u : Value), HasL z3 z2 z4 u → u = Value.int .i64 z5.i) (need (∃ (i_1 : Int), HasL z3 z2 z6 (Value.int .u64 i_1)) (hyp (∀ (u : Value), HasL z3 z2 z6 u → u = Value.int .u64 (ns 1).i) (need (∃ (i_1 : Int), HasL z3 z2 z7 (Value.int .i64 i_1)) (hyp (∀ (u : Value), HasL z3 z2 z7 u → u = Value.int .i64 z8.i) (need (∃ (i_1 : Int), HasL z3 z2 z9 (Value.int .i64 i_1)) (hyp (∀ (u : Value), HasL z3 z2 z9 u → u = Value.int .i64 z10.i) (br (Ex.eqQ z5.i 1) (br (bif !Ex.eqQ z8.i 0 then true else !Ex.eqQ z10.i 0) z13 z14) (br (Ex.eqQ z5.i 2) (br (bif !bif Ex.eqQ z8.i 0 then Ex.ltQ (ns 1).i (Ex.wrapQ .u64 loc) else false then true else !Ex.eqQ z10.i 0) z13 z14) (br (bif Ex.leQ 3 z5.i then Ex.leQ z5.i 5 else false) (br (bif !bif Ex.leQ 0 z8.i then Ex.ltQ z8.i z0 else false then true else !bif Ex.eqQ z10.i 0 then Ex.eqQ (ns 1).i 0 else false) z13 z14) (br (bif !bif Ex.leQ 0 z8.i then Ex.ltQ z8.i z0 else false then true else !bif bif bif bif Ex.leQ 0 z10.i then Ex.ltQ z10.i z0 else false then Ex.leQ 6 z5.i else false then Ex.leQ z5.i 19 else false then Ex.eqQ (ns 1).i 0 else false) z13 z14))))))))))))) (leaf (Exit.exit 0, 113, z11, rdOf B))
theorem ex1_run (v : Value) (loc : Int) (i : Nat) (f : Nat → Value) (B : List (Nat × Sy.Cont)) : Sy.Ran (Sy.pieceT Tryz.prog Sy.S0 50 fExpr bodyX 113 (slX v loc i) ((List.range 113).map f) (rdOf B) [0, 1, 4, 9, 10, 11]) ex1_o (ex1_R v loc i f B) := ⟨fun _ => by kernel_rfl, fun _ => by kernel_rfl⟩
def badX (loc : Int) (i : Nat) (n : NodeD) : Bool := bif Ex.eqQ n.op 1 then (bif !Ex.eqQ n.a 0 then true else !Ex.eqQ n.b 0)
 else bif Ex.eqQ n.op 2 then (bif !bif Ex.eqQ n.a 0 then Ex.ltQ n.val (Ex.wrapQ .u64 loc) else false then true else !Ex.eqQ n.b 0)
 else bif (bif Ex.leQ 3 n.op then Ex.leQ n.op 5 else false) then (bif !bif Ex.leQ 0 n.a then Ex.ltQ n.a (Int.ofNat i) else false then true else !bif Ex.eqQ n.b 0 then Ex.eqQ n.val 0 else false)
 else (bif !bif Ex.leQ 0 n.a then Ex.ltQ n.a (Int.ofNat i) else false then true
  else !bif bif bif bif Ex.leQ 0 n.b then Ex.ltQ n.b (Int.ofNat i) else false then Ex.leQ 6 n.op else false then Ex.leQ n.op 19 else false then Ex.eqQ n.val 0 else false)
def OkX (B : List (Nat × Sy.Cont)) (v : Value) (l : List NodeD) : Prop := NodesR B v l ∧ l.length < 4398046511104
def anyBad (loc : Int) (l : List NodeD) : Prop := ∃ i n, l[i]? = some n ∧ badX loc i n = true
def loopXC (B : List (Nat × Sy.Cont)) (v : Value) (l : List NodeD) (loc : Int) : Sy.LoopC :=
 ⟨.loop bodyX, 113, slX v loc 0, OkX B v l, ⟨[], [], 0, B⟩,
  [(⟨fun _ => anyBad loc l, fun _ => [], fun _ => []⟩, .ret, fun _ => [(4, .bool false)]),
   (⟨fun _ => ¬ anyBad loc l, fun _ => [], fun _ => []⟩, .exit 0, fun _ => [(0, v), (1, .int .i64 loc)])]⟩
theorem loopXC_met (B : List (Nat × Sy.Cont)) (v : Value) (l : List NodeD) (loc : Int) : Sy.MeetsL Tryz.prog (loopXC B v l loc) := by
 refine Sy.loop_ofB (S := fun _ : Nat => Sy.S0) (n := 50) (fn := fExpr) (fun _ => Sy.S0_holds) mixed (body := bodyX) rfl [0, 1, 4, 9, 10, 11] (fun k : Nat => slX v loc k)
  (fun _ => rdOf B) (fun k => k ≤ l.length ∧ OkX B v l ∧ ∀ i n, i < k → l[i]? = some n → badX loc i n = false) (fun k => l.length - k)
  0 (fun h => ⟨Nat.zero_le _, h, fun i x hi => by omega⟩) (fun p hp => hp) (Sy.Ent.refl _) (o := fun _ => ex1_o) (R := fun k f => ex1_R v loc k f B) (fun k f _ => ex1_run v loc k f B) ?_
 rintro - k f ⟨hk, ⟨hR, hlen⟩, hinv⟩ ns
 simp only [ex1_R, Sy.Res.holds]
 refine ⟨fun hlt => ?_, fun hge => ?_⟩
 ·have hlt : k < l.length := by rw [Ex.ltQ_eq, hR.len] at hlt; simpa using hlt
  obtain ⟨n, hn⟩ : ∃ n, l[k]? = some n := ⟨_, List.getElem?_eq_getElem hlt⟩
  have next : ∀ (x : Blk), badX loc k n = false → Sy.leafLB (loopXC B v l loc) [0, 1, 4, 9, 10, 11] (fun k : Nat => slX v loc k) (fun _ => rdOf B) (fun k => k ≤ l.length ∧ OkX B v l ∧ ∀ i n, i < k → l[i]? = some n → badX loc i n = false) (fun k => l.length - k) k
    (.normal, 113, [v, .int .i64 loc, .bool false, v, .int .i64 (Int.ofNat (Sy.lenS v)), .int .i64 (Ex.wrapQ .i64 (Ex.addQ (Int.ofNat k) 1))], x :: rdOf B) := fun x hb => by
   refine ⟨rfl, .inl ⟨rfl, k + 1, ⟨by omega, ⟨hR, hlen⟩, fun i m hi hm => ?_⟩, by show l.length - (k + 1) < l.length - k; omega, ?_, Sy.Ent.sub (List.sublist_cons_self _ _)⟩⟩
   ·by_cases he : i = k
    ·subst he
     rw [hn] at hm
     injection hm with hm
     rw [← hm]
     exact hb
    ·exact hinv i m (by omega) hm
   ·rw [w_succ (by omega)]
    rfl
  have stop : ∀ (x : Blk), badX loc k n = true → Sy.leafLB (loopXC B v l loc) [0, 1, 4, 9, 10, 11] (fun k : Nat => slX v loc k) (fun _ => rdOf B) (fun k => k ≤ l.length ∧ OkX B v l ∧ ∀ i n, i < k → l[i]? = some n → badX loc i n = false) (fun k => l.length - k) k
    (.ret, 113, [v, .int .i64 loc, .bool false, v, .int .i64 (Int.ofNat (Sy.lenS v)), .int .i64 (Int.ofNat k)], x :: rdOf B) := fun x hb =>
   ⟨rfl, .inr ⟨by simp, _, List.mem_cons_self, rfl, [], rfl, ⟨[2], rfl⟩, Sy.Ent.sub (List.nil_sublist _), k, n, hn, hb⟩⟩
  refine ⟨⟨hR.at_ (fun h => by rw [h] at hlt; simp at hlt), by simp, by rw [hR.len]; simpa using hlt⟩, ⟨n.op, hR.op k n hn⟩, fun e0 => ⟨⟨n.val, hR.val k n hn⟩, fun e1 => ⟨⟨n.a, hR.a k n hn⟩, fun e2 => ⟨⟨n.b, hR.b k n hn⟩, fun e3 => ?_⟩⟩⟩⟩
  have e0 := e0 _ (hR.op k n hn)
  have e1 := e1 _ (hR.val k n hn)
  have e2 := e2 _ (hR.a k n hn)
  have e3 := e3 _ (hR.b k n hn)
  simp only [Value.int.injEq, true_and] at e0 e1 e2 e3
  rw [← e0, ← e1, ← e2, ← e3]
  refine ⟨fun h1 => ⟨fun hb => stop _ ?_, fun hb => next _ ?_⟩, fun h1 => ⟨fun h2 => ⟨fun hb => stop _ ?_, fun hb => next _ ?_⟩, fun h2 => ⟨fun h3 => ⟨fun hb => stop _ ?_, fun hb => next _ ?_⟩, fun h3 => ⟨fun hb => stop _ ?_, fun hb => next _ ?_⟩⟩⟩⟩
  ·unfold badX; rw [h1]; exact hb
  ·unfold badX; rw [h1]; exact hb
  ·unfold badX; rw [h1, h2]; exact hb
  ·unfold badX; rw [h1, h2]; exact hb
  ·unfold badX; rw [h1, h2, h3]; exact hb
  ·unfold badX; rw [h1, h2, h3]; exact hb
  ·unfold badX; rw [h1, h2, h3]; exact hb
  ·unfold badX; rw [h1, h2, h3]; exact hb
 ·have hge : k = l.length := by rw [Ex.ltQ_eq, hR.len] at hge; simp at hge; omega
  subst hge
  refine ⟨rfl, .inr ⟨by simp, _, List.mem_cons_of_mem _ (List.mem_singleton_self _), rfl, [], rfl, ⟨[0, 1], rfl⟩, Sy.Ent.sub (List.nil_sublist _), ?_⟩⟩
  rintro ⟨i, x, hx, hp⟩
  rw [hinv i x (List.getElem?_eq_some_iff.1 hx).1 hx] at hp
  cases hp
def ctxX (B : List (Nat × Sy.Cont)) (v : Value) (l : List NodeD) (loc : Int) : Sy.Ctx := Sy.mkS [(fOnce, fun _ _ => onceC B v l)] [(fExpr, fun _ _ => loopXC B v l loc)] []
theorem ctxX_holds (B : List (Nat × Sy.Cont)) (v : Value) (l : List NodeD) (loc : Int) : (ctxX B v l loc).holds Tryz.prog := Sy.mkS_holds (fun p hp a L => by
 rcases List.mem_singleton.1 hp with rfl
 exact onceC_met _ _ _) (fun p hp a L => by
 rcases List.mem_singleton.1 hp with rfl
 exact loopXC_met _ _ _ _) (fun _ h => (by cases h))
open Go Go.RowKit
open Sy (Let Blk HasL)
def exq_o : Sy.O := (bz 6 0x36 (fork (steps [0, 1] nil) (bz 9 0x155 (fork (bz 8 0xbb nil) (steps [0] nil)))))
noncomputable def exq_R (B : List (Nat × Sy.Cont)) (v : Value) (l : List NodeD) (loc : Int) (ns : Nat → Sy.Let) : Sy.Res (Value × List Blk) :=
 let z0 := (∃ (p : Option Addr), ∃ (n : Nat), ∃ (c : Nat), v = Value.slice p n c)
 let z1 := [] ++ rdOf B
 let z2 := leaf (Value.bool false, [] ++ z1)
 let z3 := Int.ofNat (Sy.lenS v)
 need z0 (need (NodesR B v l ∧ List.length l < 4398046511104) (need (Sy.GotL z1 B) (both (hyp (∃ (i : Nat), ∃ (n : NodeD), l[i]? = some n ∧ badX loc i n = true) z2) (hyp (anyBad loc l → False) (need z0 (need z0 (br (bif Ex.ltQ 0 z3 then Ex.leQ z3 65536 else false) (need (NodesR B v l ∧ List.length l ≤ 65536 ∧ ∀ (n : NodeD), n ∈ l → OperO (List.length l) n) (need (Sy.GotL ([] ++ ([] ++ z1)) B) (hyp True (leaf (Value.bool (bif true then onceF l else false), [] ++ ([] ++ ([] ++ z1))))))) z2)))))))
theorem exq_run (B : List (Nat × Sy.Cont)) (v : Value) (l : List NodeD) (loc : Int) : Sy.Ran (Sy.inB Tryz.prog (ctxX B v l loc) 50 fExpr #[v, .int .i64 loc] (rdOf B)) exq_o (exq_R B v l loc) := ⟨fun _ => by kernel_rfl, fun _ => by kernel_rfl⟩
def anyBadB (loc : Int) : List NodeD → Nat → Bool
 | [], _ => false
 | n :: r, i => badX loc i n || anyBadB loc r (i + 1)
theorem anyBadB_iff (loc : Int) : ∀ (u : List NodeD) (i : Nat), anyBadB loc u i = true ↔ ∃ j x, u[j]? = some x ∧ badX loc (i + j) x = true
 | [], i => by simp [anyBadB]
 | y :: r, i => by
   have ih := anyBadB_iff loc r (i + 1)
   simp only [anyBadB, Bool.or_eq_true, ih]
   constructor
   ·rintro (h | ⟨j, x, h1, h2⟩)
    ·exact ⟨0, y, rfl, h⟩
    ·exact ⟨j + 1, x, by simpa using h1, by rw [show i + (j + 1) = i + 1 + j by omega]; exact h2⟩
   ·rintro ⟨j, x, h1, h2⟩
    cases j with
    | zero =>
      simp only [List.getElem?_cons_zero, Option.some.injEq] at h1
      subst h1
      exact .inl h2
    | succ j => exact .inr ⟨j, x, by simpa using h1, by rw [show i + 1 + j = i + (j + 1) by omega]; exact h2⟩
theorem anyBad_iff (loc : Int) (l : List NodeD) : anyBad loc l ↔ anyBadB loc l 0 = true := by
 rw [anyBadB_iff]
 simp [anyBad]
def exprF (loc : Int) (l : List NodeD) : Bool := !(anyBadB loc l 0) && (decide (0 < l.length) && (decide (l.length ≤ 65536) && onceF l))
theorem oper_of {loc : Int} {l : List NodeD} (h : ¬ anyBad loc l) : ∀ n ∈ l, OperO l.length n := fun n hn => by
 obtain ⟨i, hi⟩ := List.mem_iff_getElem?.1 hn
 have hlt : i < l.length := (List.getElem?_eq_some_iff.1 hi).1
 have hb : badX loc i n = false := by
  cases hb : badX loc i n with
  | false => rfl
  | true => exact absurd ⟨i, n, hi, hb⟩ h
 unfold badX at hb
 simp only [Ex.eqQ_eq, Ex.leQ_eq, Ex.ltQ_eq] at hb
 constructor
 ·intro h3
  by_cases h1 : n.op = 1
  ·omega
  by_cases h2 : n.op = 2
  ·omega
  by_cases h5 : n.op ≤ 5
  ·simp [h1, h2, h3, h5] at hb
   omega
  ·simp [h1, h2, h3, h5] at hb
   omega
 ·intro h6
  have h1 : n.op ≠ 1 := by omega
  have h2 : n.op ≠ 2 := by omega
  have h5 : ¬ n.op ≤ 5 := by omega
  simp [h1, h2, h5] at hb
  omega
def exprC (B : List (Nat × Sy.Cont)) (v : Value) (l : List NodeD) (loc : Int) : Sy.CallC := ⟨fExpr, #[v, .int .i64 loc], OkX B v l, ⟨[], [], 0, B⟩, [Sy.plainO (.bool (exprF loc l))]⟩
theorem exprC_met (B : List (Nat × Sy.Cont)) (v : Value) (l : List NodeD) (loc : Int) : Sy.Meets Tryz.prog (exprC B v l loc) := by
 refine Sy.meets_ofB (ctxX_holds B v l loc) mixed (L := rdOf B) (Sy.Ent.refl _) (exq_run B v l loc) fun hok ns => ?_
 obtain ⟨hR, hlen⟩ := hok
 have leaf : ∀ (b : Bool) (L : List Blk), b = exprF loc l → Sy.leafB (exprC B v l loc) (.bool b, L) := fun b L h => plainB_leaf (List.mem_singleton_self _) rfl (by rw [h])
 simp only [exq_R, Sy.Res.holds]
 refine ⟨hR.sl, ⟨hR, hlen⟩, gotL_of (fun p hp => by simpa using hp), fun h => leaf _ _ ?_, fun h => ⟨hR.sl, hR.sl, fun hb => ⟨⟨hR, ?_, oper_of h⟩, gotL_of (fun p hp => by simp [hp]), fun _ => leaf _ _ ?_⟩, fun hb => leaf _ _ ?_⟩⟩
 ·have : anyBadB loc l 0 = true := (anyBad_iff _ _).1 h
  simp [exprF, this]
 ·rw [hR.len, Ex.ltQ_eq, Ex.leQ_eq] at hb
  by_cases h0 : 0 < l.length
  ·simp [h0] at hb
   omega
  ·simp [h0] at hb
 ·have h1 : anyBadB loc l 0 = false := by
   cases h1 : anyBadB loc l 0 with
   | false => rfl
   | true => exact absurd ((anyBad_iff _ _).2 h1) h
  rw [hR.len, Ex.ltQ_eq, Ex.leQ_eq] at hb
  by_cases h0 : 0 < l.length
  ·have hl : l.length ≤ 65536 := by
    simp [h0] at hb
    omega
   simp [exprF, h1, h0, hl]
  ·simp [h0] at hb
 ·have h1 : anyBadB loc l 0 = false := by
   cases h1 : anyBadB loc l 0 with
   | false => rfl
   | true => exact absurd ((anyBad_iff _ _).2 h1) h
  rw [hR.len, Ex.ltQ_eq, Ex.leQ_eq] at hb
  by_cases h0 : 0 < l.length
  ·have hl : ¬ l.length ≤ 65536 := by
    intro hl
    simp [h0] at hb
    omega
   simp [exprF, hl]
  ·simp [exprF, h0]
open Go Go.RowKit
open Sy (Let Blk HasL)
structure ActD where
 op : Int
 dst : Int
 base : Int
 size : Int
 ix : List NodeD
 e : List NodeD
 f : List NodeD
 mode : Int
 to : Int
 line : Int
 col : Int
def actV (a : ActD) (iv ev fv : Value) : Value := .agg #[.int .i64 a.op, .int .i64 a.dst, .int .i64 a.base, .int .i64 a.size, iv, ev, fv, .int .i64 a.mode, .int .i64 a.to, .int .i64 a.line, .int .i64 a.col]
def progV (cells : Int) (tv : Value) : Value := .agg #[.int .i64 cells, tv]
def thrV (locals : Int) (av : Value) : Value := .agg #[.int .i64 locals, av]
abbrev fMay : FuncId := 95
abbrev fPlace : FuncId := 97
abbrev fAct : FuncId := 58
def ctxP (B : List (Nat × Sy.Cont)) (v : Value) (l : List NodeD) (loc : Int) : Sy.Ctx := Sy.mkS [(fExpr, fun _ _ => exprC B v l loc)] [] []
theorem ctxP_holds (B : List (Nat × Sy.Cont)) (v : Value) (l : List NodeD) (loc : Int) : (ctxP B v l loc).holds Tryz.prog := Sy.mkS_holds (fun p hp a L => by
 rcases List.mem_singleton.1 hp with rfl
 exact exprC_met _ _ _ _) (fun _ h => (by cases h)) (fun _ h => (by cases h))
def may_o : Sy.O := (fork (steps [1, 1] nil) (fork (steps [1, 1] nil) (fork (steps [0, 1] nil) (fork (steps [0, 1] nil) (fork (steps [1] nil) (fork (steps [1] nil) nil))))))
noncomputable def may_R (op mode : Int) (ns : Nat → Sy.Let) : Sy.Res (Value × List Blk) :=
 let z0 := leaf (Value.bool (bif Ex.leQ 1 mode then Ex.leQ mode 5 else false), [])
 br (Ex.eqQ op 2) (leaf (Value.bool (bif bif Ex.eqQ mode 1 then true else Ex.eqQ mode 2 then true else Ex.eqQ mode 5), [])) (br (Ex.eqQ op 3) (leaf (Value.bool (bif bif Ex.eqQ mode 1 then true else Ex.eqQ mode 3 then true else Ex.eqQ mode 5), [])) (br (Ex.eqQ op 4) z0 (br (Ex.eqQ op 5) z0 (br (Ex.eqQ op 6) z0 (br (Ex.eqQ op 7) (leaf (Value.bool (bif Ex.leQ 2 mode then Ex.leQ mode 5 else false), [])) (leaf (Value.bool (Ex.eqQ mode 0), [])))))))
theorem may_run (op mode : Int) : Sy.Ran (Sy.inB Tryz.prog Sy.S0 50 fMay #[.int .i64 op, .int .i64 mode] []) may_o (may_R op mode) := ⟨fun _ => by kernel_rfl, fun _ => by kernel_rfl⟩
def plc_o : Sy.O := (bz 39 0x6fdb6ddb6d (fork nil (bz 4 0xd (fork (bz 9 0x1bb (fork (bz 4 0xf nil) (bz 7 0x7b (fork (bz 17 0x1b2fb nil) (bz 4 0xf nil))))) (bz 11 0x7bf (fork (bz 17 0x1b2fb nil) (bz 4 0xf nil)))))))
noncomputable def plc_R (B : List (Nat × Sy.Cont)) (op dst base size mode to line col : Int) (iv ev fv tv : Value) (ix : List NodeD) (cells loc : Int) (ns : Nat → Sy.Let) : Sy.Res (Value × List Blk) :=
 let z0 := Sy.Cont.obj (Obj.cells (Array.mk [.int .i64 cells, tv]) 24)
 let z1 := Sy.Cont.obj (Obj.cells (Array.mk [.int .i64 op, .int .i64 dst, .int .i64 base, .int .i64 size, iv, ev, fv, .int .i64 mode, .int .i64 to, .int .i64 line, .int .i64 col]) 46)
 let z2 := leaf (Value.bool false, Blk.mk (ns 1).n z0 true :: Blk.mk (ns 0).n z1 true :: rdOf B)
 let z3 := br (Ex.ltQ 0 size) (need (NodesR B iv ix ∧ List.length ix < 4398046511104) (need (Sy.GotL (rdOf B) B) (hyp True (leaf (Value.bool (bif false then true else bif true then exprF loc ix else false), Blk.mk (ns 1).n z0 true :: Blk.mk (ns 0).n z1 true :: rdOf B))))) z2
 br (bif bif bif bif Ex.ltQ size 0 then true else Ex.ltQ 1024 size then true else !Ex.eqQ (Ex.andQ .i64 size (Ex.wrapQ .i64 (Ex.subQ' size 1))) 0 then true else Ex.ltQ base 0 then true else Ex.ltQ (Ex.wrapQ .i64 (Ex.subQ' cells (bif Ex.ltQ 1 size then size else 1))) base) z2 (br (Ex.eqQ size 0) (need (∃ (p : Option Addr), ∃ (n : Nat), ∃ (c : Nat), iv = Value.slice p n c) (br (bif true then Ex.eqQ (Int.ofNat (Sy.lenS iv)) 0 else false) (leaf (Value.bool true, Blk.mk (ns 1).n z0 true :: Blk.mk (ns 0).n z1 true :: rdOf B)) z3)) z3)
theorem plc_run (B : List (Nat × Sy.Cont)) (op dst base size mode to line col : Int) (iv ev fv tv : Value) (ix : List NodeD) (cells loc : Int) : Sy.Ran (Sy.inB Tryz.prog (ctxP B iv ix loc) 50 fPlace #[.agg #[.int .i64 op, .int .i64 dst, .int .i64 base, .int .i64 size, iv, ev, fv, .int .i64 mode, .int .i64 to, .int .i64 line, .int .i64 col], progV cells tv, .int .i64 loc] (rdOf B)) plc_o (plc_R B op dst base size mode to line col iv ev fv tv ix cells loc) := ⟨fun _ => by kernel_rfl, fun _ => by kernel_rfl⟩
def mayF (op mode : Int) : Bool := bif Ex.eqQ op 2 then (bif bif Ex.eqQ mode 1 then true else Ex.eqQ mode 2 then true else Ex.eqQ mode 5)
 else bif Ex.eqQ op 3 then (bif bif Ex.eqQ mode 1 then true else Ex.eqQ mode 3 then true else Ex.eqQ mode 5)
 else bif Ex.eqQ op 4 then (bif Ex.leQ 1 mode then Ex.leQ mode 5 else false)
 else bif Ex.eqQ op 5 then (bif Ex.leQ 1 mode then Ex.leQ mode 5 else false)
 else bif Ex.eqQ op 6 then (bif Ex.leQ 1 mode then Ex.leQ mode 5 else false)
 else bif Ex.eqQ op 7 then (bif Ex.leQ 2 mode then Ex.leQ mode 5 else false)
 else Ex.eqQ mode 0
def mayC (op mode : Int) : Sy.CallC := ⟨fMay, #[.int .i64 op, .int .i64 mode], True, ⟨[], [], 0, []⟩, [Sy.plainO (.bool (mayF op mode))]⟩
theorem mayC_met (op mode : Int) : Sy.Meets Tryz.prog (mayC op mode) := by
 refine Sy.meets_ofB Sy.S0_holds mixed (L := []) (Sy.Ent.refl _) (may_run op mode) fun _ ns => ?_
 simp only [may_R, Sy.Res.holds]
 have leaf : ∀ b, b = mayF op mode → Sy.leafB (mayC op mode) (.bool b, []) := fun b h => plainB_leaf (List.mem_singleton_self _) rfl (by rw [h])
 unfold mayF at leaf
 refine ⟨fun h1 => leaf _ ?_, fun h1 => ⟨fun h2 => leaf _ ?_, fun h2 => ⟨fun h3 => leaf _ ?_, fun h3 => ⟨fun h4 => leaf _ ?_, fun h4 => ⟨fun h5 => leaf _ ?_, fun h5 => ⟨fun h6 => leaf _ ?_, fun h6 => leaf _ ?_⟩⟩⟩⟩⟩⟩
 all_goals simp_all
def placeF (size base cells loc : Int) (ix : List NodeD) : Bool := bif (bif bif bif bif Ex.ltQ size 0 then true else Ex.ltQ 1024 size then true
 else !Ex.eqQ (Ex.andQ .i64 size (Ex.wrapQ .i64 (Ex.subQ' size 1))) 0 then true else Ex.ltQ base 0 then true
 else Ex.ltQ (Ex.wrapQ .i64 (Ex.subQ' cells (bif Ex.ltQ 1 size then size else 1))) base) then false
 else bif Ex.eqQ size 0 then decide (ix.length = 0) else exprF loc ix
def placeC (B : List (Nat × Sy.Cont)) (op dst base size mode to line col : Int) (iv ev fv tv : Value) (ix : List NodeD) (cells loc : Int) : Sy.CallC :=
 ⟨fPlace, #[.agg #[.int .i64 op, .int .i64 dst, .int .i64 base, .int .i64 size, iv, ev, fv, .int .i64 mode, .int .i64 to, .int .i64 line, .int .i64 col], progV cells tv, .int .i64 loc], OkX B iv ix, ⟨[], [], 0, B⟩, [Sy.plainO (.bool (placeF size base cells loc ix))]⟩
theorem placeC_met (B : List (Nat × Sy.Cont)) (op dst base size mode to line col : Int) (iv ev fv tv : Value) (ix : List NodeD) (cells loc : Int) : Sy.Meets Tryz.prog (placeC B op dst base size mode to line col iv ev fv tv ix cells loc) := by
 refine Sy.meets_ofB (ctxP_holds B iv ix loc) mixed (L := rdOf B) (Sy.Ent.refl _) (plc_run B op dst base size mode to line col iv ev fv tv ix cells loc) fun hok ns => ?_
 obtain ⟨hR, hlen⟩ := hok
 simp only [plc_R, Sy.Res.holds]
 have leaf : ∀ b L, b = placeF size base cells loc ix → Sy.leafB (placeC B op dst base size mode to line col iv ev fv tv ix cells loc) (.bool b, L) := fun b L h => plainB_leaf (List.mem_singleton_self _) rfl (by rw [h])
 have got : Sy.GotL (rdOf B) B := gotL_of fun p hp => hp
 have hl : Ex.eqQ (Int.ofNat (Sy.lenS iv)) 0 = decide (ix.length = 0) := by
  rw [hR.len, Ex.eqQ_eq]
  by_cases h : ix.length = 0 <;> simp [h]
 rw [hl]
 refine ⟨fun h1 => leaf _ _ ?_, fun h1 => ⟨fun h2 => ⟨hR.sl, fun h3 => leaf _ _ ?_, fun h3 => ⟨fun h4 => ?_, fun h4 => leaf _ _ ?_⟩⟩, fun h2 => ⟨fun h4 => ⟨⟨hR, hlen⟩, got, fun _ => leaf _ _ ?_⟩, fun h4 => ?_⟩⟩⟩
 ·unfold placeF
  rw [h1]
  rfl
 ·unfold placeF
  rw [h1, h2]
  simpa using h3.symm
 ·exfalso
  rw [Ex.eqQ_eq] at h2
  rw [Ex.ltQ_eq] at h4
  simp at h2 h4
  omega
 ·unfold placeF
  rw [h1, h2]
  simpa using h3.symm
 ·unfold placeF
  rw [h1, h2]
  rfl
 ·exfalso
  rw [Ex.eqQ_eq] at h2
  rw [Ex.ltQ_eq] at h4
  have h5 : Ex.ltQ size 0 = false := by
   cases h5 : Ex.ltQ size 0 with
   | false => rfl
   | true => rw [h5] at h1; simp at h1
  rw [Ex.ltQ_eq] at h5
  simp at h2 h4 h5
  omega
open Sy.O (bz nil)
open Go Go.RowKit
open Sy (Let Blk HasL)
abbrev fParts : FuncId := 96
def pt1_o : Sy.O := (bz 6 0x3f nil)
noncomputable def pt1_R  (ns : Nat → Sy.Let) : Sy.Res (Value × List Blk) :=
 let z0 := Array.mk [Value.bool true, Value.bool false, Value.bool true, Value.bool false, Value.bool false]
 leaf (Value.agg z0, [Blk.mk (ns 0).n (.obj (.cells z0 176)) true])
theorem pt1_run  : Sy.Ran (Sy.inB Tryz.prog Sy.S0 50 fParts #[.int .i64 1] []) pt1_o (pt1_R ) := ⟨fun _ => by kernel_rfl, fun _ => by kernel_rfl⟩
def pt2_o : Sy.O := (bz 6 0x3f nil)
noncomputable def pt2_R  (ns : Nat → Sy.Let) : Sy.Res (Value × List Blk) :=
 let z0 := Array.mk [Value.bool true, Value.bool true, Value.bool false, Value.bool false, Value.bool false]
 leaf (Value.agg z0, [Blk.mk (ns 0).n (.obj (.cells z0 176)) true])
theorem pt2_run  : Sy.Ran (Sy.inB Tryz.prog Sy.S0 50 fParts #[.int .i64 2] []) pt2_o (pt2_R ) := ⟨fun _ => by kernel_rfl, fun _ => by kernel_rfl⟩
def pt3_o : Sy.O := (bz 6 0x3f nil)
noncomputable def pt3_R  (ns : Nat → Sy.Let) : Sy.Res (Value × List Blk) :=
 let z0 := Array.mk [Value.bool false, Value.bool true, Value.bool true, Value.bool false, Value.bool false]
 leaf (Value.agg z0, [Blk.mk (ns 0).n (.obj (.cells z0 176)) true])
theorem pt3_run  : Sy.Ran (Sy.inB Tryz.prog Sy.S0 50 fParts #[.int .i64 3] []) pt3_o (pt3_R ) := ⟨fun _ => by kernel_rfl, fun _ => by kernel_rfl⟩
def pt4_o : Sy.O := (bz 6 0x3f nil)
noncomputable def pt4_R  (ns : Nat → Sy.Let) : Sy.Res (Value × List Blk) :=
 let z0 := Array.mk [Value.bool true, Value.bool true, Value.bool true, Value.bool false, Value.bool false]
 leaf (Value.agg z0, [Blk.mk (ns 0).n (.obj (.cells z0 176)) true])
theorem pt4_run  : Sy.Ran (Sy.inB Tryz.prog Sy.S0 50 fParts #[.int .i64 4] []) pt4_o (pt4_R ) := ⟨fun _ => by kernel_rfl, fun _ => by kernel_rfl⟩
def pt5_o : Sy.O := (bz 6 0x3f nil)
noncomputable def pt5_R  (ns : Nat → Sy.Let) : Sy.Res (Value × List Blk) :=
 let z0 := Array.mk [Value.bool true, Value.bool true, Value.bool true, Value.bool false, Value.bool false]
 leaf (Value.agg z0, [Blk.mk (ns 0).n (.obj (.cells z0 176)) true])
theorem pt5_run  : Sy.Ran (Sy.inB Tryz.prog Sy.S0 50 fParts #[.int .i64 5] []) pt5_o (pt5_R ) := ⟨fun _ => by kernel_rfl, fun _ => by kernel_rfl⟩
def pt6_o : Sy.O := (bz 6 0x3f nil)
noncomputable def pt6_R  (ns : Nat → Sy.Let) : Sy.Res (Value × List Blk) :=
 let z0 := Array.mk [Value.bool true, Value.bool true, Value.bool true, Value.bool true, Value.bool false]
 leaf (Value.agg z0, [Blk.mk (ns 0).n (.obj (.cells z0 176)) true])
theorem pt6_run  : Sy.Ran (Sy.inB Tryz.prog Sy.S0 50 fParts #[.int .i64 6] []) pt6_o (pt6_R ) := ⟨fun _ => by kernel_rfl, fun _ => by kernel_rfl⟩
def pt7_o : Sy.O := (bz 6 0x3f nil)
noncomputable def pt7_R  (ns : Nat → Sy.Let) : Sy.Res (Value × List Blk) :=
 let z0 := Array.mk [Value.bool false, Value.bool false, Value.bool false, Value.bool false, Value.bool false]
 leaf (Value.agg z0, [Blk.mk (ns 0).n (.obj (.cells z0 176)) true])
theorem pt7_run  : Sy.Ran (Sy.inB Tryz.prog Sy.S0 50 fParts #[.int .i64 7] []) pt7_o (pt7_R ) := ⟨fun _ => by kernel_rfl, fun _ => by kernel_rfl⟩
def pt8_o : Sy.O := (bz 6 0x3f nil)
noncomputable def pt8_R  (ns : Nat → Sy.Let) : Sy.Res (Value × List Blk) :=
 let z0 := Array.mk [Value.bool false, Value.bool false, Value.bool true, Value.bool false, Value.bool false]
 leaf (Value.agg z0, [Blk.mk (ns 0).n (.obj (.cells z0 176)) true])
theorem pt8_run  : Sy.Ran (Sy.inB Tryz.prog Sy.S0 50 fParts #[.int .i64 8] []) pt8_o (pt8_R ) := ⟨fun _ => by kernel_rfl, fun _ => by kernel_rfl⟩
def pt9_o : Sy.O := (bz 6 0x3f nil)
noncomputable def pt9_R  (ns : Nat → Sy.Let) : Sy.Res (Value × List Blk) :=
 let z0 := Array.mk [Value.bool false, Value.bool false, Value.bool false, Value.bool false, Value.bool true]
 leaf (Value.agg z0, [Blk.mk (ns 0).n (.obj (.cells z0 176)) true])
theorem pt9_run  : Sy.Ran (Sy.inB Tryz.prog Sy.S0 50 fParts #[.int .i64 9] []) pt9_o (pt9_R ) := ⟨fun _ => by kernel_rfl, fun _ => by kernel_rfl⟩
def pt10_o : Sy.O := (bz 6 0x3f nil)
noncomputable def pt10_R  (ns : Nat → Sy.Let) : Sy.Res (Value × List Blk) :=
 let z0 := Array.mk [Value.bool false, Value.bool false, Value.bool true, Value.bool false, Value.bool true]
 leaf (Value.agg z0, [Blk.mk (ns 0).n (.obj (.cells z0 176)) true])
theorem pt10_run  : Sy.Ran (Sy.inB Tryz.prog Sy.S0 50 fParts #[.int .i64 10] []) pt10_o (pt10_R ) := ⟨fun _ => by kernel_rfl, fun _ => by kernel_rfl⟩
def hasDst (op : Int) : Bool := decide (op = 1 ∨ op = 2 ∨ op = 4 ∨ op = 5 ∨ op = 6)
def hasPlace (op : Int) : Bool := decide (2 ≤ op ∧ op ≤ 6)
def hasE (op : Int) : Bool := decide (op ≠ 2 ∧ op ≠ 7 ∧ op ≠ 9)
def hasF (op : Int) : Bool := decide (op = 6)
def hasTo (op : Int) : Bool := decide (op = 9 ∨ op = 10)
def partsV (op : Int) : Value := .agg #[.bool (hasDst op), .bool (hasPlace op), .bool (hasE op), .bool (hasF op), .bool (hasTo op)]
def partsC (op : Int) : Sy.CallC := ⟨fParts, #[.int .i64 op], 1 ≤ op ∧ op ≤ 10, ⟨[], [], 0, []⟩, [Sy.plainO (partsV op)]⟩
theorem partsC_met (op : Int) : Sy.Meets Tryz.prog (partsC op) := fun hok => by
 have h : op = 1 ∨ op = 2 ∨ op = 3 ∨ op = 4 ∨ op = 5 ∨ op = 6 ∨ op = 7 ∨ op = 8 ∨ op = 9 ∨ op = 10 := by
  have := hok.1
  have := hok.2
  omega
 rcases h with rfl | rfl | rfl | rfl | rfl | rfl | rfl | rfl | rfl | rfl
 ·exact Sy.meets_ofB Sy.S0_holds mixed (c := partsC 1) (L := []) (Sy.Ent.refl _) pt1_run (fun _ ns => by
   simp only [pt1_R, Sy.Res.holds]
   first | exact plainB_leaf (List.mem_singleton_self _) rfl rfl | exact fun _ => plainB_leaf (List.mem_singleton_self _) rfl rfl) hok
 ·exact Sy.meets_ofB Sy.S0_holds mixed (c := partsC 2) (L := []) (Sy.Ent.refl _) pt2_run (fun _ ns => by
   simp only [pt2_R, Sy.Res.holds]
   first | exact plainB_leaf (List.mem_singleton_self _) rfl rfl | exact fun _ => plainB_leaf (List.mem_singleton_self _) rfl rfl) hok
 ·exact Sy.meets_ofB Sy.S0_holds mixed (c := partsC 3) (L := []) (Sy.Ent.refl _) pt3_run (fun _ ns => by
   simp only [pt3_R, Sy.Res.holds]
   first | exact plainB_leaf (List.mem_singleton_self _) rfl rfl | exact fun _ => plainB_leaf (List.mem_singleton_self _) rfl rfl) hok
 ·exact Sy.meets_ofB Sy.S0_holds mixed (c := partsC 4) (L := []) (Sy.Ent.refl _) pt4_run (fun _ ns => by
   simp only [pt4_R, Sy.Res.holds]
   first | exact plainB_leaf (List.mem_singleton_self _) rfl rfl | exact fun _ => plainB_leaf (List.mem_singleton_self _) rfl rfl) hok
 ·exact Sy.meets_ofB Sy.S0_holds mixed (c := partsC 5) (L := []) (Sy.Ent.refl _) pt5_run (fun _ ns => by
   simp only [pt5_R, Sy.Res.holds]
   first | exact plainB_leaf (List.mem_singleton_self _) rfl rfl | exact fun _ => plainB_leaf (List.mem_singleton_self _) rfl rfl) hok
 ·exact Sy.meets_ofB Sy.S0_holds mixed (c := partsC 6) (L := []) (Sy.Ent.refl _) pt6_run (fun _ ns => by
   simp only [pt6_R, Sy.Res.holds]
   first | exact plainB_leaf (List.mem_singleton_self _) rfl rfl | exact fun _ => plainB_leaf (List.mem_singleton_self _) rfl rfl) hok
 ·exact Sy.meets_ofB Sy.S0_holds mixed (c := partsC 7) (L := []) (Sy.Ent.refl _) pt7_run (fun _ ns => by
   simp only [pt7_R, Sy.Res.holds]
   first | exact plainB_leaf (List.mem_singleton_self _) rfl rfl | exact fun _ => plainB_leaf (List.mem_singleton_self _) rfl rfl) hok
 ·exact Sy.meets_ofB Sy.S0_holds mixed (c := partsC 8) (L := []) (Sy.Ent.refl _) pt8_run (fun _ ns => by
   simp only [pt8_R, Sy.Res.holds]
   first | exact plainB_leaf (List.mem_singleton_self _) rfl rfl | exact fun _ => plainB_leaf (List.mem_singleton_self _) rfl rfl) hok
 ·exact Sy.meets_ofB Sy.S0_holds mixed (c := partsC 9) (L := []) (Sy.Ent.refl _) pt9_run (fun _ ns => by
   simp only [pt9_R, Sy.Res.holds]
   first | exact plainB_leaf (List.mem_singleton_self _) rfl rfl | exact fun _ => plainB_leaf (List.mem_singleton_self _) rfl rfl) hok
 ·exact Sy.meets_ofB Sy.S0_holds mixed (c := partsC 10) (L := []) (Sy.Ent.refl _) pt10_run (fun _ ns => by
   simp only [pt10_R, Sy.Res.holds]
   first | exact plainB_leaf (List.mem_singleton_self _) rfl rfl | exact fun _ => plainB_leaf (List.mem_singleton_self _) rfl rfl) hok
def ctxW (B : List (Nat × Sy.Cont)) (op dst base size mode to line col : Int) (iv ev fv tv : Value) (ix e f : List NodeD) (cells loc : Int) : Sy.Ctx := Sy.mkS [(fMay, fun _ _ => mayC op mode), (fParts, fun _ _ => partsC op), (fPlace, fun _ _ => placeC B op dst base size mode to line col iv ev fv tv ix cells loc), (fExpr, fun _ _ => exprC B ev e loc), (fExpr, fun _ _ => exprC B fv f loc)] [] []
theorem ctxW_holds (B : List (Nat × Sy.Cont)) (op dst base size mode to line col : Int) (iv ev fv tv : Value) (ix e f : List NodeD) (cells loc : Int) : (ctxW B op dst base size mode to line col iv ev fv tv ix e f cells loc).holds Tryz.prog := Sy.mkS_holds (fun p hp a L => by
 simp only [List.mem_cons, List.not_mem_nil, or_false] at hp
 rcases hp with rfl | rfl | rfl | rfl | rfl
 ·exact mayC_met _ _
 ·exact partsC_met _
 ·exact placeC_met _ _ _ _ _ _ _ _ _ _ _ _ _ _ _ _
 ·exact exprC_met _ _ _ _
 ·exact exprC_met _ _ _ _) (fun _ h => (by cases h)) (fun _ h => (by cases h))
def partsX (op : Int) : Sy.CallC := ⟨fParts, #[.int .i64 op], False, ⟨[], [], 0, []⟩, [Sy.plainO (.agg #[.bool false, .bool false, .bool false, .bool false, .bool false])]⟩
def ctxV (op mode : Int) : Sy.Ctx := Sy.mkS [(fMay, fun _ _ => mayC op mode), (fParts, fun _ _ => partsX op)] [] []
theorem ctxV_holds (op mode : Int) : (ctxV op mode).holds Tryz.prog := Sy.mkS_holds (fun p hp a L => by
 simp only [List.mem_cons, List.not_mem_nil, or_false] at hp
 rcases hp with rfl | rfl
 ·exact mayC_met _ _
 ·exact fun h => h.elim) (fun _ h => (by cases h)) (fun _ h => (by cases h))
open Sy.O (bz fork nil pack steps)
open Go Go.RowKit
open Sy (Let Blk HasL)
def wac1_o : Sy.O := (bz 37 0x1bf3e7f3f9 (fork nil (bz 26 0x3c7fef9 (fork (bz 7 0x7f nil) (bz 15 0x7be3 (fork (steps [0] nil) (bz 33 0x1e3ffffff (fork (pack 10 0x0 nil) (bz 10 0x3e3 (fork (bz 5 0x1f nil) (bz 12 0xee3 (fork nil (bz 11 0x58f (fork (steps [0] nil) (bz 11 0x58f (fork (steps [0] nil) (bz 30 0x3617be3f (fork (steps [0] nil) (bz 34 0x3c7ffffff (fork nil nil))))))))))))))))))))
noncomputable def wac1_R (B : List (Nat × Sy.Cont)) (dst base size mode to line col : Int) (iv ev fv tv av : Value) (ix e f : List NodeD) (cells loc : Int) (ns : Nat → Sy.Let) : Sy.Res (Value × List Blk) :=
 let z0 := Sy.Cont.obj (Obj.cells (Array.mk [.int .i64 loc, av]) 40)
 let z1 := Sy.Cont.obj (Obj.cells (Array.mk [.int .i64 cells, tv]) 24)
 let z2 := Sy.Cont.obj (Obj.cells (Array.mk [.int .i64 1, .int .i64 dst, .int .i64 base, .int .i64 size, iv, ev, fv, .int .i64 mode, .int .i64 to, .int .i64 line, .int .i64 col]) 46)
 let z3 := Sy.Cont.obj (Obj.cells (Array.mk [.bool true, .bool false, .bool true, .bool false, .bool false]) 176)
 let z4 := leaf (Value.bool false, Blk.mk (ns 3).n z3 true :: Blk.mk (ns 2).n z0 true :: Blk.mk (ns 1).n z1 true :: Blk.mk (ns 0).n z2 true :: rdOf B)
 need True (hyp True (br (bif false then true else !mayF 1 mode) (leaf (Value.bool false, Blk.mk (ns 2).n z0 true :: Blk.mk (ns 1).n z1 true :: Blk.mk (ns 0).n z2 true :: rdOf B)) (need ((1 : Int) ≤ 1 ∧ (1 : Int) ≤ 10) (hyp True (br (Ex.ltQ dst 0) z4 (br (bif true then bif false then true else Ex.leQ loc dst else false) z4 (br (!Ex.eqQ base 0) z4 (br (bif false then true else !Ex.eqQ size 0) z4 (need (∃ (p : Option Addr), ∃ (n : Nat), ∃ (c : Nat), iv = Value.slice p n c) (br (bif true then bif false then true else Ex.ltQ 0 (Int.ofNat (Sy.lenS iv)) else false) z4 (need (∃ (p : Option Addr), ∃ (n : Nat), ∃ (c : Nat), ev = Value.slice p n c) (br (!true == Ex.ltQ 0 (Int.ofNat (Sy.lenS ev))) z4 (need (∃ (p : Option Addr), ∃ (n : Nat), ∃ (c : Nat), fv = Value.slice p n c) (br (!false == Ex.ltQ 0 (Int.ofNat (Sy.lenS fv))) z4 (need (NodesR B ev e ∧ List.length e < 4398046511104) (need (Sy.GotL (rdOf B) B) (hyp True (br (bif true then !exprF loc e else false) z4 (br (bif true then !Ex.eqQ to 0 else false) z4 (leaf (Value.bool true, Blk.mk (ns 3).n z3 true :: Blk.mk (ns 2).n z0 true :: Blk.mk (ns 1).n z1 true :: Blk.mk (ns 0).n z2 true :: rdOf B)))))))))))))))))))))
theorem wac1_run (B : List (Nat × Sy.Cont)) (dst base size mode to line col : Int) (iv ev fv tv av : Value) (ix e f : List NodeD) (cells loc : Int) : Sy.Ran (Sy.inB Tryz.prog (ctxW B (1) dst base size mode to line col iv ev fv tv ix e f cells loc) 50 fAct #[.agg #[.int .i64 (1), .int .i64 dst, .int .i64 base, .int .i64 size, iv, ev, fv, .int .i64 mode, .int .i64 to, .int .i64 line, .int .i64 col], progV cells tv, thrV loc av] (rdOf B)) wac1_o (wac1_R B dst base size mode to line col iv ev fv tv av ix e f cells loc) := ⟨fun _ => by kernel_rfl, fun _ => by kernel_rfl⟩
def wac2_o : Sy.O := (bz 37 0x1bf3e7f3f9 (fork nil (bz 26 0x3c7fef9 (fork (bz 7 0x7f nil) (bz 15 0x7be3 (fork (steps [0] nil) (bz 45 0x1b0bdf3c7fff (fork (steps [0] nil) (bz 22 0x2c7fff (fork (steps [0] nil) (bz 11 0x58f (fork (steps [0] nil) (bz 44 0xf1fffffffff (fork nil nil))))))))))))))
noncomputable def wac2_R (B : List (Nat × Sy.Cont)) (dst base size mode to line col : Int) (iv ev fv tv av : Value) (ix e f : List NodeD) (cells loc : Int) (ns : Nat → Sy.Let) : Sy.Res (Value × List Blk) :=
 let z0 := Sy.Cont.obj (Obj.cells (Array.mk [.int .i64 loc, av]) 40)
 let z1 := Sy.Cont.obj (Obj.cells (Array.mk [.int .i64 cells, tv]) 24)
 let z2 := Sy.Cont.obj (Obj.cells (Array.mk [.int .i64 2, .int .i64 dst, .int .i64 base, .int .i64 size, iv, ev, fv, .int .i64 mode, .int .i64 to, .int .i64 line, .int .i64 col]) 46)
 let z3 := Sy.Cont.obj (Obj.cells (Array.mk [.bool true, .bool true, .bool false, .bool false, .bool false]) 176)
 let z4 := leaf (Value.bool false, Blk.mk (ns 3).n z3 true :: Blk.mk (ns 2).n z0 true :: Blk.mk (ns 1).n z1 true :: Blk.mk (ns 0).n z2 true :: rdOf B)
 need True (hyp True (br (bif false then true else !mayF 2 mode) (leaf (Value.bool false, Blk.mk (ns 2).n z0 true :: Blk.mk (ns 1).n z1 true :: Blk.mk (ns 0).n z2 true :: rdOf B)) (need ((1 : Int) ≤ 2 ∧ (2 : Int) ≤ 10) (hyp True (br (Ex.ltQ dst 0) z4 (br (bif true then bif false then true else Ex.leQ loc dst else false) z4 (need (NodesR B iv ix ∧ List.length ix < 4398046511104) (need (Sy.GotL (rdOf B) B) (hyp True (br (bif true then !placeF size base cells loc ix else false) z4 (need (∃ (p : Option Addr), ∃ (n : Nat), ∃ (c : Nat), ev = Value.slice p n c) (br (!false == Ex.ltQ 0 (Int.ofNat (Sy.lenS ev))) z4 (need (∃ (p : Option Addr), ∃ (n : Nat), ∃ (c : Nat), fv = Value.slice p n c) (br (!false == Ex.ltQ 0 (Int.ofNat (Sy.lenS fv))) z4 (br (bif true then !Ex.eqQ to 0 else false) z4 (leaf (Value.bool true, Blk.mk (ns 3).n z3 true :: Blk.mk (ns 2).n z0 true :: Blk.mk (ns 1).n z1 true :: Blk.mk (ns 0).n z2 true :: rdOf B)))))))))))))))))
theorem wac2_run (B : List (Nat × Sy.Cont)) (dst base size mode to line col : Int) (iv ev fv tv av : Value) (ix e f : List NodeD) (cells loc : Int) : Sy.Ran (Sy.inB Tryz.prog (ctxW B (2) dst base size mode to line col iv ev fv tv ix e f cells loc) 50 fAct #[.agg #[.int .i64 (2), .int .i64 dst, .int .i64 base, .int .i64 size, iv, ev, fv, .int .i64 mode, .int .i64 to, .int .i64 line, .int .i64 col], progV cells tv, thrV loc av] (rdOf B)) wac2_o (wac2_R B dst base size mode to line col iv ev fv tv av ix e f cells loc) := ⟨fun _ => by kernel_rfl, fun _ => by kernel_rfl⟩
def wac3_o : Sy.O := (bz 37 0x1bf3e7f3f9 (fork nil (bz 37 0x1e3ffffef9 (fork nil (bz 35 0x6c2f7cf1f (fork (steps [0] nil) (bz 22 0x2c7fff (fork (steps [0] nil) (bz 11 0x58f (fork (steps [0] nil) (bz 30 0x3617be3f (fork (steps [0] nil) (bz 34 0x3c7ffffff (fork nil nil))))))))))))))
noncomputable def wac3_R (B : List (Nat × Sy.Cont)) (dst base size mode to line col : Int) (iv ev fv tv av : Value) (ix e f : List NodeD) (cells loc : Int) (ns : Nat → Sy.Let) : Sy.Res (Value × List Blk) :=
 let z0 := Sy.Cont.obj (Obj.cells (Array.mk [.int .i64 loc, av]) 40)
 let z1 := Sy.Cont.obj (Obj.cells (Array.mk [.int .i64 cells, tv]) 24)
 let z2 := Sy.Cont.obj (Obj.cells (Array.mk [.int .i64 3, .int .i64 dst, .int .i64 base, .int .i64 size, iv, ev, fv, .int .i64 mode, .int .i64 to, .int .i64 line, .int .i64 col]) 46)
 let z3 := Sy.Cont.obj (Obj.cells (Array.mk [.bool false, .bool true, .bool true, .bool false, .bool false]) 176)
 let z4 := leaf (Value.bool false, Blk.mk (ns 3).n z3 true :: Blk.mk (ns 2).n z0 true :: Blk.mk (ns 1).n z1 true :: Blk.mk (ns 0).n z2 true :: rdOf B)
 let z5 := Sy.GotL (rdOf B) B
 need True (hyp True (br (bif false then true else !mayF 3 mode) (leaf (Value.bool false, Blk.mk (ns 2).n z0 true :: Blk.mk (ns 1).n z1 true :: Blk.mk (ns 0).n z2 true :: rdOf B)) (need ((1 : Int) ≤ 3 ∧ (3 : Int) ≤ 10) (hyp True (br (bif true then !Ex.eqQ dst 0 else false) z4 (need (NodesR B iv ix ∧ List.length ix < 4398046511104) (need z5 (hyp True (br (bif true then !placeF size base cells loc ix else false) z4 (need (∃ (p : Option Addr), ∃ (n : Nat), ∃ (c : Nat), ev = Value.slice p n c) (br (!true == Ex.ltQ 0 (Int.ofNat (Sy.lenS ev))) z4 (need (∃ (p : Option Addr), ∃ (n : Nat), ∃ (c : Nat), fv = Value.slice p n c) (br (!false == Ex.ltQ 0 (Int.ofNat (Sy.lenS fv))) z4 (need (NodesR B ev e ∧ List.length e < 4398046511104) (need z5 (hyp True (br (bif true then !exprF loc e else false) z4 (br (bif true then !Ex.eqQ to 0 else false) z4 (leaf (Value.bool true, Blk.mk (ns 3).n z3 true :: Blk.mk (ns 2).n z0 true :: Blk.mk (ns 1).n z1 true :: Blk.mk (ns 0).n z2 true :: rdOf B))))))))))))))))))))
theorem wac3_run (B : List (Nat × Sy.Cont)) (dst base size mode to line col : Int) (iv ev fv tv av : Value) (ix e f : List NodeD) (cells loc : Int) : Sy.Ran (Sy.inB Tryz.prog (ctxW B (3) dst base size mode to line col iv ev fv tv ix e f cells loc) 50 fAct #[.agg #[.int .i64 (3), .int .i64 dst, .int .i64 base, .int .i64 size, iv, ev, fv, .int .i64 mode, .int .i64 to, .int .i64 line, .int .i64 col], progV cells tv, thrV loc av] (rdOf B)) wac3_o (wac3_R B dst base size mode to line col iv ev fv tv av ix e f cells loc) := ⟨fun _ => by kernel_rfl, fun _ => by kernel_rfl⟩
def wac4_o : Sy.O := (bz 37 0x1bf3e7f3f9 (fork nil (bz 26 0x3c7fef9 (fork (bz 7 0x7f nil) (bz 15 0x7be3 (fork (steps [0] nil) (bz 45 0x1b0bdf3c7fff (fork (steps [0] nil) (bz 22 0x2c7fff (fork (steps [0] nil) (bz 11 0x58f (fork (steps [0] nil) (bz 30 0x3617be3f (fork (steps [0] nil) (bz 34 0x3c7ffffff (fork nil nil))))))))))))))))
noncomputable def wac4_R (B : List (Nat × Sy.Cont)) (dst base size mode to line col : Int) (iv ev fv tv av : Value) (ix e f : List NodeD) (cells loc : Int) (ns : Nat → Sy.Let) : Sy.Res (Value × List Blk) :=
 let z0 := Sy.Cont.obj (Obj.cells (Array.mk [.int .i64 loc, av]) 40)
 let z1 := Sy.Cont.obj (Obj.cells (Array.mk [.int .i64 cells, tv]) 24)
 let z2 := Sy.Cont.obj (Obj.cells (Array.mk [.int .i64 4, .int .i64 dst, .int .i64 base, .int .i64 size, iv, ev, fv, .int .i64 mode, .int .i64 to, .int .i64 line, .int .i64 col]) 46)
 let z3 := Sy.Cont.obj (Obj.cells (Array.mk [.bool true, .bool true, .bool true, .bool false, .bool false]) 176)
 let z4 := leaf (Value.bool false, Blk.mk (ns 3).n z3 true :: Blk.mk (ns 2).n z0 true :: Blk.mk (ns 1).n z1 true :: Blk.mk (ns 0).n z2 true :: rdOf B)
 let z5 := Sy.GotL (rdOf B) B
 need True (hyp True (br (bif false then true else !mayF 4 mode) (leaf (Value.bool false, Blk.mk (ns 2).n z0 true :: Blk.mk (ns 1).n z1 true :: Blk.mk (ns 0).n z2 true :: rdOf B)) (need ((1 : Int) ≤ 4 ∧ (4 : Int) ≤ 10) (hyp True (br (Ex.ltQ dst 0) z4 (br (bif true then bif false then true else Ex.leQ loc dst else false) z4 (need (NodesR B iv ix ∧ List.length ix < 4398046511104) (need z5 (hyp True (br (bif true then !placeF size base cells loc ix else false) z4 (need (∃ (p : Option Addr), ∃ (n : Nat), ∃ (c : Nat), ev = Value.slice p n c) (br (!true == Ex.ltQ 0 (Int.ofNat (Sy.lenS ev))) z4 (need (∃ (p : Option Addr), ∃ (n : Nat), ∃ (c : Nat), fv = Value.slice p n c) (br (!false == Ex.ltQ 0 (Int.ofNat (Sy.lenS fv))) z4 (need (NodesR B ev e ∧ List.length e < 4398046511104) (need z5 (hyp True (br (bif true then !exprF loc e else false) z4 (br (bif true then !Ex.eqQ to 0 else false) z4 (leaf (Value.bool true, Blk.mk (ns 3).n z3 true :: Blk.mk (ns 2).n z0 true :: Blk.mk (ns 1).n z1 true :: Blk.mk (ns 0).n z2 true :: rdOf B)))))))))))))))))))))
theorem wac4_run (B : List (Nat × Sy.Cont)) (dst base size mode to line col : Int) (iv ev fv tv av : Value) (ix e f : List NodeD) (cells loc : Int) : Sy.Ran (Sy.inB Tryz.prog (ctxW B (4) dst base size mode to line col iv ev fv tv ix e f cells loc) 50 fAct #[.agg #[.int .i64 (4), .int .i64 dst, .int .i64 base, .int .i64 size, iv, ev, fv, .int .i64 mode, .int .i64 to, .int .i64 line, .int .i64 col], progV cells tv, thrV loc av] (rdOf B)) wac4_o (wac4_R B dst base size mode to line col iv ev fv tv av ix e f cells loc) := ⟨fun _ => by kernel_rfl, fun _ => by kernel_rfl⟩
def wac5_o : Sy.O := (bz 37 0x1bf3e7f3f9 (fork nil (bz 26 0x3c7fef9 (fork (bz 7 0x7f nil) (bz 15 0x7be3 (fork (steps [0] nil) (bz 45 0x1b0bdf3c7fff (fork (steps [0] nil) (bz 22 0x2c7fff (fork (steps [0] nil) (bz 11 0x58f (fork (steps [0] nil) (bz 30 0x3617be3f (fork (steps [0] nil) (bz 34 0x3c7ffffff (fork nil nil))))))))))))))))
noncomputable def wac5_R (B : List (Nat × Sy.Cont)) (dst base size mode to line col : Int) (iv ev fv tv av : Value) (ix e f : List NodeD) (cells loc : Int) (ns : Nat → Sy.Let) : Sy.Res (Value × List Blk) :=
 let z0 := Sy.Cont.obj (Obj.cells (Array.mk [.int .i64 loc, av]) 40)
 let z1 := Sy.Cont.obj (Obj.cells (Array.mk [.int .i64 cells, tv]) 24)
 let z2 := Sy.Cont.obj (Obj.cells (Array.mk [.int .i64 5, .int .i64 dst, .int .i64 base, .int .i64 size, iv, ev, fv, .int .i64 mode, .int .i64 to, .int .i64 line, .int .i64 col]) 46)
 let z3 := Sy.Cont.obj (Obj.cells (Array.mk [.bool true, .bool true, .bool true, .bool false, .bool false]) 176)
 let z4 := leaf (Value.bool false, Blk.mk (ns 3).n z3 true :: Blk.mk (ns 2).n z0 true :: Blk.mk (ns 1).n z1 true :: Blk.mk (ns 0).n z2 true :: rdOf B)
 let z5 := Sy.GotL (rdOf B) B
 need True (hyp True (br (bif false then true else !mayF 5 mode) (leaf (Value.bool false, Blk.mk (ns 2).n z0 true :: Blk.mk (ns 1).n z1 true :: Blk.mk (ns 0).n z2 true :: rdOf B)) (need ((1 : Int) ≤ 5 ∧ (5 : Int) ≤ 10) (hyp True (br (Ex.ltQ dst 0) z4 (br (bif true then bif false then true else Ex.leQ loc dst else false) z4 (need (NodesR B iv ix ∧ List.length ix < 4398046511104) (need z5 (hyp True (br (bif true then !placeF size base cells loc ix else false) z4 (need (∃ (p : Option Addr), ∃ (n : Nat), ∃ (c : Nat), ev = Value.slice p n c) (br (!true == Ex.ltQ 0 (Int.ofNat (Sy.lenS ev))) z4 (need (∃ (p : Option Addr), ∃ (n : Nat), ∃ (c : Nat), fv = Value.slice p n c) (br (!false == Ex.ltQ 0 (Int.ofNat (Sy.lenS fv))) z4 (need (NodesR B ev e ∧ List.length e < 4398046511104) (need z5 (hyp True (br (bif true then !exprF loc e else false) z4 (br (bif true then !Ex.eqQ to 0 else false) z4 (leaf (Value.bool true, Blk.mk (ns 3).n z3 true :: Blk.mk (ns 2).n z0 true :: Blk.mk (ns 1).n z1 true :: Blk.mk (ns 0).n z2 true :: rdOf B)))))))))))))))))))))
theorem wac5_run (B : List (Nat × Sy.Cont)) (dst base size mode to line col : Int) (iv ev fv tv av : Value) (ix e f : List NodeD) (cells loc : Int) : Sy.Ran (Sy.inB Tryz.prog (ctxW B (5) dst base size mode to line col iv ev fv tv ix e f cells loc) 50 fAct #[.agg #[.int .i64 (5), .int .i64 dst, .int .i64 base, .int .i64 size, iv, ev, fv, .int .i64 mode, .int .i64 to, .int .i64 line, .int .i64 col], progV cells tv, thrV loc av] (rdOf B)) wac5_o (wac5_R B dst base size mode to line col iv ev fv tv av ix e f cells loc) := ⟨fun _ => by kernel_rfl, fun _ => by kernel_rfl⟩
def wac6_o : Sy.O := (bz 37 0x1bf3e7f3f9 (fork nil (bz 26 0x3c7fef9 (fork (bz 7 0x7f nil) (bz 15 0x7be3 (fork (steps [0] nil) (bz 45 0x1b0bdf3c7fff (fork (steps [0] nil) (bz 22 0x2c7fff (fork (steps [0] nil) (bz 11 0x58f (fork (steps [0] nil) (bz 30 0x3617be3f (fork (steps [0] nil) (bz 31 0x6c2bbe3f (fork nil (bz 24 0xf1ffff (fork nil nil))))))))))))))))))
noncomputable def wac6_R (B : List (Nat × Sy.Cont)) (dst base size mode to line col : Int) (iv ev fv tv av : Value) (ix e f : List NodeD) (cells loc : Int) (ns : Nat → Sy.Let) : Sy.Res (Value × List Blk) :=
 let z0 := Sy.Cont.obj (Obj.cells (Array.mk [.int .i64 loc, av]) 40)
 let z1 := Sy.Cont.obj (Obj.cells (Array.mk [.int .i64 cells, tv]) 24)
 let z2 := Sy.Cont.obj (Obj.cells (Array.mk [.int .i64 6, .int .i64 dst, .int .i64 base, .int .i64 size, iv, ev, fv, .int .i64 mode, .int .i64 to, .int .i64 line, .int .i64 col]) 46)
 let z3 := Sy.Cont.obj (Obj.cells (Array.mk [.bool true, .bool true, .bool true, .bool true, .bool false]) 176)
 let z4 := leaf (Value.bool false, Blk.mk (ns 3).n z3 true :: Blk.mk (ns 2).n z0 true :: Blk.mk (ns 1).n z1 true :: Blk.mk (ns 0).n z2 true :: rdOf B)
 let z5 := Sy.GotL (rdOf B) B
 need True (hyp True (br (bif false then true else !mayF 6 mode) (leaf (Value.bool false, Blk.mk (ns 2).n z0 true :: Blk.mk (ns 1).n z1 true :: Blk.mk (ns 0).n z2 true :: rdOf B)) (need ((1 : Int) ≤ 6 ∧ (6 : Int) ≤ 10) (hyp True (br (Ex.ltQ dst 0) z4 (br (bif true then bif false then true else Ex.leQ loc dst else false) z4 (need (NodesR B iv ix ∧ List.length ix < 4398046511104) (need z5 (hyp True (br (bif true then !placeF size base cells loc ix else false) z4 (need (∃ (p : Option Addr), ∃ (n : Nat), ∃ (c : Nat), ev = Value.slice p n c) (br (!true == Ex.ltQ 0 (Int.ofNat (Sy.lenS ev))) z4 (need (∃ (p : Option Addr), ∃ (n : Nat), ∃ (c : Nat), fv = Value.slice p n c) (br (!true == Ex.ltQ 0 (Int.ofNat (Sy.lenS fv))) z4 (need (NodesR B ev e ∧ List.length e < 4398046511104) (need z5 (hyp True (br (bif true then !exprF loc e else false) z4 (need (NodesR B fv f ∧ List.length f < 4398046511104) (need z5 (hyp True (br (bif true then !exprF loc f else false) z4 (br (bif true then !Ex.eqQ to 0 else false) z4 (leaf (Value.bool true, Blk.mk (ns 3).n z3 true :: Blk.mk (ns 2).n z0 true :: Blk.mk (ns 1).n z1 true :: Blk.mk (ns 0).n z2 true :: rdOf B)))))))))))))))))))))))))
theorem wac6_run (B : List (Nat × Sy.Cont)) (dst base size mode to line col : Int) (iv ev fv tv av : Value) (ix e f : List NodeD) (cells loc : Int) : Sy.Ran (Sy.inB Tryz.prog (ctxW B (6) dst base size mode to line col iv ev fv tv ix e f cells loc) 50 fAct #[.agg #[.int .i64 (6), .int .i64 dst, .int .i64 base, .int .i64 size, iv, ev, fv, .int .i64 mode, .int .i64 to, .int .i64 line, .int .i64 col], progV cells tv, thrV loc av] (rdOf B)) wac6_o (wac6_R B dst base size mode to line col iv ev fv tv av ix e f cells loc) := ⟨fun _ => by kernel_rfl, fun _ => by kernel_rfl⟩
def wac7_o : Sy.O := (bz 37 0x1bf3e7f3f9 (fork nil (bz 37 0x1e3ffffef9 (fork nil (bz 23 0x78ffff (fork (pack 10 0x0 nil) (bz 10 0x3e3 (fork (bz 5 0x1f nil) (bz 12 0xee3 (fork nil (bz 11 0x58f (fork (steps [0] nil) (bz 11 0x58f (fork (steps [0] nil) (bz 44 0xf1fffffffff (fork nil nil))))))))))))))))
noncomputable def wac7_R (B : List (Nat × Sy.Cont)) (dst base size mode to line col : Int) (iv ev fv tv av : Value) (ix e f : List NodeD) (cells loc : Int) (ns : Nat → Sy.Let) : Sy.Res (Value × List Blk) :=
 let z0 := Sy.Cont.obj (Obj.cells (Array.mk [.int .i64 loc, av]) 40)
 let z1 := Sy.Cont.obj (Obj.cells (Array.mk [.int .i64 cells, tv]) 24)
 let z2 := Sy.Cont.obj (Obj.cells (Array.mk [.int .i64 7, .int .i64 dst, .int .i64 base, .int .i64 size, iv, ev, fv, .int .i64 mode, .int .i64 to, .int .i64 line, .int .i64 col]) 46)
 let z3 := Sy.Cont.obj (Obj.cells (Array.mk [.bool false, .bool false, .bool false, .bool false, .bool false]) 176)
 let z4 := leaf (Value.bool false, Blk.mk (ns 3).n z3 true :: Blk.mk (ns 2).n z0 true :: Blk.mk (ns 1).n z1 true :: Blk.mk (ns 0).n z2 true :: rdOf B)
 need True (hyp True (br (bif false then true else !mayF 7 mode) (leaf (Value.bool false, Blk.mk (ns 2).n z0 true :: Blk.mk (ns 1).n z1 true :: Blk.mk (ns 0).n z2 true :: rdOf B)) (need ((1 : Int) ≤ 7 ∧ (7 : Int) ≤ 10) (hyp True (br (bif true then !Ex.eqQ dst 0 else false) z4 (br (!Ex.eqQ base 0) z4 (br (bif false then true else !Ex.eqQ size 0) z4 (need (∃ (p : Option Addr), ∃ (n : Nat), ∃ (c : Nat), iv = Value.slice p n c) (br (bif true then bif false then true else Ex.ltQ 0 (Int.ofNat (Sy.lenS iv)) else false) z4 (need (∃ (p : Option Addr), ∃ (n : Nat), ∃ (c : Nat), ev = Value.slice p n c) (br (!false == Ex.ltQ 0 (Int.ofNat (Sy.lenS ev))) z4 (need (∃ (p : Option Addr), ∃ (n : Nat), ∃ (c : Nat), fv = Value.slice p n c) (br (!false == Ex.ltQ 0 (Int.ofNat (Sy.lenS fv))) z4 (br (bif true then !Ex.eqQ to 0 else false) z4 (leaf (Value.bool true, Blk.mk (ns 3).n z3 true :: Blk.mk (ns 2).n z0 true :: Blk.mk (ns 1).n z1 true :: Blk.mk (ns 0).n z2 true :: rdOf B))))))))))))))))
theorem wac7_run (B : List (Nat × Sy.Cont)) (dst base size mode to line col : Int) (iv ev fv tv av : Value) (ix e f : List NodeD) (cells loc : Int) : Sy.Ran (Sy.inB Tryz.prog (ctxW B (7) dst base size mode to line col iv ev fv tv ix e f cells loc) 50 fAct #[.agg #[.int .i64 (7), .int .i64 dst, .int .i64 base, .int .i64 size, iv, ev, fv, .int .i64 mode, .int .i64 to, .int .i64 line, .int .i64 col], progV cells tv, thrV loc av] (rdOf B)) wac7_o (wac7_R B dst base size mode to line col iv ev fv tv av ix e f cells loc) := ⟨fun _ => by kernel_rfl, fun _ => by kernel_rfl⟩
def wac8_o : Sy.O := (bz 37 0x1bf3e7f3f9 (fork nil (bz 37 0x1e3ffffef9 (fork nil (bz 23 0x78ffff (fork (pack 10 0x0 nil) (bz 10 0x3e3 (fork (bz 5 0x1f nil) (bz 12 0xee3 (fork nil (bz 11 0x58f (fork (steps [0] nil) (bz 11 0x58f (fork (steps [0] nil) (bz 30 0x3617be3f (fork (steps [0] nil) (bz 34 0x3c7ffffff (fork nil nil))))))))))))))))))
noncomputable def wac8_R (B : List (Nat × Sy.Cont)) (dst base size mode to line col : Int) (iv ev fv tv av : Value) (ix e f : List NodeD) (cells loc : Int) (ns : Nat → Sy.Let) : Sy.Res (Value × List Blk) :=
 let z0 := Sy.Cont.obj (Obj.cells (Array.mk [.int .i64 loc, av]) 40)
 let z1 := Sy.Cont.obj (Obj.cells (Array.mk [.int .i64 cells, tv]) 24)
 let z2 := Sy.Cont.obj (Obj.cells (Array.mk [.int .i64 8, .int .i64 dst, .int .i64 base, .int .i64 size, iv, ev, fv, .int .i64 mode, .int .i64 to, .int .i64 line, .int .i64 col]) 46)
 let z3 := Sy.Cont.obj (Obj.cells (Array.mk [.bool false, .bool false, .bool true, .bool false, .bool false]) 176)
 let z4 := leaf (Value.bool false, Blk.mk (ns 3).n z3 true :: Blk.mk (ns 2).n z0 true :: Blk.mk (ns 1).n z1 true :: Blk.mk (ns 0).n z2 true :: rdOf B)
 need True (hyp True (br (bif false then true else !mayF 8 mode) (leaf (Value.bool false, Blk.mk (ns 2).n z0 true :: Blk.mk (ns 1).n z1 true :: Blk.mk (ns 0).n z2 true :: rdOf B)) (need ((1 : Int) ≤ 8 ∧ (8 : Int) ≤ 10) (hyp True (br (bif true then !Ex.eqQ dst 0 else false) z4 (br (!Ex.eqQ base 0) z4 (br (bif false then true else !Ex.eqQ size 0) z4 (need (∃ (p : Option Addr), ∃ (n : Nat), ∃ (c : Nat), iv = Value.slice p n c) (br (bif true then bif false then true else Ex.ltQ 0 (Int.ofNat (Sy.lenS iv)) else false) z4 (need (∃ (p : Option Addr), ∃ (n : Nat), ∃ (c : Nat), ev = Value.slice p n c) (br (!true == Ex.ltQ 0 (Int.ofNat (Sy.lenS ev))) z4 (need (∃ (p : Option Addr), ∃ (n : Nat), ∃ (c : Nat), fv = Value.slice p n c) (br (!false == Ex.ltQ 0 (Int.ofNat (Sy.lenS fv))) z4 (need (NodesR B ev e ∧ List.length e < 4398046511104) (need (Sy.GotL (rdOf B) B) (hyp True (br (bif true then !exprF loc e else false) z4 (br (bif true then !Ex.eqQ to 0 else false) z4 (leaf (Value.bool true, Blk.mk (ns 3).n z3 true :: Blk.mk (ns 2).n z0 true :: Blk.mk (ns 1).n z1 true :: Blk.mk (ns 0).n z2 true :: rdOf B))))))))))))))))))))
theorem wac8_run (B : List (Nat × Sy.Cont)) (dst base size mode to line col : Int) (iv ev fv tv av : Value) (ix e f : List NodeD) (cells loc : Int) : Sy.Ran (Sy.inB Tryz.prog (ctxW B (8) dst base size mode to line col iv ev fv tv ix e f cells loc) 50 fAct #[.agg #[.int .i64 (8), .int .i64 dst, .int .i64 base, .int .i64 size, iv, ev, fv, .int .i64 mode, .int .i64 to, .int .i64 line, .int .i64 col], progV cells tv, thrV loc av] (rdOf B)) wac8_o (wac8_R B dst base size mode to line col iv ev fv tv av ix e f cells loc) := ⟨fun _ => by kernel_rfl, fun _ => by kernel_rfl⟩
def wac9_o : Sy.O := (bz 37 0x1bf3e7f3f9 (fork nil (bz 37 0x1e3ffffef9 (fork nil (bz 23 0x78ffff (fork (pack 10 0x0 nil) (bz 10 0x3e3 (fork (bz 5 0x1f nil) (bz 12 0xee3 (fork nil (bz 11 0x58f (fork (steps [0] nil) (bz 11 0x58f (fork (steps [0] nil) (bz 33 0x1e3ffffff (fork (bz 8 0xff nil) (bz 18 0x3bbe3 (fork (steps [0] nil) (pack 10 0x0 nil)))))))))))))))))))
noncomputable def wac9_R (B : List (Nat × Sy.Cont)) (dst base size mode to line col : Int) (iv ev fv tv av : Value) (ix e f : List NodeD) (cells loc : Int) (ns : Nat → Sy.Let) : Sy.Res (Value × List Blk) :=
 let z0 := Sy.Cont.obj (Obj.cells (Array.mk [.int .i64 loc, av]) 40)
 let z1 := Sy.Cont.obj (Obj.cells (Array.mk [.int .i64 cells, tv]) 24)
 let z2 := Sy.Cont.obj (Obj.cells (Array.mk [.int .i64 9, .int .i64 dst, .int .i64 base, .int .i64 size, iv, ev, fv, .int .i64 mode, .int .i64 to, .int .i64 line, .int .i64 col]) 46)
 let z3 := Sy.Cont.obj (Obj.cells (Array.mk [.bool false, .bool false, .bool false, .bool false, .bool true]) 176)
 let z4 := leaf (Value.bool false, Blk.mk (ns 3).n z3 true :: Blk.mk (ns 2).n z0 true :: Blk.mk (ns 1).n z1 true :: Blk.mk (ns 0).n z2 true :: rdOf B)
 need True (hyp True (br (bif false then true else !mayF 9 mode) (leaf (Value.bool false, Blk.mk (ns 2).n z0 true :: Blk.mk (ns 1).n z1 true :: Blk.mk (ns 0).n z2 true :: rdOf B)) (need ((1 : Int) ≤ 9 ∧ (9 : Int) ≤ 10) (hyp True (br (bif true then !Ex.eqQ dst 0 else false) z4 (br (!Ex.eqQ base 0) z4 (br (bif false then true else !Ex.eqQ size 0) z4 (need (∃ (p : Option Addr), ∃ (n : Nat), ∃ (c : Nat), iv = Value.slice p n c) (br (bif true then bif false then true else Ex.ltQ 0 (Int.ofNat (Sy.lenS iv)) else false) z4 (need (∃ (p : Option Addr), ∃ (n : Nat), ∃ (c : Nat), ev = Value.slice p n c) (br (!false == Ex.ltQ 0 (Int.ofNat (Sy.lenS ev))) z4 (need (∃ (p : Option Addr), ∃ (n : Nat), ∃ (c : Nat), fv = Value.slice p n c) (br (!false == Ex.ltQ 0 (Int.ofNat (Sy.lenS fv))) z4 (br (Ex.ltQ to 0) z4 (need (∃ (p : Option Addr), ∃ (n : Nat), ∃ (c : Nat), av = Value.slice p n c) (br (bif true then bif false then true else Ex.ltQ (Int.ofNat (Sy.lenS av)) to else false) z4 (leaf (Value.bool true, Blk.mk (ns 3).n z3 true :: Blk.mk (ns 2).n z0 true :: Blk.mk (ns 1).n z1 true :: Blk.mk (ns 0).n z2 true :: rdOf B))))))))))))))))))
theorem wac9_run (B : List (Nat × Sy.Cont)) (dst base size mode to line col : Int) (iv ev fv tv av : Value) (ix e f : List NodeD) (cells loc : Int) : Sy.Ran (Sy.inB Tryz.prog (ctxW B (9) dst base size mode to line col iv ev fv tv ix e f cells loc) 50 fAct #[.agg #[.int .i64 (9), .int .i64 dst, .int .i64 base, .int .i64 size, iv, ev, fv, .int .i64 mode, .int .i64 to, .int .i64 line, .int .i64 col], progV cells tv, thrV loc av] (rdOf B)) wac9_o (wac9_R B dst base size mode to line col iv ev fv tv av ix e f cells loc) := ⟨fun _ => by kernel_rfl, fun _ => by kernel_rfl⟩
def wac10_o : Sy.O := (bz 37 0x1bf3e7f3f9 (fork nil (bz 37 0x1e3ffffef9 (fork nil (bz 23 0x78ffff (fork (pack 10 0x0 nil) (bz 10 0x3e3 (fork (bz 5 0x1f nil) (bz 12 0xee3 (fork nil (bz 11 0x58f (fork (steps [0] nil) (bz 11 0x58f (fork (steps [0] nil) (bz 30 0x3617be3f (fork (steps [0] nil) (bz 23 0x78ffff (fork (bz 8 0xff nil) (bz 18 0x3bbe3 (fork (steps [0] nil) (pack 10 0x0 nil)))))))))))))))))))))
noncomputable def wac10_R (B : List (Nat × Sy.Cont)) (dst base size mode to line col : Int) (iv ev fv tv av : Value) (ix e f : List NodeD) (cells loc : Int) (ns : Nat → Sy.Let) : Sy.Res (Value × List Blk) :=
 let z0 := Sy.Cont.obj (Obj.cells (Array.mk [.int .i64 loc, av]) 40)
 let z1 := Sy.Cont.obj (Obj.cells (Array.mk [.int .i64 cells, tv]) 24)
 let z2 := Sy.Cont.obj (Obj.cells (Array.mk [.int .i64 10, .int .i64 dst, .int .i64 base, .int .i64 size, iv, ev, fv, .int .i64 mode, .int .i64 to, .int .i64 line, .int .i64 col]) 46)
 let z3 := Sy.Cont.obj (Obj.cells (Array.mk [.bool false, .bool false, .bool true, .bool false, .bool true]) 176)
 let z4 := leaf (Value.bool false, Blk.mk (ns 3).n z3 true :: Blk.mk (ns 2).n z0 true :: Blk.mk (ns 1).n z1 true :: Blk.mk (ns 0).n z2 true :: rdOf B)
 need True (hyp True (br (bif false then true else !mayF 10 mode) (leaf (Value.bool false, Blk.mk (ns 2).n z0 true :: Blk.mk (ns 1).n z1 true :: Blk.mk (ns 0).n z2 true :: rdOf B)) (need ((1 : Int) ≤ 10 ∧ (10 : Int) ≤ 10) (hyp True (br (bif true then !Ex.eqQ dst 0 else false) z4 (br (!Ex.eqQ base 0) z4 (br (bif false then true else !Ex.eqQ size 0) z4 (need (∃ (p : Option Addr), ∃ (n : Nat), ∃ (c : Nat), iv = Value.slice p n c) (br (bif true then bif false then true else Ex.ltQ 0 (Int.ofNat (Sy.lenS iv)) else false) z4 (need (∃ (p : Option Addr), ∃ (n : Nat), ∃ (c : Nat), ev = Value.slice p n c) (br (!true == Ex.ltQ 0 (Int.ofNat (Sy.lenS ev))) z4 (need (∃ (p : Option Addr), ∃ (n : Nat), ∃ (c : Nat), fv = Value.slice p n c) (br (!false == Ex.ltQ 0 (Int.ofNat (Sy.lenS fv))) z4 (need (NodesR B ev e ∧ List.length e < 4398046511104) (need (Sy.GotL (rdOf B) B) (hyp True (br (bif true then !exprF loc e else false) z4 (br (Ex.ltQ to 0) z4 (need (∃ (p : Option Addr), ∃ (n : Nat), ∃ (c : Nat), av = Value.slice p n c) (br (bif true then bif false then true else Ex.ltQ (Int.ofNat (Sy.lenS av)) to else false) z4 (leaf (Value.bool true, Blk.mk (ns 3).n z3 true :: Blk.mk (ns 2).n z0 true :: Blk.mk (ns 1).n z1 true :: Blk.mk (ns 0).n z2 true :: rdOf B))))))))))))))))))))))
theorem wac10_run (B : List (Nat × Sy.Cont)) (dst base size mode to line col : Int) (iv ev fv tv av : Value) (ix e f : List NodeD) (cells loc : Int) : Sy.Ran (Sy.inB Tryz.prog (ctxW B (10) dst base size mode to line col iv ev fv tv ix e f cells loc) 50 fAct #[.agg #[.int .i64 (10), .int .i64 dst, .int .i64 base, .int .i64 size, iv, ev, fv, .int .i64 mode, .int .i64 to, .int .i64 line, .int .i64 col], progV cells tv, thrV loc av] (rdOf B)) wac10_o (wac10_R B dst base size mode to line col iv ev fv tv av ix e f cells loc) := ⟨fun _ => by kernel_rfl, fun _ => by kernel_rfl⟩
def wac0_o : Sy.O := (bz 12 0xcd9 (fork (bz 6 0x3f nil) (bz 20 0xdf9f3 (fork nil (bz 37 0x1e3ffffef9 (fork nil (bz 23 0x78ffff (fork (pack 10 0x0 nil) (bz 10 0x3e3 (fork (bz 5 0x1f nil) (bz 12 0xee3 (fork nil (bz 11 0x58f (fork (steps [0] nil) (bz 11 0x58f (fork (steps [0] nil) (bz 44 0xf1fffffffff (fork nil nil))))))))))))))))))
noncomputable def wac0_R (B : List (Nat × Sy.Cont)) (op dst base size mode to line col : Int) (iv ev fv tv av : Value) (cells loc : Int) (ns : Nat → Sy.Let) : Sy.Res (Value × List Blk) :=
 let z0 := Sy.Cont.obj (Obj.cells (Array.mk [.int .i64 loc, av]) 40)
 let z1 := Sy.Cont.obj (Obj.cells (Array.mk [.int .i64 cells, tv]) 24)
 let z2 := Sy.Cont.obj (Obj.cells (Array.mk [.int .i64 op, .int .i64 dst, .int .i64 base, .int .i64 size, iv, ev, fv, .int .i64 mode, .int .i64 to, .int .i64 line, .int .i64 col]) 46)
 let z3 := leaf (Value.bool false, Blk.mk (ns 2).n z0 true :: Blk.mk (ns 1).n z1 true :: Blk.mk (ns 0).n z2 true :: rdOf B)
 let z4 := Sy.Cont.obj (Obj.cells (Array.mk [.bool false, .bool false, .bool false, .bool false, .bool false]) 176)
 let z5 := leaf (Value.bool false, Blk.mk (ns 3).n z4 true :: Blk.mk (ns 2).n z0 true :: Blk.mk (ns 1).n z1 true :: Blk.mk (ns 0).n z2 true :: rdOf B)
 br (bif Ex.ltQ op 1 then true else Ex.ltQ 10 op) z3 (need True (hyp True (br (bif false then true else !mayF op mode) z3 (need False (hyp True (br (bif true then !Ex.eqQ dst 0 else false) z5 (br (!Ex.eqQ base 0) z5 (br (bif false then true else !Ex.eqQ size 0) z5 (need (∃ (p : Option Addr), ∃ (n : Nat), ∃ (c : Nat), iv = Value.slice p n c) (br (bif true then bif false then true else Ex.ltQ 0 (Int.ofNat (Sy.lenS iv)) else false) z5 (need (∃ (p : Option Addr), ∃ (n : Nat), ∃ (c : Nat), ev = Value.slice p n c) (br (!false == Ex.ltQ 0 (Int.ofNat (Sy.lenS ev))) z5 (need (∃ (p : Option Addr), ∃ (n : Nat), ∃ (c : Nat), fv = Value.slice p n c) (br (!false == Ex.ltQ 0 (Int.ofNat (Sy.lenS fv))) z5 (br (bif true then !Ex.eqQ to 0 else false) z5 (leaf (Value.bool true, Blk.mk (ns 3).n z4 true :: Blk.mk (ns 2).n z0 true :: Blk.mk (ns 1).n z1 true :: Blk.mk (ns 0).n z2 true :: rdOf B)))))))))))))))))
theorem wac0_run (B : List (Nat × Sy.Cont)) (op dst base size mode to line col : Int) (iv ev fv tv av : Value) (cells loc : Int) : Sy.Ran (Sy.inB Tryz.prog (ctxV op mode) 50 fAct #[.agg #[.int .i64 op, .int .i64 dst, .int .i64 base, .int .i64 size, iv, ev, fv, .int .i64 mode, .int .i64 to, .int .i64 line, .int .i64 col], progV cells tv, thrV loc av] (rdOf B)) wac0_o (wac0_R B op dst base size mode to line col iv ev fv tv av cells loc) := ⟨fun _ => by kernel_rfl, fun _ => by kernel_rfl⟩
def actF (cells loc : Int) (na : Nat) (a : ActD) : Bool :=
 decide (1 ≤ a.op ∧ a.op ≤ 10) && (mayF a.op a.mode && ((bif hasDst a.op then Ex.leQ 0 a.dst && Ex.ltQ a.dst loc else Ex.eqQ a.dst 0) &&
 ((bif hasPlace a.op then placeF a.size a.base cells loc a.ix else Ex.eqQ a.base 0 && (Ex.eqQ a.size 0 && decide (a.ix.length = 0))) &&
 ((hasE a.op == decide (0 < a.e.length)) && ((hasF a.op == decide (0 < a.f.length)) && ((bif hasE a.op then exprF loc a.e else true) && ((bif hasF a.op then exprF loc a.f else true) &&
 (bif hasTo a.op then Ex.leQ 0 a.to && Ex.leQ a.to (na : Int) else Ex.eqQ a.to 0))))))))
structure OkW (B : List (Nat × Sy.Cont)) (iv ev fv av : Value) (a : ActD) (na : Nat) : Prop where
 i : OkX B iv a.ix
 e : OkX B ev a.e
 f : OkX B fv a.f
 a : ∃ p n c, av = .slice p n c
 na : Sy.lenS av = na
def actC (B : List (Nat × Sy.Cont)) (a : ActD) (iv ev fv tv av : Value) (cells loc : Int) (na : Nat) : Sy.CallC :=
 ⟨fAct, #[actV a iv ev fv, progV cells tv, thrV loc av], OkW B iv ev fv av a na, ⟨[], [], 0, B⟩, [Sy.plainO (.bool (actF cells loc na a))]⟩
theorem pos_len (n : Nat) : Ex.ltQ 0 (Int.ofNat n) = decide (0 < n) := by
 rw [Ex.ltQ_eq]
 by_cases h : 0 < n <;> simp [h]
theorem far_to (n : Nat) (t : Int) : Ex.ltQ (Int.ofNat n) t = !Ex.leQ t (n : Int) := by
 rw [Ex.ltQ_eq, Ex.leQ_eq]
 by_cases h : (n : Int) < t
 ·have : ¬ t ≤ (n : Int) := by omega
  simp [h, this]
 ·have : t ≤ (n : Int) := by omega
  simp [h, this]
theorem neg_to (t : Int) : Ex.ltQ t 0 = !Ex.leQ 0 t := by
 rw [Ex.ltQ_eq, Ex.leQ_eq]
 by_cases h : t < 0
 ·have : ¬ 0 ≤ t := by omega
  simp [h, this]
 ·have : 0 ≤ t := by omega
  simp [h, this]
theorem ge_to (l d : Int) : Ex.leQ l d = !Ex.ltQ d l := by
 rw [Ex.ltQ_eq, Ex.leQ_eq]
 by_cases h : d < l
 ·have : ¬ l ≤ d := by omega
  simp [h, this]
 ·have : l ≤ d := by omega
  simp [h, this]
theorem act1_met (B : List (Nat × Sy.Cont)) (a : ActD) (iv ev fv tv av : Value) (cells loc : Int) (na : Nat) (hk : a.op = 1) : Sy.Meets Tryz.prog (actC B a iv ev fv tv av cells loc na) := by
 obtain ⟨op, dst, base, size, ix, e, f, mode, to, line, col⟩ := a
 simp only at hk
 subst hk
 refine Sy.meets_ofB (ctxW_holds B 1 dst base size mode to line col iv ev fv tv ix e f cells loc) mixed (L := rdOf B) (Sy.Ent.refl _) (wac1_run B dst base size mode to line col iv ev fv tv av ix e f cells loc) fun hok ns => ?_
 obtain ⟨⟨hI, hil⟩, ⟨hE, hel⟩, ⟨hF, hfl⟩, hA, hna⟩ := hok
 simp only at hI hE hF hil hel hfl
 have leaf : ∀ b L, b = actF cells loc na ⟨1, dst, base, size, ix, e, f, mode, to, line, col⟩ → Sy.leafB (actC B ⟨1, dst, base, size, ix, e, f, mode, to, line, col⟩ iv ev fv tv av cells loc na) (.bool b, L) := fun b L h => plainB_leaf (List.mem_singleton_self _) rfl (by rw [h])
 have h1 : hasDst 1 = true := rfl
 have h2 : hasPlace 1 = false := rfl
 have h3 : hasE 1 = true := rfl
 have h4 : hasF 1 = false := rfl
 have h5 : hasTo 1 = false := rfl
 simp only [actF, h1, h2, h3, h4, h5] at leaf
 simp only [wac1_R, Sy.Res.holds, hI.len, hE.len, hF.len, hna, pos_len, far_to, neg_to, ge_to loc dst]
 repeat' (first | exact gotL_of (fun p hp => by simp [hp]) | apply And.intro | intro _)
 all_goals first
  | exact trivial
  | exact hI.sl
  | exact hE.sl
  | exact hF.sl
  | exact hA
  | exact hI
  | exact hE
  | exact hF
  | exact hil
  | exact hel
  | exact hfl
  | decide
  | skip
 all_goals
  refine leaf _ _ ?_
  simp_all <;> (intros; simp_all)
theorem act2_met (B : List (Nat × Sy.Cont)) (a : ActD) (iv ev fv tv av : Value) (cells loc : Int) (na : Nat) (hk : a.op = 2) : Sy.Meets Tryz.prog (actC B a iv ev fv tv av cells loc na) := by
 obtain ⟨op, dst, base, size, ix, e, f, mode, to, line, col⟩ := a
 simp only at hk
 subst hk
 refine Sy.meets_ofB (ctxW_holds B 2 dst base size mode to line col iv ev fv tv ix e f cells loc) mixed (L := rdOf B) (Sy.Ent.refl _) (wac2_run B dst base size mode to line col iv ev fv tv av ix e f cells loc) fun hok ns => ?_
 obtain ⟨⟨hI, hil⟩, ⟨hE, hel⟩, ⟨hF, hfl⟩, hA, hna⟩ := hok
 simp only at hI hE hF hil hel hfl
 have leaf : ∀ b L, b = actF cells loc na ⟨2, dst, base, size, ix, e, f, mode, to, line, col⟩ → Sy.leafB (actC B ⟨2, dst, base, size, ix, e, f, mode, to, line, col⟩ iv ev fv tv av cells loc na) (.bool b, L) := fun b L h => plainB_leaf (List.mem_singleton_self _) rfl (by rw [h])
 have h1 : hasDst 2 = true := rfl
 have h2 : hasPlace 2 = true := rfl
 have h3 : hasE 2 = false := rfl
 have h4 : hasF 2 = false := rfl
 have h5 : hasTo 2 = false := rfl
 simp only [actF, h1, h2, h3, h4, h5] at leaf
 simp only [wac2_R, Sy.Res.holds, hI.len, hE.len, hF.len, hna, pos_len, far_to, neg_to, ge_to loc dst]
 repeat' (first | exact gotL_of (fun p hp => by simp [hp]) | apply And.intro | intro _)
 all_goals first
  | exact trivial
  | exact hI.sl
  | exact hE.sl
  | exact hF.sl
  | exact hA
  | exact hI
  | exact hE
  | exact hF
  | exact hil
  | exact hel
  | exact hfl
  | decide
  | skip
 all_goals
  refine leaf _ _ ?_
  simp_all <;> (intros; simp_all)
theorem act3_met (B : List (Nat × Sy.Cont)) (a : ActD) (iv ev fv tv av : Value) (cells loc : Int) (na : Nat) (hk : a.op = 3) : Sy.Meets Tryz.prog (actC B a iv ev fv tv av cells loc na) := by
 obtain ⟨op, dst, base, size, ix, e, f, mode, to, line, col⟩ := a
 simp only at hk
 subst hk
 refine Sy.meets_ofB (ctxW_holds B 3 dst base size mode to line col iv ev fv tv ix e f cells loc) mixed (L := rdOf B) (Sy.Ent.refl _) (wac3_run B dst base size mode to line col iv ev fv tv av ix e f cells loc) fun hok ns => ?_
 obtain ⟨⟨hI, hil⟩, ⟨hE, hel⟩, ⟨hF, hfl⟩, hA, hna⟩ := hok
 simp only at hI hE hF hil hel hfl
 have leaf : ∀ b L, b = actF cells loc na ⟨3, dst, base, size, ix, e, f, mode, to, line, col⟩ → Sy.leafB (actC B ⟨3, dst, base, size, ix, e, f, mode, to, line, col⟩ iv ev fv tv av cells loc na) (.bool b, L) := fun b L h => plainB_leaf (List.mem_singleton_self _) rfl (by rw [h])
 have h1 : hasDst 3 = false := rfl
 have h2 : hasPlace 3 = true := rfl
 have h3 : hasE 3 = true := rfl
 have h4 : hasF 3 = false := rfl
 have h5 : hasTo 3 = false := rfl
 simp only [actF, h1, h2, h3, h4, h5] at leaf
 simp only [wac3_R, Sy.Res.holds, hI.len, hE.len, hF.len, hna, pos_len, far_to, neg_to, ge_to loc dst]
 repeat' (first | exact gotL_of (fun p hp => by simp [hp]) | apply And.intro | intro _)
 all_goals first
  | exact trivial
  | exact hI.sl
  | exact hE.sl
  | exact hF.sl
  | exact hA
  | exact hI
  | exact hE
  | exact hF
  | exact hil
  | exact hel
  | exact hfl
  | decide
  | skip
 all_goals
  refine leaf _ _ ?_
  simp_all <;> (intros; simp_all)
theorem act4_met (B : List (Nat × Sy.Cont)) (a : ActD) (iv ev fv tv av : Value) (cells loc : Int) (na : Nat) (hk : a.op = 4) : Sy.Meets Tryz.prog (actC B a iv ev fv tv av cells loc na) := by
 obtain ⟨op, dst, base, size, ix, e, f, mode, to, line, col⟩ := a
 simp only at hk
 subst hk
 refine Sy.meets_ofB (ctxW_holds B 4 dst base size mode to line col iv ev fv tv ix e f cells loc) mixed (L := rdOf B) (Sy.Ent.refl _) (wac4_run B dst base size mode to line col iv ev fv tv av ix e f cells loc) fun hok ns => ?_
 obtain ⟨⟨hI, hil⟩, ⟨hE, hel⟩, ⟨hF, hfl⟩, hA, hna⟩ := hok
 simp only at hI hE hF hil hel hfl
 have leaf : ∀ b L, b = actF cells loc na ⟨4, dst, base, size, ix, e, f, mode, to, line, col⟩ → Sy.leafB (actC B ⟨4, dst, base, size, ix, e, f, mode, to, line, col⟩ iv ev fv tv av cells loc na) (.bool b, L) := fun b L h => plainB_leaf (List.mem_singleton_self _) rfl (by rw [h])
 have h1 : hasDst 4 = true := rfl
 have h2 : hasPlace 4 = true := rfl
 have h3 : hasE 4 = true := rfl
 have h4 : hasF 4 = false := rfl
 have h5 : hasTo 4 = false := rfl
 simp only [actF, h1, h2, h3, h4, h5] at leaf
 simp only [wac4_R, Sy.Res.holds, hI.len, hE.len, hF.len, hna, pos_len, far_to, neg_to, ge_to loc dst]
 repeat' (first | exact gotL_of (fun p hp => by simp [hp]) | apply And.intro | intro _)
 all_goals first
  | exact trivial
  | exact hI.sl
  | exact hE.sl
  | exact hF.sl
  | exact hA
  | exact hI
  | exact hE
  | exact hF
  | exact hil
  | exact hel
  | exact hfl
  | decide
  | skip
 all_goals
  refine leaf _ _ ?_
  simp_all <;> (intros; simp_all)
theorem act5_met (B : List (Nat × Sy.Cont)) (a : ActD) (iv ev fv tv av : Value) (cells loc : Int) (na : Nat) (hk : a.op = 5) : Sy.Meets Tryz.prog (actC B a iv ev fv tv av cells loc na) := by
 obtain ⟨op, dst, base, size, ix, e, f, mode, to, line, col⟩ := a
 simp only at hk
 subst hk
 refine Sy.meets_ofB (ctxW_holds B 5 dst base size mode to line col iv ev fv tv ix e f cells loc) mixed (L := rdOf B) (Sy.Ent.refl _) (wac5_run B dst base size mode to line col iv ev fv tv av ix e f cells loc) fun hok ns => ?_
 obtain ⟨⟨hI, hil⟩, ⟨hE, hel⟩, ⟨hF, hfl⟩, hA, hna⟩ := hok
 simp only at hI hE hF hil hel hfl
 have leaf : ∀ b L, b = actF cells loc na ⟨5, dst, base, size, ix, e, f, mode, to, line, col⟩ → Sy.leafB (actC B ⟨5, dst, base, size, ix, e, f, mode, to, line, col⟩ iv ev fv tv av cells loc na) (.bool b, L) := fun b L h => plainB_leaf (List.mem_singleton_self _) rfl (by rw [h])
 have h1 : hasDst 5 = true := rfl
 have h2 : hasPlace 5 = true := rfl
 have h3 : hasE 5 = true := rfl
 have h4 : hasF 5 = false := rfl
 have h5 : hasTo 5 = false := rfl
 simp only [actF, h1, h2, h3, h4, h5] at leaf
 simp only [wac5_R, Sy.Res.holds, hI.len, hE.len, hF.len, hna, pos_len, far_to, neg_to, ge_to loc dst]
 repeat' (first | exact gotL_of (fun p hp => by simp [hp]) | apply And.intro | intro _)
 all_goals first
  | exact trivial
  | exact hI.sl
  | exact hE.sl
  | exact hF.sl
  | exact hA
  | exact hI
  | exact hE
  | exact hF
  | exact hil
  | exact hel
  | exact hfl
  | decide
  | skip
 all_goals
  refine leaf _ _ ?_
  simp_all <;> (intros; simp_all)
theorem act6_met (B : List (Nat × Sy.Cont)) (a : ActD) (iv ev fv tv av : Value) (cells loc : Int) (na : Nat) (hk : a.op = 6) : Sy.Meets Tryz.prog (actC B a iv ev fv tv av cells loc na) := by
 obtain ⟨op, dst, base, size, ix, e, f, mode, to, line, col⟩ := a
 simp only at hk
 subst hk
 refine Sy.meets_ofB (ctxW_holds B 6 dst base size mode to line col iv ev fv tv ix e f cells loc) mixed (L := rdOf B) (Sy.Ent.refl _) (wac6_run B dst base size mode to line col iv ev fv tv av ix e f cells loc) fun hok ns => ?_
 obtain ⟨⟨hI, hil⟩, ⟨hE, hel⟩, ⟨hF, hfl⟩, hA, hna⟩ := hok
 simp only at hI hE hF hil hel hfl
 have leaf : ∀ b L, b = actF cells loc na ⟨6, dst, base, size, ix, e, f, mode, to, line, col⟩ → Sy.leafB (actC B ⟨6, dst, base, size, ix, e, f, mode, to, line, col⟩ iv ev fv tv av cells loc na) (.bool b, L) := fun b L h => plainB_leaf (List.mem_singleton_self _) rfl (by rw [h])
 have h1 : hasDst 6 = true := rfl
 have h2 : hasPlace 6 = true := rfl
 have h3 : hasE 6 = true := rfl
 have h4 : hasF 6 = true := rfl
 have h5 : hasTo 6 = false := rfl
 simp only [actF, h1, h2, h3, h4, h5] at leaf
 simp only [wac6_R, Sy.Res.holds, hI.len, hE.len, hF.len, hna, pos_len, far_to, neg_to, ge_to loc dst]
 repeat' (first | exact gotL_of (fun p hp => by simp [hp]) | apply And.intro | intro _)
 all_goals first
  | exact trivial
  | exact hI.sl
  | exact hE.sl
  | exact hF.sl
  | exact hA
  | exact hI
  | exact hE
  | exact hF
  | exact hil
  | exact hel
  | exact hfl
  | decide
  | skip
 all_goals
  refine leaf _ _ ?_
  simp_all <;> (intros; simp_all)
theorem act7_met (B : List (Nat × Sy.Cont)) (a : ActD) (iv ev fv tv av : Value) (cells loc : Int) (na : Nat) (hk : a.op = 7) : Sy.Meets Tryz.prog (actC B a iv ev fv tv av cells loc na) := by
 obtain ⟨op, dst, base, size, ix, e, f, mode, to, line, col⟩ := a
 simp only at hk
 subst hk
 refine Sy.meets_ofB (ctxW_holds B 7 dst base size mode to line col iv ev fv tv ix e f cells loc) mixed (L := rdOf B) (Sy.Ent.refl _) (wac7_run B dst base size mode to line col iv ev fv tv av ix e f cells loc) fun hok ns => ?_
 obtain ⟨⟨hI, hil⟩, ⟨hE, hel⟩, ⟨hF, hfl⟩, hA, hna⟩ := hok
 simp only at hI hE hF hil hel hfl
 have leaf : ∀ b L, b = actF cells loc na ⟨7, dst, base, size, ix, e, f, mode, to, line, col⟩ → Sy.leafB (actC B ⟨7, dst, base, size, ix, e, f, mode, to, line, col⟩ iv ev fv tv av cells loc na) (.bool b, L) := fun b L h => plainB_leaf (List.mem_singleton_self _) rfl (by rw [h])
 have h1 : hasDst 7 = false := rfl
 have h2 : hasPlace 7 = false := rfl
 have h3 : hasE 7 = false := rfl
 have h4 : hasF 7 = false := rfl
 have h5 : hasTo 7 = false := rfl
 simp only [actF, h1, h2, h3, h4, h5] at leaf
 simp only [wac7_R, Sy.Res.holds, hI.len, hE.len, hF.len, hna, pos_len, far_to, neg_to, ge_to loc dst]
 repeat' (first | exact gotL_of (fun p hp => by simp [hp]) | apply And.intro | intro _)
 all_goals first
  | exact trivial
  | exact hI.sl
  | exact hE.sl
  | exact hF.sl
  | exact hA
  | exact hI
  | exact hE
  | exact hF
  | exact hil
  | exact hel
  | exact hfl
  | decide
  | skip
 all_goals
  refine leaf _ _ ?_
  simp_all <;> (intros; simp_all)
theorem act8_met (B : List (Nat × Sy.Cont)) (a : ActD) (iv ev fv tv av : Value) (cells loc : Int) (na : Nat) (hk : a.op = 8) : Sy.Meets Tryz.prog (actC B a iv ev fv tv av cells loc na) := by
 obtain ⟨op, dst, base, size, ix, e, f, mode, to, line, col⟩ := a
 simp only at hk
 subst hk
 refine Sy.meets_ofB (ctxW_holds B 8 dst base size mode to line col iv ev fv tv ix e f cells loc) mixed (L := rdOf B) (Sy.Ent.refl _) (wac8_run B dst base size mode to line col iv ev fv tv av ix e f cells loc) fun hok ns => ?_
 obtain ⟨⟨hI, hil⟩, ⟨hE, hel⟩, ⟨hF, hfl⟩, hA, hna⟩ := hok
 simp only at hI hE hF hil hel hfl
 have leaf : ∀ b L, b = actF cells loc na ⟨8, dst, base, size, ix, e, f, mode, to, line, col⟩ → Sy.leafB (actC B ⟨8, dst, base, size, ix, e, f, mode, to, line, col⟩ iv ev fv tv av cells loc na) (.bool b, L) := fun b L h => plainB_leaf (List.mem_singleton_self _) rfl (by rw [h])
 have h1 : hasDst 8 = false := rfl
 have h2 : hasPlace 8 = false := rfl
 have h3 : hasE 8 = true := rfl
 have h4 : hasF 8 = false := rfl
 have h5 : hasTo 8 = false := rfl
 simp only [actF, h1, h2, h3, h4, h5] at leaf
 simp only [wac8_R, Sy.Res.holds, hI.len, hE.len, hF.len, hna, pos_len, far_to, neg_to, ge_to loc dst]
 repeat' (first | exact gotL_of (fun p hp => by simp [hp]) | apply And.intro | intro _)
 all_goals first
  | exact trivial
  | exact hI.sl
  | exact hE.sl
  | exact hF.sl
  | exact hA
  | exact hI
  | exact hE
  | exact hF
  | exact hil
  | exact hel
  | exact hfl
  | decide
  | skip
 all_goals
  refine leaf _ _ ?_
  simp_all <;> (intros; simp_all)
theorem act9_met (B : List (Nat × Sy.Cont)) (a : ActD) (iv ev fv tv av : Value) (cells loc : Int) (na : Nat) (hk : a.op = 9) : Sy.Meets Tryz.prog (actC B a iv ev fv tv av cells loc na) := by
 obtain ⟨op, dst, base, size, ix, e, f, mode, to, line, col⟩ := a
 simp only at hk
 subst hk
 refine Sy.meets_ofB (ctxW_holds B 9 dst base size mode to line col iv ev fv tv ix e f cells loc) mixed (L := rdOf B) (Sy.Ent.refl _) (wac9_run B dst base size mode to line col iv ev fv tv av ix e f cells loc) fun hok ns => ?_
 obtain ⟨⟨hI, hil⟩, ⟨hE, hel⟩, ⟨hF, hfl⟩, hA, hna⟩ := hok
 simp only at hI hE hF hil hel hfl
 have leaf : ∀ b L, b = actF cells loc na ⟨9, dst, base, size, ix, e, f, mode, to, line, col⟩ → Sy.leafB (actC B ⟨9, dst, base, size, ix, e, f, mode, to, line, col⟩ iv ev fv tv av cells loc na) (.bool b, L) := fun b L h => plainB_leaf (List.mem_singleton_self _) rfl (by rw [h])
 have h1 : hasDst 9 = false := rfl
 have h2 : hasPlace 9 = false := rfl
 have h3 : hasE 9 = false := rfl
 have h4 : hasF 9 = false := rfl
 have h5 : hasTo 9 = true := rfl
 simp only [actF, h1, h2, h3, h4, h5] at leaf
 simp only [wac9_R, Sy.Res.holds, hI.len, hE.len, hF.len, hna, pos_len, far_to, neg_to, ge_to loc dst]
 repeat' (first | exact gotL_of (fun p hp => by simp [hp]) | apply And.intro | intro _)
 all_goals first
  | exact trivial
  | exact hI.sl
  | exact hE.sl
  | exact hF.sl
  | exact hA
  | exact hI
  | exact hE
  | exact hF
  | exact hil
  | exact hel
  | exact hfl
  | decide
  | skip
 all_goals
  refine leaf _ _ ?_
  simp_all <;> (intros; simp_all)
theorem act10_met (B : List (Nat × Sy.Cont)) (a : ActD) (iv ev fv tv av : Value) (cells loc : Int) (na : Nat) (hk : a.op = 10) : Sy.Meets Tryz.prog (actC B a iv ev fv tv av cells loc na) := by
 obtain ⟨op, dst, base, size, ix, e, f, mode, to, line, col⟩ := a
 simp only at hk
 subst hk
 refine Sy.meets_ofB (ctxW_holds B 10 dst base size mode to line col iv ev fv tv ix e f cells loc) mixed (L := rdOf B) (Sy.Ent.refl _) (wac10_run B dst base size mode to line col iv ev fv tv av ix e f cells loc) fun hok ns => ?_
 obtain ⟨⟨hI, hil⟩, ⟨hE, hel⟩, ⟨hF, hfl⟩, hA, hna⟩ := hok
 simp only at hI hE hF hil hel hfl
 have leaf : ∀ b L, b = actF cells loc na ⟨10, dst, base, size, ix, e, f, mode, to, line, col⟩ → Sy.leafB (actC B ⟨10, dst, base, size, ix, e, f, mode, to, line, col⟩ iv ev fv tv av cells loc na) (.bool b, L) := fun b L h => plainB_leaf (List.mem_singleton_self _) rfl (by rw [h])
 have h1 : hasDst 10 = false := rfl
 have h2 : hasPlace 10 = false := rfl
 have h3 : hasE 10 = true := rfl
 have h4 : hasF 10 = false := rfl
 have h5 : hasTo 10 = true := rfl
 simp only [actF, h1, h2, h3, h4, h5] at leaf
 simp only [wac10_R, Sy.Res.holds, hI.len, hE.len, hF.len, hna, pos_len, far_to, neg_to, ge_to loc dst]
 repeat' (first | exact gotL_of (fun p hp => by simp [hp]) | apply And.intro | intro _)
 all_goals first
  | exact trivial
  | exact hI.sl
  | exact hE.sl
  | exact hF.sl
  | exact hA
  | exact hI
  | exact hE
  | exact hF
  | exact hil
  | exact hel
  | exact hfl
  | decide
  | skip
 all_goals
  refine leaf _ _ ?_
  simp_all <;> (intros; simp_all)
theorem act0_met (B : List (Nat × Sy.Cont)) (a : ActD) (iv ev fv tv av : Value) (cells loc : Int) (na : Nat) (hk : ¬ (1 ≤ a.op ∧ a.op ≤ 10)) : Sy.Meets Tryz.prog (actC B a iv ev fv tv av cells loc na) := by
 obtain ⟨op, dst, base, size, ix, e, f, mode, to, line, col⟩ := a
 simp only at hk
 refine Sy.meets_ofB (ctxV_holds op mode) mixed (L := rdOf B) (Sy.Ent.refl _) (wac0_run B op dst base size mode to line col iv ev fv tv av cells loc) fun hok ns => ?_
 have leaf : ∀ L, Sy.leafB (actC B ⟨op, dst, base, size, ix, e, f, mode, to, line, col⟩ iv ev fv tv av cells loc na) (.bool false, L) := fun L => plainB_leaf (List.mem_singleton_self _) rfl (by simp [actF, hk])
 simp only [wac0_R, Sy.Res.holds]
 refine ⟨fun _ => leaf _, fun h => ?_⟩
 exfalso
 rw [Ex.ltQ_eq, Ex.ltQ_eq] at h
 simp at h
 omega
theorem actC_met (B : List (Nat × Sy.Cont)) (a : ActD) (iv ev fv tv av : Value) (cells loc : Int) (na : Nat) : Sy.Meets Tryz.prog (actC B a iv ev fv tv av cells loc na) := by
 by_cases hk : 1 ≤ a.op ∧ a.op ≤ 10
 ·have h : a.op = 1 ∨ a.op = 2 ∨ a.op = 3 ∨ a.op = 4 ∨ a.op = 5 ∨ a.op = 6 ∨ a.op = 7 ∨ a.op = 8 ∨ a.op = 9 ∨ a.op = 10 := by omega
  rcases h with h | h | h | h | h | h | h | h | h | h
  ·exact act1_met _ _ _ _ _ _ _ _ _ _ h
  ·exact act2_met _ _ _ _ _ _ _ _ _ _ h
  ·exact act3_met _ _ _ _ _ _ _ _ _ _ h
  ·exact act4_met _ _ _ _ _ _ _ _ _ _ h
  ·exact act5_met _ _ _ _ _ _ _ _ _ _ h
  ·exact act6_met _ _ _ _ _ _ _ _ _ _ h
  ·exact act7_met _ _ _ _ _ _ _ _ _ _ h
  ·exact act8_met _ _ _ _ _ _ _ _ _ _ h
  ·exact act9_met _ _ _ _ _ _ _ _ _ _ h
  ·exact act10_met _ _ _ _ _ _ _ _ _ _ h
 ·exact act0_met _ _ _ _ _ _ _ _ _ _ hk
open Go Go.RowKit
open Sy (Let Blk HasL)
abbrev fWhole : FuncId := 34
def bodyT : Code := Sy.loopBody Tryz.f34 0
def bodyA : Code := Sy.loopBody Tryz.f34 1
structure ActAt (B : List (Nat × Sy.Cont)) (b o : Nat) (a : ActD) (iv ev fv : Value) : Prop where
 op : HasL (rdOf B) b o (.int .i64 a.op)
 dst : HasL (rdOf B) b (o + 1) (.int .i64 a.dst)
 base : HasL (rdOf B) b (o + 1 + 1) (.int .i64 a.base)
 size : HasL (rdOf B) b (o + 1 + 1 + 1) (.int .i64 a.size)
 ivc : HasL (rdOf B) b (o + 1 + 1 + 1 + 1) iv
 evc : HasL (rdOf B) b (o + 1 + 1 + 1 + 1 + 1) ev
 fvc : HasL (rdOf B) b (o + 1 + 1 + 1 + 1 + 1 + 1) fv
 mode : HasL (rdOf B) b (o + 1 + 1 + 1 + 1 + 1 + 1 + 1) (.int .i64 a.mode)
 to : HasL (rdOf B) b (o + 1 + 1 + 1 + 1 + 1 + 1 + 1 + 1) (.int .i64 a.to)
 line : HasL (rdOf B) b (o + 1 + 1 + 1 + 1 + 1 + 1 + 1 + 1 + 1) (.int .i64 a.line)
 col : HasL (rdOf B) b (o + 1 + 1 + 1 + 1 + 1 + 1 + 1 + 1 + 1 + 1) (.int .i64 a.col)
 i : OkX B iv a.ix
 e : OkX B ev a.e
 f : OkX B fv a.f
structure ActsR (B : List (Nat × Sy.Cont)) (v : Value) (l : List ActD) : Prop where
 sl : ∃ p n c, v = .slice p n c
 len : Sy.lenS v = l.length
 at_ : l ≠ [] → ∃ n c, v = .slice (some ⟨Sy.ptrS v, Sy.offS v, none⟩) n c
 act : ∀ i a, l[i]? = some a → ∃ iv ev fv, ActAt B (Sy.ptrS v) (Sy.offS v + i * 11) a iv ev fv
 lt : l.length < 1034834473200
def actBy (B : List (Nat × Sy.Cont)) (a : ActD) (cells loc : Int) (na : Nat) (args : Array Value) : Sy.CallC :=
 ⟨fAct, args, ∃ iv ev fv tv av, args = #[actV a iv ev fv, progV cells tv, thrV loc av] ∧ OkW B iv ev fv av a na, ⟨[], [], 0, B⟩, [Sy.plainO (.bool (actF cells loc na a))]⟩
theorem actBy_met (B : List (Nat × Sy.Cont)) (a : ActD) (cells loc : Int) (na : Nat) (args : Array Value) : Sy.Meets Tryz.prog (actBy B a cells loc na args) := fun ⟨iv, ev, fv, tv, av, h, hok⟩ => by
 subst h
 exact actC_met B a iv ev fv tv av cells loc na hok
def ctxA2 (B : List (Nat × Sy.Cont)) (a : ActD) (cells loc : Int) (na : Nat) : Sy.Ctx := Sy.mkS [(fAct, fun args _ => actBy B a cells loc na args)] [] []
theorem ctxA2_holds (B : List (Nat × Sy.Cont)) (a : ActD) (cells loc : Int) (na : Nat) : (ctxA2 B a cells loc na).holds Tryz.prog := Sy.mkS_holds (fun p hp args L => by
 rcases List.mem_singleton.1 hp with rfl
 exact actBy_met _ _ _ _ _ _) (fun _ h => (by cases h)) (fun _ h => (by cases h))
def slA2 (p1 p4 : Nat) (tv av : Value) (n i k : Nat) : List (Nat × Value) := [(1, .pointer (some ⟨p1, 0, none⟩)), (2, .bool false), (4, .pointer (some ⟨p4, 0, none⟩)), (22, tv), (23, .int .i64 (Int.ofNat n)), (24, .int .i64 (Int.ofNat i)), (43, av), (44, .int .i64 (Int.ofNat (Sy.lenS av))), (45, .int .i64 (Int.ofNat k))]
def memA2 (p1 p4 : Nat) (cells loc : Int) (tv av : Value) : List (Nat × Sy.Cont) := [(p1, .obj (.cells #[.int .i64 cells, tv] 24 (0, 0))), (p4, .obj (.cells #[.int .i64 loc, av] 40 (0, 0)))]
def wi_o : Sy.O := (fork (bz 33 0x162e77dca (fork nil nil)) nil)
noncomputable def wi_R (B : List (Nat × Sy.Cont)) (a : ActD) (p1 p4 : Nat) (tv av : Value) (n i k : Nat) (cells loc : Int) (f : Nat → Value) (ns : Nat → Sy.Let) : Sy.Res (Exit × Nat × List Value × List Blk) :=
 let z0 := Int.ofNat k
 let z1 := Sy.lenS av
 let z2 := Int.ofNat z1
 let z3 := Sy.ptrS av
 let z4 := rdOf B
 let z5 := Sy.offS av + Int.toNat z0 * 11
 let z6 := Sy.offS av + Int.toNat z0 * 11 + 1
 let z7 := Sy.offS av + Int.toNat z0 * 11 + 1 + 1
 let z8 := Sy.offS av + Int.toNat z0 * 11 + 1 + 1 + 1
 let z9 := Sy.offS av + Int.toNat z0 * 11 + 1 + 1 + 1 + 1
 let z10 := Sy.offS av + Int.toNat z0 * 11 + 1 + 1 + 1 + 1 + 1
 let z11 := Sy.offS av + Int.toNat z0 * 11 + 1 + 1 + 1 + 1 + 1 + 1
 let z12 := Sy.offS av + Int.toNat z0 * 11 + 1 + 1 + 1 + 1 + 1 + 1 + 1
 let z13 := Sy.offS av + Int.toNat z0 * 11 + 1 + 1 + 1 + 1 + 1 + 1 + 1 + 1
 let z14 := Sy.offS av + Int.toNat z0 * 11 + 1 + 1 + 1 + 1 + 1 + 1 + 1 + 1 + 1
 let z15 := Sy.offS av + Int.toNat z0 * 11 + 1 + 1 + 1 + 1 + 1 + 1 + 1 + 1 + 1 + 1
 let z16 := Array.mk [Value.int .i64 (ns 0).i, Value.int .i64 (ns 1).i, Value.int .i64 (ns 2).i, Value.int .i64 (ns 3).i, (ns 4).v, (ns 5).v, (ns 6).v, Value.int .i64 (ns 7).i, Value.int .i64 (ns 8).i, Value.int .i64 (ns 9).i, Value.int .i64 (ns 10).i]
 let z17 := Array.mk [Value.int .i64 cells, tv]
 let z18 := Array.mk [Value.int .i64 loc, av]
 let z19 := some (Addr.mk p1 0 none)
 let z20 := some (Addr.mk p4 0 none)
 let z21 := Sy.Cont.obj (Obj.cells z16 46)
 let z22 := Sy.Cont.obj (Obj.cells z17 24)
 let z23 := Sy.Cont.obj (Obj.cells z18 40)
 br (Ex.ltQ z0 z2) (need ((∃ (n : Nat), ∃ (c : Nat), av = Value.slice (some (Addr.mk z3 (Sy.offS av) none)) n c) ∧ 0 ≤ Int.ofNat k ∧ Int.ofNat k < (↑z1 : Int)) (need (∃ (i : Int), HasL z4 z3 z5 (Value.int .i64 i)) (hyp (∀ (u : Value), HasL z4 z3 z5 u → u = Value.int .i64 (ns 0).i) (need (∃ (i : Int), HasL z4 z3 z6 (Value.int .i64 i)) (hyp (∀ (u : Value), HasL z4 z3 z6 u → u = Value.int .i64 (ns 1).i) (need (∃ (i : Int), HasL z4 z3 z7 (Value.int .i64 i)) (hyp (∀ (u : Value), HasL z4 z3 z7 u → u = Value.int .i64 (ns 2).i) (need (∃ (i : Int), HasL z4 z3 z8 (Value.int .i64 i)) (hyp (∀ (u : Value), HasL z4 z3 z8 u → u = Value.int .i64 (ns 3).i) (need (∃ (v : Value), HasL z4 z3 z9 v) (hyp (∀ (u : Value), HasL z4 z3 z9 u → u = (ns 4).v) (need (∃ (v : Value), HasL z4 z3 z10 v) (hyp (∀ (u : Value), HasL z4 z3 z10 u → u = (ns 5).v) (need (∃ (v : Value), HasL z4 z3 z11 v) (hyp (∀ (u : Value), HasL z4 z3 z11 u → u = (ns 6).v) (need (∃ (i : Int), HasL z4 z3 z12 (Value.int .i64 i)) (hyp (∀ (u : Value), HasL z4 z3 z12 u → u = Value.int .i64 (ns 7).i) (need (∃ (i : Int), HasL z4 z3 z13 (Value.int .i64 i)) (hyp (∀ (u : Value), HasL z4 z3 z13 u → u = Value.int .i64 (ns 8).i) (need (∃ (i : Int), HasL z4 z3 z14 (Value.int .i64 i)) (hyp (∀ (u : Value), HasL z4 z3 z14 u → u = Value.int .i64 (ns 9).i) (need (∃ (i : Int), HasL z4 z3 z15 (Value.int .i64 i)) (hyp (∀ (u : Value), HasL z4 z3 z15 u → u = Value.int .i64 (ns 10).i) (need ((11 : Nat) = 11 ∧ (11 : Nat) = 11 ∧ Array.all z16 (fun (x : Value) =>
 Value.oneCell' x) 0 11 = true) (need (∃ (iv : Value), ∃ (ev : Value), ∃ (fv : Value), ∃ (tv_1 : Value), ∃ (av_1 : Value), Array.mk [Value.agg z16, Value.agg z17, Value.agg z18] = Array.mk [actV a iv ev fv, progV cells tv_1, thrV loc av_1] ∧ OkW B iv ev fv av_1 a z1) (need (Sy.GotL z4 B) (hyp True (br (!actF cells loc z1 a) (leaf (Exit.ret, 56, [Value.pointer z19, Value.bool false, Value.pointer z20, tv, Value.int .i64 (Int.ofNat n), Value.int .i64 (Int.ofNat i), av, Value.int .i64 z2, Value.int .i64 z0], Blk.mk (ns 11).n z21 true :: Blk.mk p1 z22 true :: Blk.mk p4 z23 true :: rdOf B)) (leaf (Exit.normal, 56, [Value.pointer z19, Value.bool false, Value.pointer z20, tv, Value.int .i64 (Int.ofNat n), Value.int .i64 (Int.ofNat i), av, Value.int .i64 z2, Value.int .i64 (Ex.wrapQ .i64 (Ex.addQ z0 1))], Blk.mk (ns 11).n z21 true :: Blk.mk p1 z22 true :: Blk.mk p4 z23 true :: rdOf B)))))))))))))))))))))))))))))) (leaf (Exit.exit 2, 56, [Value.pointer z19, Value.bool false, Value.pointer z20, tv, Value.int .i64 (Int.ofNat n), Value.int .i64 (Int.ofNat i), av, Value.int .i64 z2, Value.int .i64 z0], Blk.mk p1 z22 true :: Blk.mk p4 z23 true :: rdOf B))
theorem wi_run (B : List (Nat × Sy.Cont)) (a : ActD) (p1 p4 : Nat) (tv av : Value) (n i k : Nat) (cells loc : Int) (f : Nat → Value) : Sy.Ran (Sy.pieceT Tryz.prog (ctxA2 B a cells loc (Sy.lenS av)) 50 fWhole bodyA 56 (slA2 p1 p4 tv av n i k) ((List.range 56).map f) ((memA2 p1 p4 cells loc tv av).map Sy.ownOf ++ rdOf B) [1, 2, 4, 22, 23, 24, 43, 44, 45]) wi_o (wi_R B a p1 p4 tv av n i k cells loc f) := ⟨fun _ => by kernel_rfl, fun _ => by kernel_rfl⟩
def badAct (cells loc : Int) (l : List ActD) : Prop := ∃ (i : Nat) (a : ActD), l[i]? = some a ∧ actF cells loc l.length a = false
def loopAC (B : List (Nat × Sy.Cont)) (l : List ActD) (p1 p4 : Nat) (tv av : Value) (n i : Nat) (cells loc : Int) : Sy.LoopC :=
 ⟨.loop bodyA, 56, slA2 p1 p4 tv av n i 0, ActsR B av l, ⟨[], memA2 p1 p4 cells loc tv av, 0, B⟩,
  [(⟨fun _ => badAct cells loc l, fun _ => [], fun _ => []⟩, .ret, fun _ => [(2, .bool false)]),
   (⟨fun _ => ¬ badAct cells loc l, fun _ => memA2 p1 p4 cells loc tv av, fun _ => []⟩, .exit 2, fun _ => [(1, .pointer (some ⟨p1, 0, none⟩)), (2, .bool false), (4, .pointer (some ⟨p4, 0, none⟩)), (22, tv), (23, .int .i64 (Int.ofNat n)), (24, .int .i64 (Int.ofNat i))])]⟩
theorem loopAC_met (B : List (Nat × Sy.Cont)) (l : List ActD) (p1 p4 : Nat) (tv av : Value) (n i : Nat) (cells loc : Int) : Sy.MeetsL Tryz.prog (loopAC B l p1 p4 tv av n i cells loc) := by
 refine Sy.loop_ofB (σ := Nat × ActD) (S := fun s => ctxA2 B s.2 cells loc (Sy.lenS av)) (n := 50) (fn := fWhole) (fun _ => ctxA2_holds _ _ _ _ _) mixed (body := bodyA) rfl [1, 2, 4, 22, 23, 24, 43, 44, 45] (fun s => slA2 p1 p4 tv av n i s.1)
  (fun _ => (memA2 p1 p4 cells loc tv av).map Sy.ownOf ++ rdOf B) (fun s => s.1 ≤ l.length ∧ ActsR B av l ∧ (∀ j a, j < s.1 → l[j]? = some a → actF cells loc l.length a = true) ∧ ∀ a, l[s.1]? = some a → s.2 = a) (fun s => l.length - s.1)
  (0, l.headD ⟨0, 0, 0, 0, [], [], [], 0, 0, 0, 0⟩) (fun h => ⟨Nat.zero_le _, h, fun i x hi => by simp at hi, fun a ha => by cases l <;> simp_all⟩) (fun p hp => hp) (Sy.Ent.refl _) (o := fun _ => wi_o) (R := fun s f => wi_R B s.2 p1 p4 tv av n i s.1 cells loc f) (fun s f _ => wi_run B s.2 p1 p4 tv av n i s.1 cells loc f) ?_
 rintro - ⟨k, a⟩ f ⟨hk, hR, hinv, ha⟩ ns
 simp only at hk hinv ha
 simp only [wi_R, Sy.Res.holds]
 refine ⟨fun hlt => ?_, fun hge => ?_⟩
 ·have hlt : k < l.length := by rw [Ex.ltQ_eq, hR.len] at hlt; simpa using hlt
  obtain ⟨a', hn⟩ : ∃ n, l[k]? = some n := ⟨_, List.getElem?_eq_getElem hlt⟩
  obtain rfl : a = a' := ha a' hn
  obtain ⟨iv, ev, fv, hA⟩ := hR.act k a hn
  refine ⟨⟨hR.at_ (fun h => by rw [h] at hlt; simp at hlt), by simp, by rw [hR.len]; simpa using hlt⟩, ⟨_, hA.op⟩, fun e0 => ⟨⟨_, hA.dst⟩, fun e1 => ⟨⟨_, hA.base⟩, fun e2 => ⟨⟨_, hA.size⟩, fun e3 => ⟨⟨_, hA.ivc⟩, fun e4 => ⟨⟨_, hA.evc⟩, fun e5 => ⟨⟨_, hA.fvc⟩, fun e6 => ⟨⟨_, hA.mode⟩, fun e7 => ⟨⟨_, hA.to⟩, fun e8 => ⟨⟨_, hA.line⟩, fun e9 => ⟨⟨_, hA.col⟩, fun e10 => ?_⟩⟩⟩⟩⟩⟩⟩⟩⟩⟩⟩
  have e0 := e0 _ hA.op
  have e1 := e1 _ hA.dst
  have e2 := e2 _ hA.base
  have e3 := e3 _ hA.size
  have e4 := e4 _ hA.ivc
  have e5 := e5 _ hA.evc
  have e6 := e6 _ hA.fvc
  have e7 := e7 _ hA.mode
  have e8 := e8 _ hA.to
  have e9 := e9 _ hA.line
  have e10 := e10 _ hA.col
  simp only [Value.int.injEq, true_and] at e0 e1 e2 e3 e7 e8 e9 e10
  rw [← e0, ← e1, ← e2, ← e3, ← e4, ← e5, ← e6, ← e7, ← e8, ← e9, ← e10]
  refine ⟨?_, ⟨iv, ev, fv, tv, av, rfl, hA.i, hA.e, hA.f, hR.sl, rfl⟩, gotL_of (fun p hp => hp), fun _ => ⟨fun hb => ?_, fun hb => ?_⟩⟩
  ·obtain ⟨_, _, _, h1⟩ := hA.i.1.sl
   obtain ⟨_, _, _, h2⟩ := hA.e.1.sl
   obtain ⟨_, _, _, h3⟩ := hA.f.1.sl
   simp [h1, h2, h3, Value.oneCell']
  ·refine ⟨rfl, .inr ⟨by simp, _, List.mem_cons_self, rfl, [], rfl, ⟨[1], rfl⟩, Sy.Ent.sub (List.nil_sublist _), k, a, hn, ?_⟩⟩
   rw [hR.len] at hb
   simpa using hb
  ·rw [hR.len] at hb
   refine ⟨rfl, .inl ⟨rfl, (k + 1, l.getD (k + 1) a), ⟨by show k + 1 ≤ l.length; omega, hR, fun j x hj hx => ?_, fun x hx => ?_⟩, by show l.length - (k + 1) < l.length - k; omega, ?_, Sy.Ent.sub (List.sublist_cons_self _ _)⟩⟩
   ·by_cases he : j = k
    ·subst he
     rw [hn] at hx
     injection hx with hx
     rw [← hx]
     simpa using hb
    ·exact hinv j x (by simp only at hj; omega) hx
   ·simp only at hx
    show l.getD (k + 1) a = x
    rw [List.getD_eq_getElem?_getD, hx]
    rfl
   ·rw [w_succ (by have := hR.lt; omega)]
    rfl
 ·have hge : k = l.length := by rw [Ex.ltQ_eq, hR.len] at hge; simp at hge; omega
  subst hge
  refine ⟨rfl, .inr ⟨by simp, _, List.mem_cons_of_mem _ (List.mem_singleton_self _), rfl, [], rfl, ⟨[0, 1, 2, 3, 4, 5], rfl⟩, ?_, ?_⟩⟩
  ·exact Sy.Ent.sub (by simp only [List.append_nil]; exact List.sublist_append_left _ _)
  ·rintro ⟨j, x, hx, hp⟩
   rw [hinv j x (List.getElem?_eq_some_iff.1 hx).1 hx] at hp
   cases hp
open Go Go.RowKit
open Sy (Let Blk HasL)
structure ThreadD where
 locals : Int
 acts : List ActD
structure ThreadsR (B : List (Nat × Sy.Cont)) (v : Value) (l : List ThreadD) : Prop where
 sl : ∃ p n c, v = .slice p n c
 len : Sy.lenS v = l.length
 at_ : l ≠ [] → ∃ n c, v = .slice (some ⟨Sy.ptrS v, Sy.offS v, none⟩) n c
 thr : ∀ i t, l[i]? = some t → ∃ av, HasL (rdOf B) (Sy.ptrS v) (Sy.offS v + i * 2) (.int .i64 t.locals) ∧ HasL (rdOf B) (Sy.ptrS v) (Sy.offS v + i * 2 + 1) av ∧ ActsR B av t.acts
 lt : l.length < 4398046511104
def Sy.locL (L : List Blk) : Int := match L with
 | ⟨_, .obj (.cells cs _ _), _⟩ :: _ => Sy.argI cs 0
 | _ => 0
def ctxT (B : List (Nat × Sy.Cont)) (l : List ActD) (p1 : Nat) (tv : Value) (n i : Nat) (cells : Int) : Sy.Ctx := Sy.mkS [] [(fWhole, fun a L => loopAC B l p1 (Sy.ptrN (a.get 4)) tv (a.get 43) n i cells (Sy.locL L))] []
theorem ctxT_holds (B : List (Nat × Sy.Cont)) (l : List ActD) (p1 : Nat) (tv : Value) (n i : Nat) (cells : Int) : (ctxT B l p1 tv n i cells).holds Tryz.prog := Sy.mkS_holds (fun _ h => (by cases h)) (fun p hp a L => by
 rcases List.mem_singleton.1 hp with rfl
 exact loopAC_met _ _ _ _ _ _ _ _ _ _) (fun _ h => (by cases h))
def slT (p1 : Nat) (tv : Value) (n i : Nat) : List (Nat × Value) := [(1, .pointer (some ⟨p1, 0, none⟩)), (2, .bool false), (22, tv), (23, .int .i64 (Int.ofNat n)), (24, .int .i64 (Int.ofNat i))]
def memT (p1 : Nat) (cells : Int) (tv : Value) : List (Nat × Sy.Cont) := [(p1, .obj (.cells #[.int .i64 cells, tv] 24 (0, 0)))]
def wt_o : Sy.O := (fork (bz 25 0x17bdeea (fork nil (bz 16 0xd6b7 (fork (steps [0, 1] nil) (steps [0, 1] nil))))) nil)
noncomputable def wt_R (B : List (Nat × Sy.Cont)) (l : List ActD) (p1 : Nat) (tv : Value) (n i : Nat) (cells : Int) (f : Nat → Value) (ns : Nat → Sy.Let) : Sy.Res (Exit × Nat × List Value × List Blk) :=
 let z0 := Sy.ptrS tv
 let z1 := ns 0
 let z2 := Array.mk [Value.int .i64 z1.i, (ns 1).v]
 let z3 := (∃ (p : Option Addr), ∃ (n : Nat), ∃ (c : Nat), (ns 1).v = Value.slice p n c)
 let z4 := some (Addr.mk p1 0 none)
 let z5 := Sy.Cont.obj (Obj.cells z2 40)
 let z6 := Sy.Cont.obj (Obj.cells (Array.mk [.int .i64 cells, tv]) 24)
 let z7 := [] ++ List.eraseIdx (Blk.mk p1 z6 true :: rdOf B) (nat_lit 0)
 let z8 := Value.tuple (Array.mk [])
 let z9 := Sy.argsW 0 (ns 3).l
 br (Ex.ltQ (Int.ofNat i) (Int.ofNat n)) (need ((∃ (n : Nat), ∃ (c : Nat), tv = Value.slice (some (Addr.mk z0 (Sy.offS tv) none)) n c) ∧ 0 ≤ Int.ofNat i ∧ Int.ofNat i < (↑(Sy.lenS tv) : Int)) (need (∃ (i_1 : Int), HasL (rdOf B) z0 (Sy.offS tv + Int.toNat (Int.ofNat i) * 2) (Value.int .i64 i_1)) (hyp (∀ (u : Value), HasL (rdOf B) z0 (Sy.offS tv + Int.toNat (Int.ofNat i) * 2) u → u = Value.int .i64 z1.i) (need (∃ (v : Value), HasL (rdOf B) z0 (Sy.offS tv + Int.toNat (Int.ofNat i) * 2 + 1) v) (hyp (∀ (u : Value), HasL (rdOf B) z0 (Sy.offS tv + Int.toNat (Int.ofNat i) * 2 + 1) u → u = (ns 1).v) (need ((2 : Nat) = 2 ∧ (2 : Nat) = 2 ∧ Array.all z2 (fun (x : Value) => Value.oneCell' x) 0 2 = true) (need z3 (br (bif bif Ex.ltQ z1.i 0 then true else Ex.ltQ 24 z1.i then true else Ex.ltQ 65536 (Int.ofNat (Sy.lenS (ns 1).v))) (leaf (Exit.ret, 56, [Value.pointer z4, Value.bool false, tv, Value.int .i64 (Int.ofNat n), Value.int .i64 (Int.ofNat i)], Blk.mk (ns 2).n z5 true :: Blk.mk p1 z6 true :: rdOf B)) (need z3 (need (ActsR B (ns 1).v l) (need (Sy.GotL z7 B) (both (hyp (∃ (i : Nat), ∃ (a : ActD), l[i]? = some a ∧ actF cells z1.i (List.length l) a = false) (leaf (Exit.ret, 56, [List.rec z8 (fun (p : Nat × Value) (x : List (Nat × Value)) (ih : Value) => Bool.rec ih (Prod.snd p) (Nat.beq (Prod.fst p) 1)) z9, Value.bool false, List.rec z8 (fun (p : Nat × Value) (x : List (Nat × Value)) (ih : Value) => Bool.rec ih (Prod.snd p) (Nat.beq (Prod.fst p) 22)) z9, List.rec z8 (fun (p : Nat × Value)
 (x : List (Nat × Value)) (ih : Value) => Bool.rec ih (Prod.snd p) (Nat.beq (Prod.fst p) 23)) z9, List.rec z8 (fun (p : Nat × Value) (x : List (Nat × Value)) (ih : Value) => Bool.rec ih (Prod.snd p) (Nat.beq (Prod.fst p) 24)) z9], [] ++ z7))) (hyp (badAct cells z1.i l → False) (leaf (Exit.normal, 56, [Value.pointer z4, Value.bool false, tv, Value.int .i64 (Int.ofNat n), Value.int .i64 (Ex.wrapQ .i64 (Ex.addQ (Int.ofNat i) 1))], Blk.mk p1 z6 true :: Blk.mk (ns 2).n z5 true :: z7))))))))))))))) (leaf (Exit.exit 0, 56, [Value.pointer z4, Value.bool false, tv, Value.int .i64 (Int.ofNat n), Value.int .i64 (Int.ofNat i)], Blk.mk p1 z6 true :: rdOf B))
theorem wt_run (B : List (Nat × Sy.Cont)) (l : List ActD) (p1 : Nat) (tv : Value) (n i : Nat) (cells : Int) (f : Nat → Value) : Sy.Ran (Sy.pieceT Tryz.prog (ctxT B l p1 tv n i cells) 50 fWhole bodyT 56 (slT p1 tv n i) ((List.range 56).map f) ((memT p1 cells tv).map Sy.ownOf ++ rdOf B) [1, 2, 22, 23, 24]) wt_o (wt_R B l p1 tv n i cells f) := ⟨fun _ => by kernel_rfl, fun _ => by kernel_rfl⟩
def out1 (t : ThreadD) : Bool := bif bif Ex.ltQ t.locals 0 then true else Ex.ltQ 24 t.locals then true else Ex.ltQ 65536 (Int.ofNat t.acts.length)
def badThr (cells : Int) (t : ThreadD) : Prop := out1 t = true ∨ badAct cells t.locals t.acts
def badThrs (cells : Int) (l : List ThreadD) : Prop := ∃ (i : Nat) (t : ThreadD), l[i]? = some t ∧ badThr cells t
def loopTC (B : List (Nat × Sy.Cont)) (l : List ThreadD) (p1 : Nat) (tv : Value) (cells : Int) : Sy.LoopC :=
 ⟨.loop bodyT, 56, slT p1 tv (Sy.lenS tv) 0, ThreadsR B tv l, ⟨[], memT p1 cells tv, 0, B⟩,
  [(⟨fun _ => badThrs cells l, fun _ => [], fun _ => []⟩, .ret, fun _ => [(2, .bool false)]),
   (⟨fun _ => ¬ badThrs cells l, fun _ => [], fun _ => []⟩, .exit 0, fun _ => [(2, .bool false)])]⟩
theorem loopTC_met (B : List (Nat × Sy.Cont)) (l : List ThreadD) (p1 : Nat) (tv : Value) (cells : Int) : Sy.MeetsL Tryz.prog (loopTC B l p1 tv cells) := by
 refine Sy.loop_ofB (σ := Nat × ThreadD) (S := fun s => ctxT B s.2.acts p1 tv (Sy.lenS tv) s.1 cells) (n := 50) (fn := fWhole) (fun _ => ctxT_holds _ _ _ _ _ _ _) mixed (body := bodyT) rfl [1, 2, 22, 23, 24] (fun s => slT p1 tv (Sy.lenS tv) s.1)
  (fun _ => (memT p1 cells tv).map Sy.ownOf ++ rdOf B) (fun s => s.1 ≤ l.length ∧ ThreadsR B tv l ∧ (∀ j t, j < s.1 → l[j]? = some t → ¬ badThr cells t) ∧ ∀ t, l[s.1]? = some t → s.2 = t) (fun s => l.length - s.1)
  (0, l.headD ⟨0, []⟩) (fun h => ⟨Nat.zero_le _, h, fun i x hi => by simp at hi, fun a ha => by cases l <;> simp_all⟩) (fun p hp => hp) (Sy.Ent.refl _) (o := fun _ => wt_o) (R := fun s f => wt_R B s.2.acts p1 tv (Sy.lenS tv) s.1 cells f) (fun s f _ => wt_run B s.2.acts p1 tv (Sy.lenS tv) s.1 cells f) ?_
 rintro - ⟨k, t⟩ f ⟨hk, hR, hinv, ha⟩ ns
 simp only at hk hinv ha
 simp only [wt_R, Sy.Res.holds]
 refine ⟨fun hlt => ?_, fun hge => ?_⟩
 ·have hlt : k < l.length := by rw [Ex.ltQ_eq, hR.len] at hlt; simpa using hlt
  obtain ⟨t', hn⟩ : ∃ n, l[k]? = some n := ⟨_, List.getElem?_eq_getElem hlt⟩
  obtain rfl : t = t' := ha t' hn
  obtain ⟨av, h0, h1, hA⟩ := hR.thr k t hn
  refine ⟨⟨hR.at_ (fun h => by rw [h] at hlt; simp at hlt), by simp, by rw [hR.len]; simpa using hlt⟩, ⟨_, h0⟩, fun e0 => ⟨⟨_, h1⟩, fun e1 => ?_⟩⟩
  have e0 := e0 _ h0
  have e1 := e1 _ h1
  simp only [Value.int.injEq, true_and] at e0
  rw [← e0, ← e1]
  obtain ⟨p, n, c, hav⟩ := hA.sl
  refine ⟨?_, hA.sl, fun hb => ?_, fun hb => ⟨hA.sl, hA, gotL_of (fun p hp => hp), fun hbad => ?_, fun hgood => ?_⟩⟩
  ·simp [hav, Value.oneCell']
  ·refine ⟨rfl, .inr ⟨by simp, _, List.mem_cons_self, rfl, [], rfl, ⟨[1], rfl⟩, Sy.Ent.sub (List.nil_sublist _), k, t, hn, .inl ?_⟩⟩
   rw [hA.len] at hb
   exact hb
  ·exact ⟨rfl, .inr ⟨by simp, _, List.mem_cons_self, rfl, [], rfl, ⟨[1], rfl⟩, Sy.Ent.sub (List.nil_sublist _), k, t, hn, .inr hbad⟩⟩
  ·refine ⟨rfl, .inl ⟨rfl, (k + 1, l.getD (k + 1) t), ⟨by show k + 1 ≤ l.length; omega, hR, fun j x hj hx => ?_, fun x hx => ?_⟩, by show l.length - (k + 1) < l.length - k; omega, ?_, Sy.Ent.sub ((List.sublist_cons_self _ _).cons_cons _)⟩⟩
   ·by_cases he : j = k
    ·subst he
     rw [hn] at hx
     injection hx with hx
     subst hx
     rw [hA.len] at hb
     rintro (h | h)
     ·exact absurd h (by unfold out1; rw [hb]; exact Bool.false_ne_true)
     ·exact hgood h
    ·exact hinv j x (by simp only at hj; omega) hx
   ·simp only at hx
    show l.getD (k + 1) t = x
    rw [List.getD_eq_getElem?_getD, hx]
    rfl
   ·rw [w_succ (by have := hR.lt; omega)]
    rfl
 ·have hge : k = l.length := by rw [Ex.ltQ_eq, hR.len] at hge; simp at hge; omega
  subst hge
  refine ⟨rfl, .inr ⟨by simp, _, List.mem_cons_of_mem _ (List.mem_singleton_self _), rfl, [], rfl, ⟨[1], rfl⟩, Sy.Ent.sub (List.nil_sublist _), ?_⟩⟩
  rintro ⟨j, x, hx, hp⟩
  exact hinv j x (List.getElem?_eq_some_iff.1 hx).1 hx hp
def ctxG (B : List (Nat × Sy.Cont)) (l : List ThreadD) (tv : Value) (cells : Int) : Sy.Ctx := Sy.mkS [] [(fWhole, fun a _ => loopTC B l (Sy.ptrN (a.get 1)) tv cells)] []
theorem ctxG_holds (B : List (Nat × Sy.Cont)) (l : List ThreadD) (tv : Value) (cells : Int) : (ctxG B l tv cells).holds Tryz.prog := Sy.mkS_holds (fun _ h => (by cases h)) (fun p hp a L => by
 rcases List.mem_singleton.1 hp with rfl
 exact loopTC_met _ _ _ _ _) (fun _ h => (by cases h))
open Go Go.RowKit
open Sy (Let Blk HasL)
def wg_o : Sy.O := (bz 15 0x5ef7 (fork nil (bz 12 0xd77 (fork (steps [0, 1] nil) (steps [0, 1] nil)))))
noncomputable def wg_R (B : List (Nat × Sy.Cont)) (l : List ThreadD) (tv : Value) (cells : Int) (ns : Nat → Sy.Let) : Sy.Res (Value × List Blk) :=
 let z0 := (∃ (p : Option Addr), ∃ (n : Nat), ∃ (c : Nat), tv = Value.slice p n c)
 let z1 := [] ++ rdOf B
 need z0 (br (bif bif Ex.ltQ cells 0 then true else Ex.ltQ 4096 cells then true else Ex.ltQ 64 (Int.ofNat (Sy.lenS tv))) (leaf (Value.bool false, Blk.mk (ns 0).n (.obj (.cells (Array.mk [.int .i64 cells, tv]) 24)) true :: rdOf B)) (need z0 (need (ThreadsR B tv l) (need (Sy.GotL z1 B) (both (hyp (∃ (i : Nat), ∃ (t : ThreadD), l[i]? = some t ∧ badThr cells t) (leaf (Value.bool false, [] ++ z1))) (hyp (badThrs cells l → False) (leaf (Value.bool true, [] ++ z1))))))))
theorem wg_run (B : List (Nat × Sy.Cont)) (l : List ThreadD) (tv : Value) (cells : Int) : Sy.Ran (Sy.inB Tryz.prog (ctxG B l tv cells) 50 fWhole #[progV cells tv] (rdOf B)) wg_o (wg_R B l tv cells) := ⟨fun _ => by kernel_rfl, fun _ => by kernel_rfl⟩
def out0 (cells : Int) (l : List ThreadD) : Bool := bif bif Ex.ltQ cells 0 then true else Ex.ltQ 4096 cells then true else Ex.ltQ 64 (Int.ofNat l.length)
open Classical in

def wholeF (cells : Int) (l : List ThreadD) : Bool := decide (¬ (out0 cells l = true ∨ badThrs cells l))
def wholeC (B : List (Nat × Sy.Cont)) (tv : Value) (l : List ThreadD) (cells : Int) : Sy.CallC := ⟨fWhole, #[progV cells tv], ThreadsR B tv l, ⟨[], [], 0, B⟩, [Sy.plainO (.bool (wholeF cells l))]⟩
open Classical in
theorem wholeC_met (B : List (Nat × Sy.Cont)) (tv : Value) (l : List ThreadD) (cells : Int) : Sy.Meets Tryz.prog (wholeC B tv l cells) := by
 refine Sy.meets_ofB (ctxG_holds B l tv cells) mixed (L := rdOf B) (Sy.Ent.refl _) (wg_run B l tv cells) fun hR ns => ?_
 have leaf : ∀ (b : Bool) (L : List Blk), b = wholeF cells l → Sy.leafB (wholeC B tv l cells) (.bool b, L) := fun b L h => plainB_leaf (List.mem_singleton_self _) rfl (by rw [h])
 replace hR : ThreadsR B tv l := hR
 simp only [wg_R, Sy.Res.holds]
 refine ⟨hR.sl, fun hb => leaf _ _ ?_, fun hb => ⟨hR.sl, hR, gotL_of (fun p hp => by simpa using hp), fun h => leaf _ _ ?_, fun h => leaf _ _ ?_⟩⟩
 ·rw [hR.len] at hb
  exact (decide_eq_false (fun h => h (.inl hb))).symm
 ·exact (decide_eq_false (fun h' => h' (.inr h))).symm
 ·rw [hR.len] at hb
  refine (decide_eq_true ?_).symm
  rintro (h' | h')
  ·exact absurd h' (by unfold out0; rw [hb]; exact Bool.false_ne_true)
  ·exact h h'
open Sy (Let Blk)
def Sim : List Blk → List Blk → Prop
 | [], [] => True
 | a :: A, b :: B => (b.nm = a.nm ∧ b.own = a.own ∧ ∀ h, a.ct.sat h → b.ct.sat h) ∧ Sim A B
 | _, _ => False
theorem Sim.mem : ∀ {A B : List Blk}, Sim A B → ∀ b ∈ B, ∃ a ∈ A, b.nm = a.nm ∧ b.own = a.own ∧ ∀ h, a.ct.sat h → b.ct.sat h
 | [], [], _, b, hb => by cases hb
 | a :: A, b :: B, ⟨h1, h2⟩, c, hc => by
   rcases List.mem_cons.1 hc with rfl | hc
   ·exact ⟨a, List.mem_cons_self, h1⟩
   ·obtain ⟨x, hx, h⟩ := Sim.mem h2 c hc
    exact ⟨x, List.mem_cons_of_mem _ hx, h⟩
 | [], _ :: _, h, _, _ => h.elim
 | _ :: _, [], h, _, _ => h.elim
theorem Sim.far : ∀ {A B : List Blk}, Sim A B → A.Pairwise Sy.Far → B.Pairwise Sy.Far
 | [], [], _, _ => List.Pairwise.nil
 | a :: A, b :: B, ⟨⟨h1, h2, _⟩, hs⟩, hp => by
   rw [List.pairwise_cons] at hp ⊢
   refine ⟨fun c hc ho => ?_, Sim.far hs hp.2⟩
   obtain ⟨x, hx, e1, e2, -⟩ := Sim.mem hs c hc
   rw [h1, e1]
   rw [h2, e2] at ho
   exact hp.1 x hx ho
 | [], _ :: _, h, _ => h.elim
 | _ :: _, [], h, _ => h.elim
theorem ent_sim {A B : List Blk} (h : Sim A B) : Sy.Ent A B := fun w0 keep W hr => by
 refine ⟨hr.os, hr.tape, hr.output, hr.size, hr.old, fun p hp => ?_, h.far hr.far⟩
 obtain ⟨a, ha, e1, e2, e3⟩ := h.mem p hp
 rw [e1, e2]
 exact ⟨e3 _ (hr.blk a ha).1, (hr.blk a ha).2⟩
end Go.Proofs.YtlpcnaeknbmjdaaGreat
namespace Go.Proofs.YtlpcnaeknbmjdaaGreat.Gn
open Sy.O (bz nil)
open Sy.Res (need hyp br leaf both)
open Go Go.RowKit
open Go.Proofs.YtlpcnaeknbmjdaaGreat.Sy (Let Blk HasL)
open Lw (I insCells tI)
def slP (v : Value) : Option Addr := match v with
 | .slice p _ _ => p
 | _ => none
def slC (v : Value) : Nat := match v with
 | .slice _ _ c => c
 | _ => 0
abbrev slV (v : Value) : Value := .slice (slP v) (Sy.lenS v) (slC v)
def rowB (v : Value) (X : List I) : List (Nat × Sy.Cont) := match slP v with
 | some ⟨g, 0, none⟩ => [(g, .row tI 6 X.length (slC v) (insCells X))]
 | _ => []
def RowV (v : Value) (X : List I) : Prop := (X = [] ∧ slP v = none ∧ Sy.lenS v = 0 ∧ slC v = 0) ∨ (∃ g, slP v = some ⟨g, 0, none⟩ ∧ Sy.lenS v = X.length ∧ X.length ≤ slC v ∧ X ≠ [])
structure Rw where
 B : Value → List I → List (Nat × Sy.Cont)
 V : Value → List I → Prop
def rowQ : Rw := ⟨rowB, RowV⟩
abbrev tY : TypeId := 132
def layC (lv mp tv : Value) (e : Int) (b : Bool) : Sy.Cont := .obj (.cells #[lv, mp, tv, .int .i64 e, .bool b] tY (0, 0))
abbrev fPut : FuncId := 60
def pNR_o : Sy.O := (bz 25 0x1cfaaaf nil)
noncomputable def pNR_R (y s m c : Nat) (mp tv : Value) (e : Int) (b : Bool) (Z : List I) (ns : Nat → Sy.Let) : Sy.Res (Value × List Blk) :=
 let z0 := 0 + m
 need ((0 : Nat) = 0 ∧ List.length (insCells Z) = m * 6 ∧ ∀ (u : Value), u ∈ insCells Z → Value.oneCell' u = true) (need (1 ≤ m) (need (0 + m ≤ 9223372036854775807) (need (z0 * (48 : Nat) ≤ 140737488355328) (hyp (Nat.le z0 (ns 1).n) (leaf (Value.tuple (Array.mk []), [Blk.mk (ns 0).n (Sy.Cont.row 49 6 z0 (ns 1).n ([] ++ insCells Z)) true, Blk.mk s (Sy.Cont.seg 0 (insCells Z)) false, Blk.mk y (.obj (.cells (Array.mk [.slice (some (Addr.mk (ns 0).n 0 none)) z0 (ns 1).n, mp, tv, .int .i64 e, .bool b]) 132)) true]))))))
theorem pNR_run (y s m c : Nat) (mp tv : Value) (e : Int) (b : Bool) (Z : List I) : Sy.Ran (Sy.inB Tryz.prog Sy.S0 50 fPut #[.pointer (some ⟨y, 0, none⟩), .slice (some ⟨s, 0, none⟩) m c] [⟨y, layC (.slice none 0 0) mp tv e b, true⟩, ⟨s, .seg 0 (insCells Z), false⟩]) pNR_o (pNR_R y s m c mp tv e b Z) := ⟨fun _ => by kernel_rfl, fun _ => by kernel_rfl⟩
def pRR_o : Sy.O := (bz 32 0xe7d9554f nil)
noncomputable def pRR_R (y s m c g n cap : Nat) (mp tv : Value) (e : Int) (b : Bool) (xs : List Value) (Z : List I) (ns : Nat → Sy.Let) : Sy.Res (Value × List Blk) :=
 let z0 := insCells Z
 need ((0 : Nat) = 0 ∧ List.length z0 = m * 6 ∧ ∀ (u : Value), u ∈ insCells Z → Value.oneCell' u = true) (need (1 ≤ m) (need (n + m ≤ 9223372036854775807) (need ((n + m) * (48 : Nat) ≤ 140737488355328) (hyp (Nat.le (n + m) (ns 1).n) (leaf (Value.tuple (Array.mk []), [Blk.mk (ns 0).n (Sy.Cont.row 49 6 (n + m) (ns 1).n (List.append xs z0)) true, Blk.mk s (Sy.Cont.seg 0 z0) false, Blk.mk y (.obj (.cells (Array.mk [.slice (some (Addr.mk (ns 0).n 0 none)) (n + m) (ns 1).n, mp, tv, .int .i64 e, .bool b]) 132)) true]))))))
theorem pRR_run (y s m c g n cap : Nat) (mp tv : Value) (e : Int) (b : Bool) (xs : List Value) (Z : List I) : Sy.Ran (Sy.inB Tryz.prog Sy.S0 50 fPut #[.pointer (some ⟨y, 0, none⟩), .slice (some ⟨s, 0, none⟩) m c] [⟨y, layC (.slice (some ⟨g, 0, none⟩) n cap) mp tv e b, true⟩, ⟨g, .row tI 6 n cap xs, true⟩, ⟨s, .seg 0 (insCells Z), false⟩]) pRR_o (pRR_R y s m c g n cap mp tv e b xs Z) := ⟨fun _ => by kernel_rfl, fun _ => by kernel_rfl⟩
def pNN_o : Sy.O := (bz 8 0xf7 nil)
noncomputable def pNN_R (y : Nat) (mp tv : Value) (e : Int) (b : Bool) (ns : Nat → Sy.Let) : Sy.Res (Value × List Blk) :=
 leaf (Value.tuple (Array.mk []), [Blk.mk y (.obj (.cells (Array.mk [.slice none 0 0, mp, tv, .int .i64 e, .bool b]) 132)) true])
theorem pNN_run (y : Nat) (mp tv : Value) (e : Int) (b : Bool) : Sy.Ran (Sy.inB Tryz.prog Sy.S0 50 fPut #[.pointer (some ⟨y, 0, none⟩), .slice none 0 0] [⟨y, layC (.slice none 0 0) mp tv e b, true⟩]) pNN_o (pNN_R y mp tv e b) := ⟨fun _ => by kernel_rfl, fun _ => by kernel_rfl⟩
def pRN_o : Sy.O := (bz 16 0xefaf nil)
noncomputable def pRN_R (y g n cap : Nat) (mp tv : Value) (e : Int) (b : Bool) (xs : List Value) (ns : Nat → Sy.Let) : Sy.Res (Value × List Blk) :=
 hyp True (leaf (Value.tuple (Array.mk []), [Blk.mk g (Sy.Cont.row 49 6 n cap xs) true, Blk.mk y (.obj (.cells (Array.mk [.slice (some (Addr.mk g 0 none)) n cap, mp, tv, .int .i64 e, .bool b]) 132)) true]))
theorem pRN_run (y g n cap : Nat) (mp tv : Value) (e : Int) (b : Bool) (xs : List Value) : Sy.Ran (Sy.inB Tryz.prog Sy.S0 50 fPut #[.pointer (some ⟨y, 0, none⟩), .slice none 0 0] [⟨y, layC (.slice (some ⟨g, 0, none⟩) n cap) mp tv e b, true⟩, ⟨g, .row tI 6 n cap xs, true⟩]) pRN_o (pRN_R y g n cap mp tv e b xs) := ⟨fun _ => by kernel_rfl, fun _ => by kernel_rfl⟩
open Go Go.RowKit
open Go.Proofs.YtlpcnaeknbmjdaaGreat.Sy (Let Blk HasL)
open Lw (I insCells tI)
theorem RowV.lit {v : Value} {X : List I} (h : RowV v X) : (X = [] ∧ slV v = .slice none 0 0 ∧ rowB v X = []) ∨ ∃ g cap, slV v = .slice (some ⟨g, 0, none⟩) X.length cap ∧ rowB v X = [(g, .row tI 6 X.length cap (insCells X))] ∧ X.length ≤ cap ∧ X ≠ [] := by
 rcases h with ⟨h1, h2, h3, h4⟩ | ⟨g, h2, h3, h4, h5⟩
 ·refine .inl ⟨h1, ?_, ?_⟩
  ·rw [slV, h2, h3, h4]
  ·unfold rowB
   rw [h2]
 ·refine .inr ⟨g, slC v, ?_, ?_, h4, h5⟩
  ·rw [slV, h2, h3]
  ·unfold rowB
   rw [h2]
   rfl
theorem rowV_nil : RowV (.slice none 0 0) [] := .inl ⟨rfl, rfl, rfl, rfl⟩
theorem rowV_some {g cap : Nat} {X : List I} (h : X.length ≤ cap) (hne : X ≠ []) : RowV (.slice (some ⟨g, 0, none⟩) X.length cap) X := .inr ⟨g, rfl, rfl, h, hne⟩
theorem ins_len (l : List I) : (insCells l).length = l.length * 6 := Lw.insC_len l
theorem ins_app (a b : List I) : insCells (a ++ b) = insCells a ++ insCells b := Lw.insC_app a b
theorem ins_one (l : List I) : ∀ u ∈ insCells l, u.oneCell' = true := Lw.insC_one l
def letV (v : Value) : Let := ⟨0, 0, false, v, []⟩
def lv0 (ns : List Let) : Value := (ns.getD 0 Let.none).v
def putO (q : Rw) (y : Nat) (mp tv : Value) (e : Int) (b : Bool) (X : List I) : Sy.OutM × (List Let → Value) :=
 (⟨fun ns => q.V (lv0 ns) X, fun ns => [(y, layC (slV (lv0 ns)) mp tv e b)], fun ns => q.B (lv0 ns) X⟩, fun _ => .tuple #[])
def putL (q : Rw) (y s c : Nat) (v mp tv : Value) (e : Int) (b : Bool) (X Z : List I) : Sy.CallC :=
 ⟨fPut, #[.pointer (some ⟨y, 0, none⟩), .slice (some ⟨s, 0, none⟩) Z.length c], q.V v X ∧ Z ≠ [] ∧ X.length + Z.length ≤ 2000000, ⟨[(s, .seg 0 (insCells Z))], (y, layC (slV v) mp tv e b) :: q.B v X, 1, []⟩, [putO q y mp tv e b (X ++ Z)]⟩
def putW (q : Rw) (y : Nat) (v w mp tv : Value) (e : Int) (b : Bool) (X Z : List I) : Sy.CallC :=
 ⟨fPut, #[.pointer (some ⟨y, 0, none⟩), slV w], q.V v X ∧ q.V w Z ∧ X.length + Z.length ≤ 2000000, ⟨[], (y, layC (slV v) mp tv e b) :: q.B v X, 1, q.B w Z⟩, [putO q y mp tv e b (X ++ Z)]⟩
theorem put_leaf {c : Sy.CallC} {y : Nat} {mp tv : Value} {e : Int} {b : Bool} {X : List I} (ho : putO rowQ y mp tv e b X ∈ c.outs) (hm : c.mem.m = 1) {g n cap : Nat} {xs : List Value} {r : Value × List Blk} (hv : r.1 = .tuple #[]) (hn : n = X.length) (hxs : xs = insCells X) (hc : n ≤ cap) (hne : X ≠ [])
  {x : List Blk} (hr : r.2 = ⟨g, .row tI 6 n cap xs, true⟩ :: (x ++ [⟨y, layC (.slice (some ⟨g, 0, none⟩) n cap) mp tv e b, true⟩])) : Sy.leafB c r := by
 subst hn hxs
 refine ⟨_, ho, [letV (.slice (some ⟨g, 0, none⟩) X.length cap)], hm.symm, hv, ?_, rowV_some hc hne⟩
 rw [hr]
 show Sy.Ent _ [⟨y, layC (.slice (some ⟨g, 0, none⟩) X.length cap) mp tv e b, true⟩, ⟨g, .row tI 6 X.length cap (insCells X), true⟩]
 refine Sy.Ent.trans (Sy.Ent.sub (B := [⟨g, .row tI 6 X.length cap (insCells X), true⟩, ⟨y, layC (.slice (some ⟨g, 0, none⟩) X.length cap) mp tv e b, true⟩]) ?_) (Sy.Ent.perm (List.Perm.swap _ _ _))
 exact List.Sublist.cons_cons _ (List.sublist_append_right _ _)
theorem putL_met (y s c : Nat) (v mp tv : Value) (e : Int) (b : Bool) (X Z : List I) : Sy.Meets Tryz.prog (putL rowQ y s c v mp tv e b X Z) := fun hok => by
 obtain ⟨hX, hZ, hb⟩ := id hok
 have hpos : 1 ≤ Z.length := List.length_pos_iff.2 hZ
 rcases hX.lit with ⟨rfl, h1, h2⟩ | ⟨g, cap, h1, h2, hc, hne⟩
 ·refine Sy.meets_ofB (c := putL rowQ y s c v mp tv e b [] Z) Sy.S0_holds mixed (L := [⟨y, layC (.slice none 0 0) mp tv e b, true⟩, ⟨s, .seg 0 (insCells Z), false⟩]) ?_ (pNR_run y s Z.length c mp tv e b Z) (fun _ ns => ?_) hok
  ·show Sy.Ent (⟨s, .seg 0 (insCells Z), false⟩ :: ((((y, layC (slV v) mp tv e b) :: rowB v []).map Sy.ownOf) ++ [])) _
   rw [h1, h2]
   exact Sy.Ent.perm (List.Perm.swap _ _ _)
  ·simp only [pNR_R, Sy.Res.holds]
   exact ⟨⟨trivial, ins_len Z, ins_one Z⟩, hpos, by omega, by omega, fun hc => put_leaf (x := [_]) (List.mem_singleton_self _) rfl rfl (by simp) (by simp) hc (by simpa using hZ) rfl⟩
 ·refine Sy.meets_ofB (c := putL rowQ y s c v mp tv e b X Z) Sy.S0_holds mixed (L := [⟨y, layC (.slice (some ⟨g, 0, none⟩) X.length cap) mp tv e b, true⟩, ⟨g, .row tI 6 X.length cap (insCells X), true⟩, ⟨s, .seg 0 (insCells Z), false⟩]) ?_ (pRR_run y s Z.length c g X.length cap mp tv e b (insCells X) Z) (fun _ ns => ?_) hok
  ·show Sy.Ent (⟨s, .seg 0 (insCells Z), false⟩ :: ((((y, layC (slV v) mp tv e b) :: rowB v X).map Sy.ownOf) ++ [])) _
   rw [h1, h2]
   exact Sy.Ent.perm ((List.Perm.swap _ _ _).trans ((List.Perm.swap _ _ _).cons _))
  ·simp only [pRR_R, Sy.Res.holds]
   exact ⟨⟨trivial, ins_len Z, ins_one Z⟩, hpos, by omega, by omega, fun hc => put_leaf (x := [_]) (List.mem_singleton_self _) rfl rfl List.length_append.symm (ins_app X Z).symm hc (by simp [hne]) rfl⟩
theorem ent_seg {A : List Blk} {s n cap : Nat} {Z : List I} {b : Bool} : Sy.Ent (A ++ [⟨s, .row tI 6 n cap (insCells Z), b⟩]) (A ++ [⟨s, .seg 0 (insCells Z), b⟩]) := by
 have key : ∀ A : List Blk, Sim (A ++ [⟨s, .row tI 6 n cap (insCells Z), b⟩]) (A ++ [⟨s, .seg 0 (insCells Z), b⟩]) := fun A => by
  induction A with
  | nil => exact ⟨⟨rfl, rfl, fun _ h => Sy.Cont.sat_seg h⟩, trivial⟩
  | cons a A ih => exact ⟨⟨rfl, rfl, fun _ h => h⟩, ih⟩
 exact ent_sim (key A)
theorem putW_met (y : Nat) (v w mp tv : Value) (e : Int) (b : Bool) (X Z : List I) : Sy.Meets Tryz.prog (putW rowQ y v w mp tv e b X Z) := fun hok => by
 obtain ⟨hX, hW, hb⟩ := id hok
 rcases hW.lit with ⟨rfl, k1, k2⟩ | ⟨s, c, k1, k2, hc', hZ⟩
 ·have hargs : (putW rowQ y v w mp tv e b X []).args = #[.pointer (some ⟨y, 0, none⟩), .slice none 0 0] := by
   show #[_, slV w] = _
   rw [k1]
  rcases hX.lit with ⟨rfl, h1, h2⟩ | ⟨g, cap, h1, h2, hc, hne⟩
  ·refine Sy.meets_ofB (c := putW rowQ y v w mp tv e b [] []) Sy.S0_holds mixed (L := [⟨y, layC (.slice none 0 0) mp tv e b, true⟩]) ?_ (by rw [hargs]; exact pNN_run y mp tv e b) (fun _ ns => ?_) hok
   ·show Sy.Ent ((((y, layC (slV v) mp tv e b) :: rowB v []).map Sy.ownOf) ++ rdOf (rowB w [])) _
    rw [h1, h2, k2]
    exact Sy.Ent.refl _
   ·simp only [pNN_R, Sy.Res.holds]
    exact ⟨_, List.mem_singleton_self _, [letV (.slice none 0 0)], rfl, rfl, Sy.Ent.refl _, rowV_nil⟩
  ·refine Sy.meets_ofB (c := putW rowQ y v w mp tv e b X []) Sy.S0_holds mixed (L := [⟨y, layC (.slice (some ⟨g, 0, none⟩) X.length cap) mp tv e b, true⟩, ⟨g, .row tI 6 X.length cap (insCells X), true⟩]) ?_ (by rw [hargs]; exact pRN_run y g X.length cap mp tv e b (insCells X)) (fun _ ns => ?_) hok
   ·show Sy.Ent ((((y, layC (slV v) mp tv e b) :: rowB v X).map Sy.ownOf) ++ rdOf (rowB w [])) _
    rw [h1, h2, k2]
    exact Sy.Ent.refl _
   ·simp only [pRN_R, Sy.Res.holds]
    exact fun _ => put_leaf (x := []) (List.mem_singleton_self _) rfl rfl (by simp) (by simp) hc (by simpa using hne) rfl
 ·have hpos : 1 ≤ Z.length := List.length_pos_iff.2 hZ
  have hargs : (putW rowQ y v w mp tv e b X Z).args = #[.pointer (some ⟨y, 0, none⟩), .slice (some ⟨s, 0, none⟩) Z.length c] := by
   show #[_, slV w] = _
   rw [k1]
  rcases hX.lit with ⟨rfl, h1, h2⟩ | ⟨g, cap, h1, h2, hc, hne⟩
  ·refine Sy.meets_ofB (c := putW rowQ y v w mp tv e b [] Z) Sy.S0_holds mixed (L := [⟨y, layC (.slice none 0 0) mp tv e b, true⟩, ⟨s, .seg 0 (insCells Z), false⟩]) ?_ (by rw [hargs]; exact pNR_run y s Z.length c mp tv e b Z) (fun _ ns => ?_) hok
   ·show Sy.Ent ((((y, layC (slV v) mp tv e b) :: rowB v []).map Sy.ownOf) ++ rdOf (rowB w Z)) _
    rw [h1, h2, k2]
    exact ent_seg (A := [_])
   ·simp only [pNR_R, Sy.Res.holds]
    exact ⟨⟨trivial, ins_len Z, ins_one Z⟩, hpos, by omega, by omega, fun hc => put_leaf (x := [_]) (List.mem_singleton_self _) rfl rfl (by simp) (by simp) hc (by simpa using hZ) rfl⟩
  ·refine Sy.meets_ofB (c := putW rowQ y v w mp tv e b X Z) Sy.S0_holds mixed (L := [⟨y, layC (.slice (some ⟨g, 0, none⟩) X.length cap) mp tv e b, true⟩, ⟨g, .row tI 6 X.length cap (insCells X), true⟩, ⟨s, .seg 0 (insCells Z), false⟩]) ?_ (by rw [hargs]; exact pRR_run y s Z.length c g X.length cap mp tv e b (insCells X) Z) (fun _ ns => ?_) hok
   ·show Sy.Ent ((((y, layC (slV v) mp tv e b) :: rowB v X).map Sy.ownOf) ++ rdOf (rowB w Z)) _
    rw [h1, h2, k2]
    exact ent_seg (A := [_, _])
   ·simp only [pRR_R, Sy.Res.holds]
    exact ⟨⟨trivial, ins_len Z, ins_one Z⟩, hpos, by omega, by omega, fun hc => put_leaf (x := [_]) (List.mem_singleton_self _) rfl rfl List.length_append.symm (ins_app X Z).symm hc (by simp [hne]) rfl⟩
end Go.Proofs.YtlpcnaeknbmjdaaGreat.Gn
end
