/-
  The reference's Expr and Address behind a row; Address of no nodes (and what follows it).
-/
import Derived.Test.YtlpcnaeknbmjdaaGreatQc

noncomputable section
set_option linter.unusedVariables false
set_option linter.unusedSimpArgs false
namespace Go.Proofs.YtlpcnaeknbmjdaaGreat.Lw
open Sy.O (fork nil step steps)
open Sy.Res (need hyp br leaf both)
open Go Go.RowKit
open Go.Proofs.YtlpcnaeknbmjdaaGreat.Sy (Let Blk)
def ctxR (g o c : Nat) (l : List Nd) : Sy.Ctx := Sy.mkS [(fRX, fun a _ => rxC g o c l (Sy.argI a 1)), (fRN, fun _ _ => rnC g o c l), (fLay, fun a L => rlayA g o c l l.length (Sy.ptrN (Sy.argV a 0)) (Sy.lenV (Sy.argV a 0)) (Sy.capN (Sy.argV a 0)) (Sy.firstRow L) (Sy.argI a 2) (Sy.argI a 3)),
 (fRNum, fun a L => rnumA (Sy.ptrN (Sy.argV a 0)) (Sy.lenV (Sy.argV a 0)) (Sy.capN (Sy.argV a 0)) (Sy.firstRow L) (Sy.argI a 1) (Sy.argI a 2)), (fPow, fun a _ => pwC (Sy.argI a 0))] [] []
theorem ctxR_holds (g o c : Nat) (l : List Nd) : (ctxR g o c l).holds Tryz.prog := Sy.mkS_holds (fun p hp a L => by
 rcases List.mem_cons.1 hp with rfl | hp
 ·exact rxC_met _ _ _ _ _
 rcases List.mem_cons.1 hp with rfl | hp
 ·exact rnC_met _ _ _ _
 rcases List.mem_cons.1 hp with rfl | hp
 ·exact (rlay_met _ _ _ _ _).2 _ _ _ _ _ _
 rcases List.mem_cons.1 hp with rfl | hp
 ·exact rnumA_met _ _ _ _ _ _
 rcases List.mem_singleton.1 hp with rfl
 exact pwC_met _) (fun _ h => (by cases h)) (fun _ h => (by cases h))
def rtxArgsA (gl n cap g o c : Nat) (l : List Nd) (k : Int) : Array Value := #[.slice (some ⟨gl, 0, none⟩) n cap, .slice (some ⟨g, o, none⟩) l.length c, .int .i64 k]
def radArgsA (gl n cap g o c : Nat) (l : List Nd) (b s k : Int) : Array Value := #[.slice (some ⟨gl, 0, none⟩) n cap, .int .i64 b, .int .i64 s, .slice (some ⟨g, o, none⟩) l.length c, .int .i64 k]
def rtxA_o : Sy.O := (steps [0, 0, 0, 0, 0, 0, 1, 1] (fork nil (steps [0, 0, 0, 0, 0, 0] (fork nil (steps [0, 0, 0, 0, 0, 0, 0, 0, 0] nil)))))
noncomputable def rtxA_R (gl n cap g o c : Nat) (xs : List Value) (l : List Nd) (k : Int) (ns : Nat → Sy.Let) : Sy.Res (Value × List Blk) :=
 let z0 := some (Addr.mk gl 0 none)
 let z1 := [Blk.mk gl (Sy.Cont.row 49 6 n cap xs) true]
 let z2 := Ex.subQ' (Int.ofNat (List.length l)) 1
 let z3 := tr l (Int.toNat (Ex.wrapQ .i64 z2))
 let z4 := Ex.addQ 24 k
 let z5 := lay z3 (Ex.wrapQ .i64 z4)
 let z6 := n + List.length z5
 need (((0 : Int) ≤ 24 ∧ (24 : Int) ≤ 1000 ∧ goodN l) ∧ 0 < List.length l) (hyp True (br (bif bif !tru (isExpr 24 l) then true else Ex.ltQ k 0 then true else Ex.ltQ 4 k) (leaf (Value.tuple (Array.mk [.slice z0 n cap, .int .i64 1]), z1)) (need (nodesOk 24 l ∧ 0 < List.length l ∧ List.length l ≤ 65536 ∧ onceOk l) (hyp True (br (Ex.ltQ 5 (Ex.wrapQ .i64 (Ex.addQ k (↑(E.needs (tr l (List.length l - 1))) : Int)))) (leaf (Value.tuple (Array.mk [.slice z0 n cap, .int .i64 30]), z1)) (need (((isExpr 24 l ∧ goodN l) ∧ n + List.length z5 ≤ 900000) ∧ 0 ≤ Ex.wrapQ .i64 z2 ∧ Ex.wrapQ .i64 z2 < (↑(List.length l) : Int) ∧ Ex.wrapQ .i64 z2 < (↑(List.length l) : Int) ∧ 24 ≤ Ex.wrapQ .i64 z4 ∧ Ex.wrapQ .i64 z4 + (↑(E.needs z3) : Int) ≤ 29) (hyp (Nat.le z6 (ns 1).n) (leaf (Value.tuple (Array.mk [.slice (some ⟨(ns 0).n, 0, none⟩) z6 (ns 1).n, .int .i64 0]), [Blk.mk (ns 0).n (Sy.Cont.row 49 6 z6 (ns 1).n (xs.append (insCells z5))) true])))))))))
theorem rtxA_run (gl n cap g o c : Nat) (xs : List Value) (l : List Nd) (k : Int) : Sy.Ran (Sy.inT Tryz.prog (ctxR g o c l) 60 fRTX (rtxArgsA gl n cap g o c l k) [⟨g, .seg o (ndCells l), false⟩, ⟨gl, .row tI 6 n cap xs, true⟩] (Sy.rowT tI)) rtxA_o (rtxA_R gl n cap g o c xs l k) := ⟨fun _ => by kernel_rfl, fun _ => by kernel_rfl⟩
def radPA_o : Sy.O := (steps [0] (fork (steps [0, 0, 0, 0, 0, 0] (fork (steps [0, 0, 0, 0, 0, 0, 0, 0, 0, 0, 0, 0, 0, 0, 0, 0, 0, 0] nil) (steps [0] (fork (steps [0, 0, 0, 0, 0, 0, 0, 0, 0, 0, 0, 0, 0, 0, 0, 0] nil) (steps [0, 0, 0] (fork (steps [0, 0, 0, 0, 0, 0, 0, 0, 0, 0, 0, 0] nil) (steps [0] (fork (steps [0, 0, 0, 0, 0, 0, 0, 0, 0, 0] nil) (steps [0] (fork (steps [0, 0, 0, 0, 0, 0, 0, 0] nil) (steps [0, 0, 0, 0, 0, 0, 0, 0, 0, 0, 0, 0, 0, 0, 0, 0, 0, 0, 0] (fork nil (steps [0, 0, 0, 0, 0, 0, 0] (fork (fork nil (steps [0, 0, 0, 0, 0, 0, 0, 0, 0, 0, 0, 0, 0, 0, 0, 0, 0, 0, 1, 0, 1, 1, 0, 0, 0, 0, 0, 0, 0, 0, 0, 0, 0, 0, 0, 0, 0, 0, 1, 0, 1, 1, 0, 0, 0, 0, 0, 0, 0] nil)) (fork nil (steps [0, 0, 0, 0, 0, 0, 0, 0, 0, 0, 0, 0, 0, 0, 0, 0, 0, 0, 1, 0, 1, 1, 0, 0, 0, 0, 0, 0, 0, 0, 0, 0, 0, 0, 0, 0, 0, 0, 1, 0, 1, 1, 0, 0, 0, 0, 0, 0, 0] nil)))))))))))))))) (steps [0, 0, 0, 0] (fork (steps [0, 0, 0, 0, 0, 0, 0, 0, 0, 0, 0, 0, 0, 0, 0, 0] nil) (steps [0, 0, 0] (fork (steps [0, 0, 0, 0, 0, 0, 0, 0, 0, 0, 0, 0] nil) (steps [0] (fork (steps [0, 0, 0, 0, 0, 0, 0, 0, 0, 0] nil) (steps [0] (fork (steps [0, 0, 0, 0, 0, 0, 0, 0] nil) (steps [0, 0, 0, 0, 0, 0, 0, 0, 0, 0, 0, 0, 0, 0, 0, 0, 0, 0, 0] (fork nil (steps [0, 0, 0, 0, 0, 0, 0] (fork (fork nil (steps [0, 0, 0, 0, 0, 0, 0, 0, 0, 0, 0, 0, 0, 0, 0, 0, 0, 0, 1, 0, 1, 1, 0, 0, 0, 0, 0, 0, 0, 0, 0, 0, 0, 0, 0, 0, 0, 0, 1, 0, 1, 1, 0, 0, 0, 0, 0, 0, 0] nil)) (fork nil (steps [0, 0, 0, 0, 0, 0, 0, 0, 0, 0, 0, 0, 0, 0, 0, 0, 0, 0, 1, 0, 1, 1, 0, 0, 0, 0, 0, 0, 0, 0, 0, 0, 0, 0, 0, 0, 0, 0, 1, 0, 1, 1, 0, 0, 0, 0, 0, 0, 0] nil))))))))))))))))
noncomputable def radPA_R (gl n cap g o c : Nat) (xs : List Value) (l : List Nd) (b k : Int) (p : Nat) (ns : Nat → Sy.Let) : Sy.Res (Value × List Blk) :=
 let z0 := Int.ofNat (Nat.succ p)
 let z1 := some (Addr.mk gl 0 none)
 let z2 := [Blk.mk gl (Sy.Cont.row 49 6 n cap xs) true]
 let z3 := leaf (Value.tuple (Array.mk [.slice z1 n cap, .int .i64 1]), z2)
 let z4 := leaf (Value.tuple (Array.mk [.slice z1 n cap, .int .i64 30]), z2)
 let z5 := Ex.subQ' (Int.ofNat (List.length l)) 1
 let z6 := tr l (Int.toNat (Ex.wrapQ .i64 z5))
 let z7 := Ex.addQ 24 k
 let z8 := Ex.wrapQ .i64 z7
 let z9 := lay z6 z8
 let z10 := Ex.wrapQ .u64 (Ex.wrapQ .i64 (Ex.subQ' z0 1))
 let z11 := Ex.wrapQ .i64 (Ex.addQ z8 1)
 let z12 := numL z11 z10
 let z13 := n + List.length z9 + List.length z12 + 2
 let z14 := Ex.wrapQ .u64 (Ex.wrapQ .i64 (Ex.addQ 65536 (Ex.wrapQ .i64 (Ex.mulQ 8 b))))
 let z15 := numL 29 z14
 let z16 := n + List.length z9 + List.length z12 + 2 + List.length z15 + 1
 let z17 := [Value.int .i64 5, Value.int .i64 z8, Value.int .i64 z8, Value.int .i64 z11, Value.int .i64 0, Value.int .i64 0, Value.int .i64 14, Value.int .i64 z8, Value.int .i64 z8, Value.int .i64 0, Value.int .i64 3, Value.int .i64 0]
 let z18 := [Value.int .i64 3, Value.int .i64 29, Value.int .i64 29, Value.int .i64 z8, Value.int .i64 0, Value.int .i64 0]
 let z19 := need (((isExpr 24 l ∧ goodN l) ∧ n + List.length z9 ≤ 900000) ∧ 0 ≤ Ex.wrapQ .i64 z5 ∧ Ex.wrapQ .i64 z5 < (↑(List.length l) : Int) ∧ Ex.wrapQ .i64 z5 < (↑(List.length l) : Int) ∧ 24 ≤ Ex.wrapQ .i64 z7 ∧ Ex.wrapQ .i64 z7 + (↑(E.needs z6) : Int) ≤ 29) (hyp (Nat.le (n + List.length z9) (ns 1).n) (need (goodU z10 ∧ n + List.length z9 ≤ 1000000) (hyp (Nat.le (n + List.length z9 + List.length z12) (ns 3).n) (need (n + List.length z9 + List.length z12 + (2 : Nat) ≤ 9223372036854775807) (need (z13 * (48 : Nat) ≤ 140737488355328) (hyp (Nat.le z13 (ns 6).n) (need (goodU z14 ∧ n + List.length z9 + List.length z12 + (2 : Nat) ≤ 1000000) (hyp (Nat.le (n + List.length z9 + List.length z12 + 2 + List.length z15) (ns 8).n) (need (n + List.length z9 + List.length z12 + 2 + List.length z15 + (1 : Nat) ≤ 9223372036854775807) (need (z16 * (48 : Nat) ≤ 140737488355328) (hyp (Nat.le z16 (ns 11).n) (leaf (Value.tuple (Array.mk [.slice (some ⟨(ns 10).n, 0, none⟩) z16 (ns 11).n, .int .i64 0]), [Blk.mk (ns 10).n (Sy.Cont.row 49 6 z16 (ns 11).n (List.append (List.append (List.append ((List.append xs (insCells z9)).append (insCells z12)) z17) (insCells z15)) z18)) true, Blk.mk (ns 9).n (.obj (.cells (Array.mk z18) 49)) true, Blk.mk (ns 4).n (.obj (.cells (Array.mk z17) 49)) true])))))))))))))
 let z20 := br (bif false then true else Ex.ltQ b 0) z3 (br (bif false then true else Ex.ltQ (Ex.wrapQ .i64 (Ex.subQ' 4096 z0)) b) z3 (br (bif false then true else Ex.ltQ k 0) z3 (br (bif false then true else Ex.ltQ 4 k) z3 (need (((0 : Int) ≤ 24 ∧ (24 : Int) ≤ 1000 ∧ goodN l) ∧ 0 < List.length l) (hyp True (br (bif false then true else bif true then !tru (isExpr 24 l) else false) z3 (need (nodesOk 24 l ∧ 0 < List.length l ∧ List.length l ≤ 65536 ∧ onceOk l) (hyp True (br (Ex.ltQ (↑(E.needs (tr l (List.length l - 1))) : Int) 2) (br (Ex.ltQ 5 (Ex.wrapQ .i64 (Ex.addQ k 2))) z4 z19) (br (Ex.ltQ 5 (Ex.wrapQ .i64 (Ex.addQ k (↑(E.needs (tr l (List.length l - 1))) : Int)))) z4 z19))))))))))
 br (!Ex.eqQ z0 1) (need True (hyp True (br (bif true then !tru (isPow z0) else false) z3 z20))) z20
theorem radPA_run (gl n cap g o c : Nat) (xs : List Value) (l : List Nd) (b k : Int) (p : Nat) : Sy.Ran (Sy.inT Tryz.prog (ctxR g o c l) 60 fRAd (radArgsA gl n cap g o c l b (.ofNat (.succ p)) k) [⟨g, .seg o (ndCells l), false⟩, ⟨gl, .row tI 6 n cap xs, true⟩] (Sy.rowT tI)) radPA_o (radPA_R gl n cap g o c xs l b k p) := ⟨fun _ => by kernel_rfl, fun _ => by kernel_rfl⟩
def ctxE (A : Option Addr) (c : Nat) : Sy.Ctx := Sy.mkS [(159, fun a _ => numC (Sy.argI a 0) (Sy.argI a 1)), (fRNum, fun a _ => rnum0 (Sy.argI a 1) (Sy.argI a 2)),
 (fRNum, fun a L => rnumA (Sy.ptrN (Sy.argV a 0)) (Sy.lenV (Sy.argV a 0)) (Sy.capN (Sy.argV a 0)) (Sy.firstRow L) (Sy.argI a 1) (Sy.argI a 2))] [] []
theorem ctxE_holds (A : Option Addr) (c : Nat) : (ctxE A c).holds Tryz.prog := Sy.mkS_holds (fun p hp a L => by
 rcases List.mem_cons.1 hp with rfl | hp
 ·exact numC_met _ _
 rcases List.mem_cons.1 hp with rfl | hp
 ·exact rnum0_met _ _
 rcases List.mem_singleton.1 hp with rfl
 exact rnumA_met _ _ _ _ _ _) (fun _ h => (by cases h)) (fun _ h => (by cases h))
def aeZ_o : Sy.O := (steps [0, 0, 0, 0, 0, 0, 0, 0, 0] (fork (steps [0, 0, 0, 0, 0, 0, 0, 0, 0, 0, 0, 0, 0, 0, 0, 0, 0] nil) (steps [0, 0, 0, 0] (fork (steps [0, 0, 0, 0, 0, 0, 0, 0, 0, 0, 0, 0] nil) (steps [0] (fork (steps [0, 0, 0, 0, 0, 0, 0, 0, 0, 0] nil) (steps [0] (fork (steps [0, 0, 0, 0, 0, 0, 0, 0] nil) (steps [0, 0, 0, 0, 0, 0, 0, 0, 0, 0, 0, 0, 0, 0, 0, 0, 0, 0, 0, 0] nil)))))))))
noncomputable def aeZ_R (A : Option Addr) (c : Nat) (b k : Int) (ns : Nat → Sy.Let) : Sy.Res (Value × List Blk) :=
 let z0 := leaf (Value.tuple (Array.mk [.slice none 0 0, .int .i64 1]), [])
 let z1 := Ex.wrapQ .i64 (Ex.addQ 65536 (Ex.wrapQ .i64 (Ex.mulQ 8 b)))
 let z2 := numL 29 (Ex.wrapQ .u64 z1)
 let z3 := List.length z2
 br (bif false then true else Ex.ltQ b 0) z0 (br (bif false then true else Ex.ltQ 4095 b) z0 (br (bif false then true else Ex.ltQ k 0) z0 (br (bif false then true else Ex.leQ 5 k) z0 (need (0 ≤ Ex.wrapQ .u64 z1 ∧ Ex.wrapQ .u64 z1 < 18446744073709551616) (hyp (Nat.le z3 (ns 1).n) (leaf (Value.tuple (Array.mk [.slice (some ⟨(ns 0).n, 0, none⟩) z3 (ns 1).n, .int .i64 0]), [Blk.mk (ns 0).n (Sy.Cont.row 49 6 z3 (ns 1).n (insCells z2)) true])))))))
theorem aeZ_run (A : Option Addr) (c : Nat) (b k : Int) : Sy.Ran (Sy.inT Tryz.prog (ctxE A c) 60 fAd #[.int .i64 b, .int .i64 0, .slice A 0 c, .int .i64 k] [] (Sy.rowT tI)) aeZ_o (aeZ_R A c b k) := ⟨fun _ => by kernel_rfl, fun _ => by kernel_rfl⟩
def raeZ_o : Sy.O := (steps [0, 0, 0, 0, 0, 0] (fork (steps [0, 0, 0, 0, 0, 0, 0, 0, 0, 0, 0, 0, 0, 0, 0, 0] nil) (steps [0, 0, 0] (fork (steps [0, 0, 0, 0, 0, 0, 0, 0, 0, 0, 0, 0] nil) (steps [0] (fork (steps [0, 0, 0, 0, 0, 0, 0, 0, 0, 0] nil) (steps [0] (fork (steps [0, 0, 0, 0, 0, 0, 0, 0] nil) (steps [0, 0, 0, 0, 0, 0, 0, 0, 0, 0, 0, 0, 0, 0, 0, 0, 0, 0, 0, 0] nil)))))))))
noncomputable def raeZ_R (A : Option Addr) (c : Nat) (b k : Int) (ns : Nat → Sy.Let) : Sy.Res (Value × List Blk) :=
 let z0 := leaf (Value.tuple (Array.mk [.slice none 0 0, .int .i64 1]), [])
 let z1 := Ex.wrapQ .i64 (Ex.addQ 65536 (Ex.wrapQ .i64 (Ex.mulQ 8 b)))
 let z2 := numL 29 (Ex.wrapQ .u64 z1)
 let z3 := List.length z2
 br (bif false then true else Ex.ltQ b 0) z0 (br (bif false then true else Ex.ltQ 4095 b) z0 (br (bif false then true else Ex.ltQ k 0) z0 (br (bif false then true else Ex.ltQ 4 k) z0 (need (0 ≤ Ex.wrapQ .u64 z1 ∧ Ex.wrapQ .u64 z1 < 18446744073709551616) (hyp (Nat.le z3 (ns 1).n) (leaf (Value.tuple (Array.mk [.slice (some ⟨(ns 0).n, 0, none⟩) z3 (ns 1).n, .int .i64 0]), [Blk.mk (ns 0).n (Sy.Cont.row 49 6 z3 (ns 1).n (insCells z2)) true])))))))
theorem raeZ_run (A : Option Addr) (c : Nat) (b k : Int) : Sy.Ran (Sy.inT Tryz.prog (ctxE A c) 60 fRAd #[.slice none 0 0, .int .i64 b, .int .i64 0, .slice A 0 c, .int .i64 k] [] (Sy.rowT tI)) raeZ_o (raeZ_R A c b k) := ⟨fun _ => by kernel_rfl, fun _ => by kernel_rfl⟩
def raeA_o : Sy.O := (steps [0, 0, 0, 0, 0, 0] (fork (steps [0, 0, 0, 0, 0, 0, 0, 0, 0, 0, 0, 0, 0, 0, 0, 0] nil) (steps [0, 0, 0] (fork (steps [0, 0, 0, 0, 0, 0, 0, 0, 0, 0, 0, 0] nil) (steps [0] (fork (steps [0, 0, 0, 0, 0, 0, 0, 0, 0, 0] nil) (steps [0] (fork (steps [0, 0, 0, 0, 0, 0, 0, 0] nil) (steps [0, 0, 0, 0, 0, 0, 0, 0, 0, 0, 0, 0, 0, 0, 0, 0, 1, 0, 0, 0, 0, 0] nil)))))))))
noncomputable def raeA_R (gl n cap : Nat) (xs : List Value) (A : Option Addr) (c : Nat) (b k : Int) (ns : Nat → Sy.Let) : Sy.Res (Value × List Blk) :=
 let z0 := leaf (Value.tuple (Array.mk [.slice (some ⟨gl, 0, none⟩) n cap, .int .i64 1]), [Blk.mk gl (Sy.Cont.row 49 6 n cap xs) true])
 let z1 := Ex.wrapQ .u64 (Ex.wrapQ .i64 (Ex.addQ 65536 (Ex.wrapQ .i64 (Ex.mulQ 8 b))))
 let z2 := numL 29 z1
 let z3 := n + List.length z2
 br (bif false then true else Ex.ltQ b 0) z0 (br (bif false then true else Ex.ltQ 4095 b) z0 (br (bif false then true else Ex.ltQ k 0) z0 (br (bif false then true else Ex.ltQ 4 k) z0 (need (goodU z1 ∧ n ≤ 1000000) (hyp (Nat.le z3 (ns 1).n) (leaf (Value.tuple (Array.mk [.slice (some ⟨(ns 0).n, 0, none⟩) z3 (ns 1).n, .int .i64 0]), [Blk.mk (ns 0).n (Sy.Cont.row 49 6 z3 (ns 1).n (xs.append (insCells z2))) true])))))))
theorem raeA_run (gl n cap : Nat) (xs : List Value) (A : Option Addr) (c : Nat) (b k : Int) : Sy.Ran (Sy.inT Tryz.prog (ctxE A c) 60 fRAd #[.slice (some ⟨gl, 0, none⟩) n cap, .int .i64 b, .int .i64 0, .slice A 0 c, .int .i64 k] [⟨gl, .row tI 6 n cap xs, true⟩] (Sy.rowT tI)) raeA_o (raeA_R gl n cap xs A c b k) := ⟨fun _ => by kernel_rfl, fun _ => by kernel_rfl⟩
open Go Go.RowKit
open Go.Proofs.YtlpcnaeknbmjdaaGreat.Sy (Let Blk)
def keepO (gl n cap : Nat) (xs : List Value) (v : Value) : Sy.OutM × (List Let → Value) := (⟨fun _ => True, fun _ => [(gl, .row tI 6 n cap xs)], fun _ => []⟩, fun _ => v)
theorem keep_leaf {c : Sy.CallC} {gl n cap : Nat} {xs : List Value} {v : Value} (ho : keepO gl n cap xs v ∈ c.outs) (hm : c.mem.m = 0) {y : Value × List Blk} (i : Nat) (hv : y.1 = v) (hb : y.2[i]? = some ⟨gl, .row tI 6 n cap xs, true⟩) : Sy.leafC c y := by
 refine ⟨_, ho, [], hm.symm, hv, ⟨[i], by simp, ?_⟩, trivial⟩
 have : Sy.pickL y.2 [i] = [⟨gl, .row tI 6 n cap xs, true⟩] := by simp [Sy.pickL, hb]
 rw [this]
 exact ⟨⟨rfl, rfl, .inl rfl⟩, trivial⟩
def xRegA (gl n cap g o c : Nat) (xs : List Value) (l : List Nd) (k : Int) : Sy.CallC := ⟨fRTX, rtxArgsA gl n cap g o c l k, lenOk l ∧ regX l k, ⟨[(g, .seg o (ndCells l))], [(gl, .row tI 6 n cap xs)], 0, []⟩, [keepO gl n cap xs (.tuple #[.slice (some ⟨gl, 0, none⟩) n cap, .int .i64 30])]⟩
def xOkA (gl n cap g o c : Nat) (xs : List Value) (l : List Nd) (k : Int) : Sy.CallC := ⟨fRTX, rtxArgsA gl n cap g o c l k, (lenOk l ∧ n + (outL l k).length ≤ 900000) ∧ okX l k, ⟨[(g, .seg o (ndCells l))], [(gl, .row tI 6 n cap xs)], 2, []⟩, [Sy.rowO tI 6 (n + (outL l k).length) (xs ++ insCells (outL l k)) fun s => .tuple #[s, .int .i64 0]]⟩
theorem rtxRegA_met (gl n cap g o c : Nat) (xs : List Value) (l : List Nd) (k : Int) : Sy.Meets Tryz.prog (xRegA gl n cap g o c xs l k) := by
 refine Sy.meets_of (ctxR_holds g o c l) mixed (rtxA_run gl n cap g o c xs l k) fun hok ns => ?_
 obtain ⟨hl, hb⟩ : lenOk l ∧ regX l k := hok
 have h0 := hl.1.1
 have hE := hb.1
 have hm := hE.2.2.1
 have hx := tr_small hE (i := l.length - 1) (by omega)
 have hn := (tr l (l.length - 1)).needs_le
 have hw : 0 ≤ k → k < 5 → Ex.wrapQ .i64 (Ex.addQ 24 k) = 24 + k := fun a b => add_small (by omega) (by omega)
 simp only [rtxA_R, Sy.Res.holds, Int.ofNat_eq_natCast, Sy.b_and, Sy.b_or, Sy.b_not, Sy.b_f, Sy.b_and', Sy.b_or', Sy.q_lt, Sy.q_le, Sy.q_eq, Sy.b_tt, Sy.b_ft, not_true_eq_false, not_false_eq_true, some_int, some_bool, exists_eq', true_and, tru_t, leftE hl, Int.toNat_natCast, false_or]
 refine ⟨⟨⟨by omega, by omega, hl.2⟩, h0⟩, fun _ => ?_⟩
 obtain ⟨-, b0, b1, b2⟩ := hb
 refine ⟨fun h => absurd h fun h => h.elim (fun h => h.elim (fun h => h hE) (by omega)) (by omega), fun h => ⟨hE, fun _ => ?_⟩⟩
 rw [add_small (by omega) (by omega)]
 exact ⟨fun _ => keep_leaf (Sy.mS _) rfl 0 rfl rfl, fun h => absurd b2 h⟩
theorem rtxOkA_met (gl n cap g o c : Nat) (xs : List Value) (l : List Nd) (k : Int) : Sy.Meets Tryz.prog (xOkA gl n cap g o c xs l k) := by
 refine Sy.meets_of (ctxR_holds g o c l) mixed (rtxA_run gl n cap g o c xs l k) fun hok ns => ?_
 obtain ⟨⟨hl, hlen⟩, hb⟩ : (lenOk l ∧ n + (outL l k).length ≤ 900000) ∧ okX l k := hok
 have h0 := hl.1.1
 have hE := hb.1
 have hm := hE.2.2.1
 have hx := tr_small hE (i := l.length - 1) (by omega)
 have hn := (tr l (l.length - 1)).needs_le
 have hw : 0 ≤ k → k < 5 → Ex.wrapQ .i64 (Ex.addQ 24 k) = 24 + k := fun a b => add_small (by omega) (by omega)
 simp only [rtxA_R, Sy.Res.holds, Int.ofNat_eq_natCast, Sy.b_and, Sy.b_or, Sy.b_not, Sy.b_f, Sy.b_and', Sy.b_or', Sy.q_lt, Sy.q_le, Sy.q_eq, Sy.b_tt, Sy.b_ft, not_true_eq_false, not_false_eq_true, some_int, some_bool, exists_eq', true_and, tru_t, leftE hl, Int.toNat_natCast, false_or]
 refine ⟨⟨⟨by omega, by omega, hl.2⟩, h0⟩, fun _ => ?_⟩
 obtain ⟨-, b0, b1⟩ := hb
 have hp := (tr l (l.length - 1)).needs_pos
 refine ⟨fun h => absurd h fun h => h.elim (fun h => h.elim (fun h => h hE) (by omega)) (by omega), fun h => ⟨hE, fun _ => ?_⟩⟩
 rw [add_small (by omega) (by omega), hw (by omega) (by omega)]
 exact ⟨fun h => absurd h (by omega), fun h => ⟨⟨⟨⟨hE, hl.2⟩, hlen⟩, by omega, by omega, by omega, by omega, by omega⟩, fun hc => Sy.rowO_leaf' (Sy.mS _) rfl 0 rfl rfl rfl rfl hc⟩⟩
def aRegA (gl n cap g o c : Nat) (xs : List Value) (l : List Nd) (b s k : Int) : Sy.CallC := ⟨fRAd, radArgsA gl n cap g o c l b s k, lenOk l ∧ aReg b s l k, ⟨[(g, .seg o (ndCells l))], [(gl, .row tI 6 n cap xs)], 0, []⟩, [keepO gl n cap xs (.tuple #[.slice (some ⟨gl, 0, none⟩) n cap, .int .i64 30])]⟩
def aOkA (gl n cap g o c : Nat) (xs : List Value) (l : List Nd) (b s k : Int) : Sy.CallC := ⟨fRAd, radArgsA gl n cap g o c l b s k, (lenOk l ∧ n + (addrL b s l k).length ≤ 900000) ∧ aOk b s l k, ⟨[(g, .seg o (ndCells l))], [(gl, .row tI 6 n cap xs)], 2, []⟩, [Sy.rowO tI 6 (n + (addrL b s l k).length) (xs ++ insCells (addrL b s l k)) fun v => .tuple #[v, .int .i64 0]]⟩
theorem radRegA_met (gl n cap g o c : Nat) (xs : List Value) (l : List Nd) (b k : Int) (p : Nat) : Sy.Meets Tryz.prog (aRegA gl n cap g o c xs l b (.ofNat (.succ p)) k) := by
 refine Sy.meets_of (ctxR_holds g o c l) mixed (radPA_run gl n cap g o c xs l b k p) fun hok ns => ?_
 obtain ⟨hl, ⟨⟨hq, hb0, hb1⟩, hk, hE⟩, hr⟩ : lenOk l ∧ aReg b (.ofNat (.succ p)) l k := hok
 have hp : (0 : Int) < .ofNat (.succ p) := by show (0 : Int) < ((p + 1 : Nat) : Int); omega
 simp only [radPA_R]
 generalize Int.ofNat (Nat.succ p) = s at *
 have hs := hq.bound
 have h0 := hl.1.1
 have hm := hE.2.2.1
 have hx := tr_small hE (i := l.length - 1) (by omega)
 have hn := (tr l (l.length - 1)).needs_le
 have h2 : need2 l ≤ 65536 := by unfold need2; split <;> omega
 have h3 := need2_pos l
 have leaf : ∀ L, Sy.leafC (aRegA gl n cap g o c xs l b s k) (.tuple #[.slice (some ⟨gl, 0, none⟩) n cap, .int .i64 30], ⟨gl, .row tI 6 n cap xs, true⟩ :: L) := fun L => keep_leaf (Sy.mS _) rfl 0 rfl rfl
 simp only [Sy.Res.holds, Int.ofNat_eq_natCast, Sy.b_and, Sy.b_or, Sy.b_not, Sy.b_f, Sy.b_and', Sy.b_or', Sy.q_lt, Sy.q_le, Sy.q_eq, Sy.b_tt, Sy.b_ft, not_true_eq_false, not_false_eq_true, some_int, some_bool, exists_eq', true_and, tru_t, leftE hl, Int.toNat_natCast, false_or, sub_small (a := 4096) (b := s) (by omega) (by omega), add_small (a := k) (b := 2) (by omega) (by omega), add_small (a := k) (b := ((tr l (l.length - 1)).needs : Int)) (by omega) (by omega)]
 refine ⟨fun _ => fun _ => ⟨fun h => absurd hq h, fun _ => ⟨fun h => absurd h (by omega), fun _ => ⟨fun h => absurd h (by omega), fun _ => ⟨fun h => absurd h (by omega), fun _ => ⟨fun h => absurd h (by omega), fun _ => ⟨⟨⟨by omega, by omega, hl.2⟩, h0⟩, fun _ => ⟨fun h => absurd hE h, fun _ => ⟨hE, fun _ => ⟨fun u => ⟨fun _ => leaf _, fun h => absurd h (by unfold need2 at hr; rw [if_pos (by omega)] at hr; omega)⟩, fun u => ⟨fun _ => leaf _, fun h => absurd h (by unfold need2 at hr; rw [if_neg (by omega)] at hr; omega)⟩⟩⟩⟩⟩⟩⟩⟩⟩⟩, fun _ => ⟨fun h => absurd h (by omega), fun _ => ⟨fun h => absurd h (by omega), fun _ => ⟨fun h => absurd h (by omega), fun _ => ⟨fun h => absurd h (by omega), fun _ => ⟨⟨⟨by omega, by omega, hl.2⟩, h0⟩, fun _ => ⟨fun h => absurd hE h, fun _ => ⟨hE, fun _ => ⟨fun u => ⟨fun _ => leaf _, fun h => absurd h (by unfold need2 at hr; rw [if_pos (by omega)] at hr; omega)⟩, fun u => ⟨fun _ => leaf _, fun h => absurd h (by unfold need2 at hr; rw [if_neg (by omega)] at hr; omega)⟩⟩⟩⟩⟩⟩⟩⟩⟩⟩
theorem radOkA_met (gl n cap g o c : Nat) (xs : List Value) (l : List Nd) (b k : Int) (p : Nat) : Sy.Meets Tryz.prog (aOkA gl n cap g o c xs l b (.ofNat (.succ p)) k) := by
 refine Sy.meets_of (ctxR_holds g o c l) mixed (radPA_run gl n cap g o c xs l b k p) fun hok ns => ?_
 obtain ⟨⟨hl, hlen0⟩, ⟨⟨hq, hb0, hb1⟩, hk, hE⟩, hr⟩ : (lenOk l ∧ n + (addrL b (.ofNat (.succ p)) l k).length ≤ 900000) ∧ aOk b (.ofNat (.succ p)) l k := hok
 have hp : (0 : Int) < .ofNat (.succ p) := by show (0 : Int) < ((p + 1 : Nat) : Int); omega
 simp only [radPA_R]
 generalize Int.ofNat (Nat.succ p) = s at *
 have hs := hq.bound
 have h0 := hl.1.1
 have hm := hE.2.2.1
 have h3 := need2_pos l
 have hx := tr_small hE (i := l.length - 1) (by omega)
 have hn := (tr l (l.length - 1)).needs_le
 have hf := lay_fits hE (i := l.length - 1) (by omega) (24 + k)
 have hn1 := numL_le (24 + k + 1) (s - 1)
 have hn2 := numL_le 29 (65536 + 8 * b)
 have hq1 := numL_pos (24 + k + 1) (s - 1)
 have hq2 := numL_pos 29 (65536 + 8 * b)
 have hnp := (tr l (l.length - 1)).needs_pos
 have hlen : (addrL b s l k).length = (lay (tr l (l.length - 1)) (24 + k)).length + ((numL (24 + k + 1) (s - 1)).length + ((numL 29 (65536 + 8 * b)).length + 3)) := by
  simp only [addrL, List.length_append, List.length_cons, List.length_nil]
 have hcs : insCells (addrL b s l k) = insCells (lay (tr l (l.length - 1)) (24 + k)) ++ (insCells (numL (24 + k + 1) (s - 1)) ++ ((I.mk 5 (24 + k) (24 + k) (24 + k + 1) 0 0).cells ++ ((I.mk 14 (24 + k) (24 + k) 0 3 0).cells ++ (insCells (numL 29 (65536 + 8 * b)) ++ (I.mk 3 29 29 (24 + k) 0 0).cells)))) := by
  simp [addrL, insCells]
 have hgo1 : goodU (s - 1) := by unfold goodU; omega
 have hgo2 : goodU (65536 + 8 * b) := by unfold goodU; omega
 simp only [Sy.Res.holds, Int.ofNat_eq_natCast, Sy.b_and, Sy.b_or, Sy.b_not, Sy.b_f, Sy.b_and', Sy.b_or', Sy.q_lt, Sy.q_le, Sy.q_eq, Sy.b_tt, Sy.b_ft, not_true_eq_false, not_false_eq_true, some_int, some_bool, exists_eq', true_and, tru_t, leftE hl, Int.toNat_natCast, false_or, sub_small (a := 4096) (b := s) (by omega) (by omega), add_small (a := k) (b := 2) (by omega) (by omega), add_small (a := k) (b := ((tr l (l.length - 1)).needs : Int)) (by omega) (by omega), place_q hb0 (show b ≤ 4096 by omega), low_q hs.1 hs.2, add_small (a := 24) (b := k) (by omega) (by omega), add_small (a := 24 + k) (b := 1) (by omega) (by omega)]
 refine ⟨fun _ => fun _ => ⟨fun h => absurd hq h, fun _ => ⟨fun h => absurd h (by omega), fun _ => ⟨fun h => absurd h (by omega), fun _ => ⟨fun h => absurd h (by omega), fun _ => ⟨fun h => absurd h (by omega), fun _ => ⟨⟨⟨by omega, by omega, hl.2⟩, h0⟩, fun _ => ⟨fun h => absurd hE h, fun _ => ⟨hE, fun _ => ⟨fun u => ⟨fun h => absurd h (by omega), fun _ => ?_⟩, fun u => ⟨fun h => absurd h (by omega), fun _ => ?_⟩⟩⟩⟩⟩⟩⟩⟩⟩⟩, fun _ => ⟨fun h => absurd h (by omega), fun _ => ⟨fun h => absurd h (by omega), fun _ => ⟨fun h => absurd h (by omega), fun _ => ⟨fun h => absurd h (by omega), fun _ => ⟨⟨⟨by omega, by omega, hl.2⟩, h0⟩, fun _ => ⟨fun h => absurd hE h, fun _ => ⟨hE, fun _ => ⟨fun u => ⟨fun h => absurd h (by omega), fun _ => ?_⟩, fun u => ⟨fun h => absurd h (by omega), fun _ => ?_⟩⟩⟩⟩⟩⟩⟩⟩⟩⟩
 all_goals
  rw [hlen] at hlen0
  try simp only [numE]
  generalize lay (tr l (l.length - 1)) (24 + k) = A at *
  generalize numL (24 + k + 1) (s - 1) = B at *
  generalize numL 29 (65536 + 8 * b) = C at *
  refine ⟨⟨⟨⟨hE, hl.2⟩, by omega⟩, by omega, by omega, by omega, by omega, by omega⟩, fun _ => ⟨⟨hgo1, by omega⟩, fun _ => ⟨by omega, by omega, fun _ => ⟨⟨hgo2, by omega⟩, fun _ => ⟨by omega, by omega, fun hc => ?_⟩⟩⟩⟩⟩
  refine Sy.rowO_leaf' (Sy.mS _) rfl 0 rfl rfl ?_ ?_ hc
  ·rw [hlen]; omega
  ·rw [hcs]; simp [I.cells]
def zeroOk (b k : Int) : Prop := (0 ≤ b ∧ b ≤ 4095) ∧ 0 ≤ k ∧ k < 5
def aeOk (A : Option Addr) (c : Nat) (b k : Int) : Sy.CallC := ⟨fAd, #[.int .i64 b, .int .i64 0, .slice A 0 c, .int .i64 k], zeroOk b k, ⟨[], [], 2, []⟩, [Sy.rowO tI 6 (numL 29 (65536 + 8 * b)).length (insCells (numL 29 (65536 + 8 * b))) fun v => .tuple #[v, .int .i64 0]]⟩
def raeOk (A : Option Addr) (c : Nat) (b k : Int) : Sy.CallC := ⟨fRAd, #[.slice none 0 0, .int .i64 b, .int .i64 0, .slice A 0 c, .int .i64 k], zeroOk b k, ⟨[], [], 2, []⟩, [Sy.rowO tI 6 (numL 29 (65536 + 8 * b)).length (insCells (numL 29 (65536 + 8 * b))) fun v => .tuple #[v, .int .i64 0]]⟩
def raeOkA (gl n cap : Nat) (xs : List Value) (A : Option Addr) (c : Nat) (b k : Int) : Sy.CallC := ⟨fRAd, #[.slice (some ⟨gl, 0, none⟩) n cap, .int .i64 b, .int .i64 0, .slice A 0 c, .int .i64 k], zeroOk b k ∧ n ≤ 900000, ⟨[], [(gl, .row tI 6 n cap xs)], 2, []⟩, [Sy.rowO tI 6 (n + (numL 29 (65536 + 8 * b)).length) (xs ++ insCells (numL 29 (65536 + 8 * b))) fun v => .tuple #[v, .int .i64 0]]⟩
theorem aeOk_met (A : Option Addr) (c : Nat) (b k : Int) : Sy.Meets Tryz.prog (aeOk A c b k) := by
 refine Sy.meets_of (ctxE_holds A c) mixed (aeZ_run A c b k) fun hok ns => ?_
 obtain ⟨⟨b0, b1⟩, k0, k1⟩ : zeroOk b k := hok
 simp only [aeZ_R, Sy.Res.holds, Int.ofNat_eq_natCast, Sy.b_and, Sy.b_or, Sy.b_not, Sy.b_f, Sy.b_and', Sy.b_or', Sy.q_lt, Sy.q_le, Sy.q_eq, Sy.b_tt, Sy.b_ft, not_true_eq_false, not_false_eq_true, some_int, some_bool, exists_eq', true_and, tru_t, false_or, place_q b0 (show b ≤ 4096 by omega)]
 exact ⟨fun h => absurd h (by omega), fun _ => ⟨fun h => absurd h (by omega), fun _ => ⟨fun h => absurd h (by omega), fun _ => ⟨fun h => absurd h (by omega), fun _ => ⟨by omega, fun hc => Sy.rowO_leaf' (Sy.mS _) rfl 0 rfl rfl rfl rfl hc⟩⟩⟩⟩⟩
theorem raeOk_met (A : Option Addr) (c : Nat) (b k : Int) : Sy.Meets Tryz.prog (raeOk A c b k) := by
 refine Sy.meets_of (ctxE_holds A c) mixed (raeZ_run A c b k) fun hok ns => ?_
 obtain ⟨⟨b0, b1⟩, k0, k1⟩ : zeroOk b k := hok
 simp only [raeZ_R, Sy.Res.holds, Int.ofNat_eq_natCast, Sy.b_and, Sy.b_or, Sy.b_not, Sy.b_f, Sy.b_and', Sy.b_or', Sy.q_lt, Sy.q_le, Sy.q_eq, Sy.b_tt, Sy.b_ft, not_true_eq_false, not_false_eq_true, some_int, some_bool, exists_eq', true_and, tru_t, false_or, place_q b0 (show b ≤ 4096 by omega)]
 exact ⟨fun h => absurd h (by omega), fun _ => ⟨fun h => absurd h (by omega), fun _ => ⟨fun h => absurd h (by omega), fun _ => ⟨fun h => absurd h (by omega), fun _ => ⟨by omega, fun hc => Sy.rowO_leaf' (Sy.mS _) rfl 0 rfl rfl rfl rfl hc⟩⟩⟩⟩⟩
theorem raeOkA_met (gl n cap : Nat) (xs : List Value) (A : Option Addr) (c : Nat) (b k : Int) : Sy.Meets Tryz.prog (raeOkA gl n cap xs A c b k) := by
 refine Sy.meets_of (ctxE_holds A c) mixed (raeA_run gl n cap xs A c b k) fun hok ns => ?_
 obtain ⟨⟨⟨b0, b1⟩, k0, k1⟩, hn⟩ : zeroOk b k ∧ n ≤ 900000 := hok
 simp only [raeA_R, Sy.Res.holds, Int.ofNat_eq_natCast, Sy.b_and, Sy.b_or, Sy.b_not, Sy.b_f, Sy.b_and', Sy.b_or', Sy.q_lt, Sy.q_le, Sy.q_eq, Sy.b_tt, Sy.b_ft, not_true_eq_false, not_false_eq_true, some_int, some_bool, exists_eq', true_and, tru_t, false_or, place_q b0 (show b ≤ 4096 by omega)]
 exact ⟨fun h => absurd h (by omega), fun _ => ⟨fun h => absurd h (by omega), fun _ => ⟨fun h => absurd h (by omega), fun _ => ⟨fun h => absurd h (by omega), fun _ => ⟨⟨by unfold goodU; omega, by omega⟩, fun hc => Sy.rowO_leaf' (Sy.mS _) rfl 0 rfl rfl rfl rfl hc⟩⟩⟩⟩⟩
end Go.Proofs.YtlpcnaeknbmjdaaGreat.Lw
namespace Go.Proofs.YtlpcnaeknbmjdaaGreat.Gn
open Go Go.RowKit
open Go.Proofs.YtlpcnaeknbmjdaaGreat.Sy (Let Blk HasL)
open Lw (I insCells tI Nd ndCells isExpr goodN lenOk outL addrL need2 geoOk tr)
def nds (l : List NodeD) : List Nd := l.map fun n => ⟨n.op, n.val, n.a, n.b⟩
theorem nds_len (l : List NodeD) : (nds l).length = l.length := by simp [nds]
theorem nodes_cellG {B : List (Nat × Sy.Cont)} {v : Value} {l : List NodeD} (h : NodesR B v l) : ∀ (j : Nat) (u : Value), (ndCells (nds l))[j]? = some u → HasL (rdOf B) (Sy.ptrS v) (Sy.offS v + j) u := fun j u hu => by
 have e : ndCells (nds l) = l.flatMap fun n => [.int .i64 n.op, .int .u64 n.val, .int .i64 n.a, .int .i64 n.b] := by
  simp [ndCells, nds, List.flatMap_map, Nd.cells]
 rw [e] at hu
 have hlen : ∀ l : List NodeD, (l.flatMap fun n => [Value.int .i64 n.op, .int .u64 n.val, .int .i64 n.a, .int .i64 n.b]).length = l.length * 4 := fun l => by
  induction l with
  | nil => rfl
  | cons x l ih => rw [List.flatMap_cons, List.length_append, ih, List.length_cons]; simp; omega
 have key : ∀ (l : List NodeD) (j : Nat), (l.flatMap fun n => [Value.int .i64 n.op, .int .u64 n.val, .int .i64 n.a, .int .i64 n.b])[j]? = some u → ∃ n, l[j / 4]? = some n ∧ [Value.int .i64 n.op, .int .u64 n.val, .int .i64 n.a, .int .i64 n.b][j % 4]? = some u := fun l => by
  induction l with
  | nil => intro j h; simp at h
  | cons x l ih =>
    intro j h
    rw [List.flatMap_cons] at h
    rcases Nat.lt_or_ge j 4 with hj | hj
    ·rw [List.getElem?_append_left (by simpa using hj)] at h
     exact ⟨x, by rw [Nat.div_eq_of_lt hj]; rfl, by rw [Nat.mod_eq_of_lt hj]; exact h⟩
    ·rw [List.getElem?_append_right (by simpa using hj)] at h
     obtain ⟨n, h1, h2⟩ := ih (j - 4) (by simpa using h)
     refine ⟨n, ?_, ?_⟩
     ·rw [show j / 4 = (j - 4) / 4 + 1 by omega]
      simpa using h1
     ·rw [show j % 4 = (j - 4) % 4 by omega]
      exact h2
 obtain ⟨n, hn, hc⟩ := key l j hu
 have hd := Nat.div_add_mod j 4
 rw [Nat.mul_comm] at hd
 have h4 : j % 4 < 4 := Nat.mod_lt _ (by omega)
 generalize hk : j % 4 = k at *
 generalize hi : j / 4 = i at *
 subst hd
 have h0 := h.op i n hn
 have h1 := h.val i n hn
 have h2 := h.a i n hn
 have h3 := h.b i n hn
 match k, h4, hc with
 | 0, _, hc => injection hc with hc; subst hc; simpa [Nat.add_assoc] using h0
 | 1, _, hc => injection hc with hc; subst hc; simpa [Nat.add_assoc] using h1
 | 2, _, hc => injection hc with hc; subst hc; simpa [Nat.add_assoc] using h2
 | 3, _, hc => injection hc with hc; subst hc; simpa [Nat.add_assoc] using h3
theorem pre_bundle {use B : List (Nat × Sy.Cont)} {m m' : Nat} {s o : Nat} {cs : List Value} {W : World} (hpos : 0 < cs.length) (hc : ∀ j u, cs[j]? = some u → HasL (rdOf B) s (o + j) u) (h : (⟨[], use, m, B⟩ : Sy.MemC).pre W) : (⟨[(s, .seg o cs)], use, m', []⟩ : Sy.MemC).pre W := by
 have hB : Sy.There (rdOf B) W := fun q hq => by
  obtain ⟨p, hp, rfl⟩ := List.mem_map.1 hq
  exact h.rb p hp
 refine ⟨fun p hp => ?_, h.use, h.nodup, fun p hp q hq => ?_, fun p hp => (by cases hp), fun p hp => (by cases hp)⟩
 ·rcases List.mem_singleton.1 hp with rfl
  exact Sy.hasL_seg hB hpos hc
 ·rcases List.mem_singleton.1 hp with rfl
  obtain ⟨x, hx, hn, -⟩ := hc 0 _ (List.getElem?_eq_getElem hpos)
  obtain ⟨r, hr, rfl⟩ := List.mem_map.1 hx
  intro he
  exact h.apartB r hr q hq (hn.trans he)
theorem pre_drop {use B : List (Nat × Sy.Cont)} {m m' : Nat} {W : World} (h : (⟨[], use, m, B⟩ : Sy.MemC).pre W) : (⟨[], use, m', []⟩ : Sy.MemC).pre W :=
 ⟨h.rd, h.use, h.nodup, h.apart, fun p hp => (by cases hp), fun p hp => (by cases hp)⟩
def rowU (q : Rw) (X : List I) (f : Value → Value) : Sy.OutM × (List Let → Value) := (⟨fun ns => q.V (lv0 ns) X, fun _ => [], fun ns => q.B (lv0 ns) X⟩, fun ns => f (slV (lv0 ns)))
theorem post_row {c c' : Sy.MemC} {n : Nat} {xs : List Value} {f f' : Value → Value} {X : List I} {W W' : World} {ns : List Let} (h : c.post (Sy.rowO tI 6 n xs f).1 W W' ns) (huse : c'.use = c.use) (hm : c'.m = 1) (hn : n = X.length) (hxs : xs = insCells X) (hne : X ≠ []) :
  c'.post (rowU rowQ X f').1 W W' [letV (.slice (some ⟨Sy.num ns 0, 0, none⟩) X.length (Sy.num ns 1))] := by
 subst hn hxs
 refine ⟨hm.symm, rowV_some h.hyp hne, h.os, h.tape, h.output, h.size, fun k hk hu => h.old k hk (by rw [← huse]; exact hu), fun p hp => (by cases hp), List.nodup_nil, fun p hp => ?_, ?_, fun p hp => (by cases hp)⟩
 ·rw [huse]
  exact h.nw p hp
 ·show ((rowB (.slice (some ⟨Sy.num ns 0, 0, none⟩) X.length (Sy.num ns 1)) X).map (·.1)).Nodup
  exact List.nodup_cons.2 ⟨by simp, List.nodup_nil⟩
theorem post_keep {c c' : Sy.MemC} {o : Sy.OutM} {f' : Value → Value} {v : Value} {X : List I} {W W' : World} {ns : List Let} (h : c.post o W W' ns) (huse : c'.use = c.use) (hm : c'.m = 1) (hX : RowV v X) (hnw : ∀ p ∈ rowB v X, p ∈ o.nw ns) :
  c'.post (rowU rowQ X f').1 W W' [letV v] := by
 refine ⟨hm.symm, hX, h.os, h.tape, h.output, h.size, fun k hk hu => h.old k hk (by rw [← huse]; exact hu), fun p hp => (by cases hp), List.nodup_nil, fun p hp => ?_, ?_, fun p hp => (by cases hp)⟩
 ·rw [huse]
  exact h.nw p (hnw p hp)
 ·show ((rowB v X).map (·.1)).Nodup
  rcases hX.lit with ⟨rfl, -, h2⟩ | ⟨g, cap, -, h2, -⟩
  ·rw [h2]; exact List.nodup_nil
  ·rw [h2]; exact List.nodup_cons.2 ⟨by simp, List.nodup_nil⟩
open Lw (I insCells tI Nd ndCells isExpr goodN lenOk outL addrL need2 geoOk tr numL zeroOk)
def exprI (l : List NodeD) (k : Int) : List I := if k + ((tr (nds l) ((nds l).length - 1)).needs : Int) ≤ 5 then outL (nds l) k else []
def exprE (l : List NodeD) (k : Int) : Int := if k + ((tr (nds l) ((nds l).length - 1)).needs : Int) ≤ 5 then 0 else 30
def okE (B : List (Nat × Sy.Cont)) (v : Value) (l : List NodeD) (k : Int) : Prop := OkX B v l ∧ isExpr 24 (nds l) ∧ goodN (nds l) ∧ 0 ≤ k ∧ k < 5
theorem slice_lit {B : List (Nat × Sy.Cont)} {v : Value} {l : List NodeD} (h : OkX B v l) (hne : l ≠ []) : ∃ c, v = .slice (some ⟨Sy.ptrS v, Sy.offS v, none⟩) (nds l).length c := by
 obtain ⟨n, c, hv⟩ := h.1.at_ hne
 have hn : n = l.length := by have := h.1.len; rw [hv] at this; simpa [Sy.lenS] using this
 exact ⟨c, by rw [nds_len, ← hn]; exact hv⟩
theorem ne_of_expr {l : List NodeD} (h : isExpr 24 (nds l)) : l ≠ [] := fun he => by
 have := h.2.1
 rw [he] at this
 simp [nds] at this
theorem lenOk_of {B : List (Nat × Sy.Cont)} {v : Value} {l : List NodeD} (h : OkX B v l) (hne : l ≠ []) (hg : goodN (nds l)) : lenOk (nds l) :=
 ⟨⟨by rw [nds_len]; exact List.length_pos_iff.2 hne, by rw [nds_len]; have := h.2; omega⟩, hg⟩
theorem cells_pos {l : List NodeD} (hne : l ≠ []) : 0 < (ndCells (nds l)).length := by
 have : 0 < l.length := List.length_pos_iff.2 hne
 cases l with
 | nil => exact absurd rfl hne
 | cons x l => simp [nds, ndCells, Nd.cells]
theorem outL_ne (l : List Nd) (k : Int) : outL l k ≠ [] := fun h => by
 have := Lw.lay_pos (tr l (l.length - 1)) (24 + k)
 unfold outL at h
 rw [h] at this
 simp at this
abbrev fLX : FuncId := 132
def lxC (q : Rw) (B : List (Nat × Sy.Cont)) (ev : Value) (l : List NodeD) (k : Int) : Sy.CallC := ⟨fLX, #[ev, .int .i64 k], okE B ev l k, ⟨[], [], 1, B⟩, [rowU q (exprI l k) fun s => .tuple #[s, .int .i64 (exprE l k)]]⟩
theorem lxC_met (B : List (Nat × Sy.Cont)) (ev : Value) (l : List NodeD) (k : Int) : Sy.Meets Tryz.prog (lxC rowQ B ev l k) := fun hok W hpre => by
 obtain ⟨hX, hE, hG, h0, h5⟩ := hok
 have hne := ne_of_expr hE
 obtain ⟨c, hv⟩ := slice_lit hX hne
 have hl := lenOk_of hX hne hG
 have hargs : (lxC rowQ B ev l k).args = Lw.txArgs (Sy.ptrS ev) (Sy.offS ev) c (nds l) k := by
  show #[ev, .int .i64 k] = #[.slice (some ⟨Sy.ptrS ev, Sy.offS ev, none⟩) (nds l).length c, .int .i64 k]
  rw [← hv]
 have hcell := nodes_cellG hX.1
 have hpos := cells_pos hne
 show Calls _ fLX (lxC rowQ B ev l k).args W _
 rw [hargs]
 by_cases hk : k + ((tr (nds l) ((nds l).length - 1)).needs : Int) ≤ 5
 ·refine (Lw.txOk_met (Sy.ptrS ev) (Sy.offS ev) c (nds l) k ⟨hl, hE, h0, hk⟩ W (pre_bundle hpos hcell hpre)).mono ?_
  rintro e W' ⟨o, ho, ns, rfl, hpost⟩
  rcases List.mem_singleton.1 ho with rfl
  refine ⟨_, Sy.mS _, _, ?_, post_row hpost (X := exprI l k) rfl rfl (by rw [exprI, if_pos hk]) (by rw [exprI, if_pos hk]) (by rw [exprI, if_pos hk]; exact outL_ne _ _)⟩
  show _ = Ending.returned (.tuple #[.slice _ _ _, .int .i64 (exprE l k)])
  rw [exprE, if_pos hk, exprI, if_pos hk]
  rfl
 ·refine (Lw.txReg_met (Sy.ptrS ev) (Sy.offS ev) c (nds l) k ⟨hl, hE, h0, h5, by omega⟩ W (pre_bundle hpos hcell hpre)).mono ?_
  rintro e W' ⟨o, ho, ns, rfl, hpost⟩
  rcases List.mem_singleton.1 ho with rfl
  refine ⟨_, Sy.mS _, [letV (.slice none 0 0)], ?_, post_keep hpost (X := exprI l k) rfl rfl (by rw [exprI, if_neg hk]; exact rowV_nil) (by rw [exprI, if_neg hk]; exact fun p hp => (by cases hp))⟩
  show _ = Ending.returned (.tuple #[.slice _ _ _, .int .i64 (exprE l k)])
  rw [exprE, if_neg hk]
  rfl
abbrev fRX7 : FuncId := 109
def rxU (q : Rw) (B : List (Nat × Sy.Cont)) (ev : Value) (l : List NodeD) (k : Int) (v : Value) (X : List I) : Sy.CallC := ⟨fRX7, #[slV v, ev, .int .i64 k], okE B ev l k ∧ q.V v X ∧ X.length + (exprI l k).length ≤ 900000, ⟨[], q.B v X, 1, B⟩, [rowU q (X ++ exprI l k) fun s => .tuple #[s, .int .i64 (exprE l k)]]⟩
theorem rxU_met (B : List (Nat × Sy.Cont)) (ev : Value) (l : List NodeD) (k : Int) (v : Value) (X : List I) : Sy.Meets Tryz.prog (rxU rowQ B ev l k v X) := fun hok W hpre => by
 obtain ⟨⟨hX, hE, hG, h0, h5⟩, hV, hb⟩ := hok
 have hne := ne_of_expr hE
 obtain ⟨c, hv⟩ := slice_lit hX hne
 have hl := lenOk_of hX hne hG
 have hcell := nodes_cellG hX.1
 have hpos := cells_pos hne
 replace hpre : (⟨[], rowB v X, 1, B⟩ : Sy.MemC).pre W := hpre
 show Calls _ fRX7 #[slV v, ev, .int .i64 k] W _
 have hX0 := hV
 rcases hV.lit with ⟨rfl, h1, h2⟩ | ⟨g, cap, h1, h2, hc, hne'⟩
 ·have hargs : (#[slV v, ev, .int .i64 k] : Array Value) = Lw.rtxArgs (Sy.ptrS ev) (Sy.offS ev) c (nds l) k := by
   show _ = (#[.slice none 0 0, .slice (some ⟨Sy.ptrS ev, Sy.offS ev, none⟩) (nds l).length c, .int .i64 k] : Array Value)
   rw [← hv, h1]
  rw [hargs]
  rw [h2] at hpre
  by_cases hk : k + ((tr (nds l) ((nds l).length - 1)).needs : Int) ≤ 5
  ·refine (Lw.rtxOk_met (Sy.ptrS ev) (Sy.offS ev) c (nds l) k ⟨hl, hE, h0, hk⟩ W (pre_bundle hpos hcell hpre)).mono ?_
   rintro e W' ⟨o, ho, ns, rfl, hpost⟩
   rcases List.mem_singleton.1 ho with rfl
   refine ⟨_, Sy.mS _, _, ?_, post_row hpost (X := [] ++ exprI l k) h2 rfl (by rw [exprI, if_pos hk]; rfl) (by rw [exprI, if_pos hk]; rfl) (by rw [exprI, if_pos hk]; exact outL_ne _ _)⟩
   show _ = Ending.returned (.tuple #[.slice _ _ _, .int .i64 (exprE l k)])
   rw [exprE, if_pos hk, exprI, if_pos hk]
   rfl
  ·refine (Lw.rtxReg_met (Sy.ptrS ev) (Sy.offS ev) c (nds l) k ⟨hl, hE, h0, h5, by omega⟩ W (pre_bundle hpos hcell hpre)).mono ?_
   rintro e W' ⟨o, ho, ns, rfl, hpost⟩
   rcases List.mem_singleton.1 ho with rfl
   refine ⟨_, Sy.mS _, [letV (.slice none 0 0)], ?_, post_keep hpost (X := [] ++ exprI l k) h2 rfl (by rw [exprI, if_neg hk]; exact rowV_nil) (by rw [exprI, if_neg hk]; exact fun p hp => (by cases hp))⟩
   show _ = Ending.returned (.tuple #[.slice _ _ _, .int .i64 (exprE l k)])
   rw [exprE, if_neg hk]
   rfl
 ·have hargs : (#[slV v, ev, .int .i64 k] : Array Value) = Lw.rtxArgsA g X.length cap (Sy.ptrS ev) (Sy.offS ev) c (nds l) k := by
   show _ = (#[.slice (some ⟨g, 0, none⟩) X.length cap, .slice (some ⟨Sy.ptrS ev, Sy.offS ev, none⟩) (nds l).length c, .int .i64 k] : Array Value)
   rw [← hv, h1]
  rw [hargs]
  rw [h2] at hpre
  by_cases hk : k + ((tr (nds l) ((nds l).length - 1)).needs : Int) ≤ 5
  ·refine (Lw.rtxOkA_met g X.length cap (Sy.ptrS ev) (Sy.offS ev) c (insCells X) (nds l) k ⟨⟨hl, by rw [exprI, if_pos hk] at hb; exact hb⟩, hE, h0, hk⟩ W (pre_bundle hpos hcell hpre)).mono ?_
   rintro e W' ⟨o, ho, ns, rfl, hpost⟩
   rcases List.mem_singleton.1 ho with rfl
   refine ⟨_, Sy.mS _, _, ?_, post_row hpost (X := X ++ exprI l k) h2 rfl (by rw [exprI, if_pos hk, List.length_append]) (by rw [exprI, if_pos hk, ins_app]) (by simp [hne'])⟩
   show _ = Ending.returned (.tuple #[.slice _ _ _, .int .i64 (exprE l k)])
   rw [exprE, if_pos hk, exprI, if_pos hk, List.length_append]
   rfl
  ·refine (Lw.rtxRegA_met g X.length cap (Sy.ptrS ev) (Sy.offS ev) c (insCells X) (nds l) k ⟨hl, hE, h0, h5, by omega⟩ W (pre_bundle hpos hcell hpre)).mono ?_
   rintro e W' ⟨o, ho, ns, rfl, hpost⟩
   rcases List.mem_singleton.1 ho with rfl
   have hXe : X ++ exprI l k = X := by rw [exprI, if_neg hk, List.append_nil]
   refine ⟨_, Sy.mS _, [letV v], ?_, post_keep hpost (X := X ++ exprI l k) h2 rfl (by rw [hXe]; exact hX0) (by rw [hXe, h2]; exact fun p hp => hp)⟩
   show _ = Ending.returned (.tuple #[slV v, .int .i64 (exprE l k)])
   rw [exprE, if_neg hk, h1]
   rfl
def placeI (b s : Int) (l : List NodeD) (k : Int) : List I := if s = 0 then numL 29 (65536 + 8 * b) else if k + need2 (nds l) ≤ 5 then addrL b s (nds l) k else []
def placeE (s : Int) (l : List NodeD) (k : Int) : Int := if s = 0 then 0 else if k + need2 (nds l) ≤ 5 then 0 else 30
def okP (B : List (Nat × Sy.Cont)) (v : Value) (b s : Int) (l : List NodeD) (k : Int) : Prop := OkX B v l ∧ goodN (nds l) ∧ ((s = 0 ∧ l = [] ∧ zeroOk b k) ∨ geoOk b s (nds l) k)
theorem addrL_ne (b s : Int) (l : List Nd) (k : Int) : addrL b s l k ≠ [] := fun h => by
 unfold addrL at h
 simp at h
theorem numL_ne (r v : Int) : numL r v ≠ [] := fun h => by
 have := Lw.numL_pos r v
 rw [h] at this
 simp at this
theorem slice_nil {B : List (Nat × Sy.Cont)} {v : Value} (h : OkX B v []) : ∃ A c, v = .slice A 0 c := by
 obtain ⟨p, n, c, hv⟩ := h.1.sl
 have hn : n = 0 := by have := h.1.len; rw [hv] at this; simpa [Sy.lenS] using this
 exact ⟨p, c, by rw [hv, hn]⟩
theorem succ_of {s : Int} (h : 1 ≤ s) : ∃ p, s = .ofNat (.succ p) := by
 obtain ⟨n, rfl⟩ : ∃ n : Nat, s = n := ⟨s.toNat, by omega⟩
 cases n with
 | zero => omega
 | succ p => exact ⟨p, rfl⟩
abbrev fLA : FuncId := 133
def laC (q : Rw) (B : List (Nat × Sy.Cont)) (ev : Value) (b s : Int) (l : List NodeD) (k : Int) : Sy.CallC := ⟨fLA, #[.int .i64 b, .int .i64 s, ev, .int .i64 k], okP B ev b s l k, ⟨[], [], 1, B⟩, [rowU q (placeI b s l k) fun v => .tuple #[v, .int .i64 (placeE s l k)]]⟩
theorem laC_met (B : List (Nat × Sy.Cont)) (ev : Value) (b s : Int) (l : List NodeD) (k : Int) : Sy.Meets Tryz.prog (laC rowQ B ev b s l k) := fun hok W hpre => by
 obtain ⟨hX, hG, ⟨rfl, rfl, hz⟩ | hgeo⟩ := hok
 ·obtain ⟨A, c, rfl⟩ := slice_nil hX
  refine (Lw.aeOk_met A c b k hz W (pre_drop hpre)).mono ?_
  rintro e W' ⟨o, ho, ns, rfl, hpost⟩
  rcases List.mem_singleton.1 ho with rfl
  refine ⟨_, Sy.mS _, _, ?_, post_row hpost (X := placeI b 0 [] k) rfl rfl (by rw [placeI, if_pos rfl]) (by rw [placeI, if_pos rfl]) (by rw [placeI, if_pos rfl]; exact numL_ne _ _)⟩
  show _ = Ending.returned (.tuple #[.slice _ _ _, .int .i64 (placeE 0 [] k)])
  rw [placeE, if_pos rfl, placeI, if_pos rfl]
  rfl
 ·have hE := hgeo.2.2
  have hne := ne_of_expr hE
  obtain ⟨c, hv⟩ := slice_lit hX hne
  have hl := lenOk_of hX hne hG
  have hcell := nodes_cellG hX.1
  have hpos := cells_pos hne
  have hs := hgeo.1.1.bound
  have hs0 : ¬ s = 0 := by omega
  obtain ⟨p, hp⟩ := succ_of hs.1
  have hargs : (laC rowQ B ev b s l k).args = Lw.adArgs (Sy.ptrS ev) (Sy.offS ev) c (nds l) b (.ofNat (.succ p)) k := by
   show (#[.int .i64 b, .int .i64 s, ev, .int .i64 k] : Array Value) = #[.int .i64 b, .int .i64 (.ofNat (.succ p)), .slice (some ⟨Sy.ptrS ev, Sy.offS ev, none⟩) (nds l).length c, .int .i64 k]
   rw [← hv, hp]
  show Calls _ fLA (laC rowQ B ev b s l k).args W _
  rw [hargs]
  by_cases hk : k + need2 (nds l) ≤ 5
  ·refine (Lw.adP_ok (Sy.ptrS ev) (Sy.offS ev) c (nds l) b k p ⟨hl, by rw [← hp]; exact ⟨hgeo, hk⟩⟩ W (pre_bundle hpos hcell hpre)).mono ?_
   rintro e W' ⟨o, ho, ns, rfl, hpost⟩
   rcases List.mem_singleton.1 ho with rfl
   rw [← hp] at hpost ⊢
   refine ⟨_, Sy.mS _, _, ?_, post_row hpost (X := placeI b s l k) rfl rfl (by rw [placeI, if_neg hs0, if_pos hk]) (by rw [placeI, if_neg hs0, if_pos hk]) (by rw [placeI, if_neg hs0, if_pos hk]; exact addrL_ne _ _ _ _)⟩
   show _ = Ending.returned (.tuple #[.slice _ _ _, .int .i64 (placeE s l k)])
   rw [placeE, if_neg hs0, if_pos hk, placeI, if_neg hs0, if_pos hk]
   rfl
  ·refine (Lw.adP_reg (Sy.ptrS ev) (Sy.offS ev) c (nds l) b k p ⟨hl, by rw [← hp]; exact ⟨hgeo, by omega⟩⟩ W (pre_bundle hpos hcell hpre)).mono ?_
   rintro e W' ⟨o, ho, ns, rfl, hpost⟩
   rcases List.mem_singleton.1 ho with rfl
   refine ⟨_, Sy.mS _, [letV (.slice none 0 0)], ?_, post_keep hpost (X := placeI b s l k) rfl rfl (by rw [placeI, if_neg hs0, if_neg hk]; exact rowV_nil) (by rw [placeI, if_neg hs0, if_neg hk]; exact fun p hp => (by cases hp))⟩
   show _ = Ending.returned (.tuple #[.slice _ _ _, .int .i64 (placeE s l k)])
   rw [placeE, if_neg hs0, if_neg hk]
   rfl
abbrev fRA7 : FuncId := 108
def raU (q : Rw) (B : List (Nat × Sy.Cont)) (ev : Value) (b s : Int) (l : List NodeD) (k : Int) (v : Value) (X : List I) : Sy.CallC := ⟨fRA7, #[slV v, .int .i64 b, .int .i64 s, ev, .int .i64 k], okP B ev b s l k ∧ q.V v X ∧ X.length + (placeI b s l k).length ≤ 900000, ⟨[], q.B v X, 1, B⟩, [rowU q (X ++ placeI b s l k) fun v => .tuple #[v, .int .i64 (placeE s l k)]]⟩
theorem raU_met (B : List (Nat × Sy.Cont)) (ev : Value) (b s : Int) (l : List NodeD) (k : Int) (v : Value) (X : List I) : Sy.Meets Tryz.prog (raU rowQ B ev b s l k v X) := fun hok W hpre => by
 obtain ⟨⟨hX, hG, hgeo⟩, hV, hb⟩ := hok
 replace hpre : (⟨[], rowB v X, 1, B⟩ : Sy.MemC).pre W := hpre
 show Calls _ fRA7 (#[slV v, .int .i64 b, .int .i64 s, ev, .int .i64 k] : Array Value) W _
 have hX0 := hV
 rcases hgeo with ⟨rfl, rfl, hz⟩ | hgeo
 ·obtain ⟨A, c, rfl⟩ := slice_nil hX
  rcases hV.lit with ⟨rfl, h1, h2⟩ | ⟨g, cap, h1, h2, hc, hne'⟩
  ·rw [h1]
   rw [h2] at hpre
   refine (Lw.raeOk_met A c b k hz W (pre_drop hpre)).mono ?_
   rintro e W' ⟨o, ho, ns, rfl, hpost⟩
   rcases List.mem_singleton.1 ho with rfl
   refine ⟨_, Sy.mS _, _, ?_, post_row hpost (X := [] ++ placeI b 0 [] k) h2 rfl (by rw [placeI, if_pos rfl]; rfl) (by rw [placeI, if_pos rfl]; rfl) (by rw [placeI, if_pos rfl]; exact numL_ne _ _)⟩
   show _ = Ending.returned (.tuple #[.slice _ _ _, .int .i64 (placeE 0 [] k)])
   rw [placeE, if_pos rfl, placeI, if_pos rfl]
   rfl
  ·rw [h1]
   rw [h2] at hpre
   refine (Lw.raeOkA_met g X.length cap (insCells X) A c b k ⟨hz, by omega⟩ W (pre_drop hpre)).mono ?_
   rintro e W' ⟨o, ho, ns, rfl, hpost⟩
   rcases List.mem_singleton.1 ho with rfl
   refine ⟨_, Sy.mS _, _, ?_, post_row hpost (X := X ++ placeI b 0 [] k) h2 rfl (by rw [placeI, if_pos rfl, List.length_append]) (by rw [placeI, if_pos rfl, ins_app]) (by simp [hne'])⟩
   show _ = Ending.returned (.tuple #[.slice _ _ _, .int .i64 (placeE 0 [] k)])
   rw [placeE, if_pos rfl, placeI, if_pos rfl, List.length_append]
   rfl
 ·have hE := hgeo.2.2
  have hne := ne_of_expr hE
  obtain ⟨c, hv⟩ := slice_lit hX hne
  have hl := lenOk_of hX hne hG
  have hcell := nodes_cellG hX.1
  have hpos := cells_pos hne
  have hs := hgeo.1.1.bound
  have hs0 : ¬ s = 0 := by omega
  obtain ⟨p, hp⟩ := succ_of hs.1
  rcases hV.lit with ⟨rfl, h1, h2⟩ | ⟨g, cap, h1, h2, hc, hne'⟩
  ·have hargs : (#[slV v, .int .i64 b, .int .i64 s, ev, .int .i64 k] : Array Value) = Lw.radArgs (Sy.ptrS ev) (Sy.offS ev) c (nds l) b (.ofNat (.succ p)) k := by
    show _ = (#[.slice none 0 0, .int .i64 b, .int .i64 (.ofNat (.succ p)), .slice (some ⟨Sy.ptrS ev, Sy.offS ev, none⟩) (nds l).length c, .int .i64 k] : Array Value)
    rw [← hv, hp, h1]
   rw [hargs]
   rw [h2] at hpre
   by_cases hk : k + need2 (nds l) ≤ 5
   ·refine (Lw.radP_ok (Sy.ptrS ev) (Sy.offS ev) c (nds l) b k p ⟨hl, by rw [← hp]; exact ⟨hgeo, hk⟩⟩ W (pre_bundle hpos hcell hpre)).mono ?_
    rintro e W' ⟨o, ho, ns, rfl, hpost⟩
    rcases List.mem_singleton.1 ho with rfl
    rw [← hp] at hpost ⊢
    refine ⟨_, Sy.mS _, _, ?_, post_row hpost (X := [] ++ placeI b s l k) h2 rfl (by rw [placeI, if_neg hs0, if_pos hk]; rfl) (by rw [placeI, if_neg hs0, if_pos hk]; rfl) (by rw [placeI, if_neg hs0, if_pos hk]; exact addrL_ne _ _ _ _)⟩
    show _ = Ending.returned (.tuple #[.slice _ _ _, .int .i64 (placeE s l k)])
    rw [placeE, if_neg hs0, if_pos hk, placeI, if_neg hs0, if_pos hk]
    rfl
   ·refine (Lw.radP_reg (Sy.ptrS ev) (Sy.offS ev) c (nds l) b k p ⟨hl, by rw [← hp]; exact ⟨hgeo, by omega⟩⟩ W (pre_bundle hpos hcell hpre)).mono ?_
    rintro e W' ⟨o, ho, ns, rfl, hpost⟩
    rcases List.mem_singleton.1 ho with rfl
    refine ⟨_, Sy.mS _, [letV (.slice none 0 0)], ?_, post_keep hpost (X := [] ++ placeI b s l k) h2 rfl (by rw [placeI, if_neg hs0, if_neg hk]; exact rowV_nil) (by rw [placeI, if_neg hs0, if_neg hk]; exact fun p hp => (by cases hp))⟩
    show _ = Ending.returned (.tuple #[.slice _ _ _, .int .i64 (placeE s l k)])
    rw [placeE, if_neg hs0, if_neg hk]
    rfl
  ·have hargs : (#[slV v, .int .i64 b, .int .i64 s, ev, .int .i64 k] : Array Value) = Lw.radArgsA g X.length cap (Sy.ptrS ev) (Sy.offS ev) c (nds l) b (.ofNat (.succ p)) k := by
    show _ = (#[.slice (some ⟨g, 0, none⟩) X.length cap, .int .i64 b, .int .i64 (.ofNat (.succ p)), .slice (some ⟨Sy.ptrS ev, Sy.offS ev, none⟩) (nds l).length c, .int .i64 k] : Array Value)
    rw [← hv, hp, h1]
   rw [hargs]
   rw [h2] at hpre
   by_cases hk : k + need2 (nds l) ≤ 5
   ·refine (Lw.radOkA_met g X.length cap (Sy.ptrS ev) (Sy.offS ev) c (insCells X) (nds l) b k p ⟨⟨hl, by rw [← hp]; rw [placeI, if_neg hs0, if_pos hk] at hb; exact hb⟩, by rw [← hp]; exact ⟨hgeo, hk⟩⟩ W (pre_bundle hpos hcell hpre)).mono ?_
    rintro e W' ⟨o, ho, ns, rfl, hpost⟩
    rcases List.mem_singleton.1 ho with rfl
    rw [← hp] at hpost ⊢
    refine ⟨_, Sy.mS _, _, ?_, post_row hpost (X := X ++ placeI b s l k) h2 rfl (by rw [placeI, if_neg hs0, if_pos hk, List.length_append]) (by rw [placeI, if_neg hs0, if_pos hk, ins_app]) (by simp [hne'])⟩
    show _ = Ending.returned (.tuple #[.slice _ _ _, .int .i64 (placeE s l k)])
    rw [placeE, if_neg hs0, if_pos hk, placeI, if_neg hs0, if_pos hk, List.length_append]
    rfl
   ·refine (Lw.radRegA_met g X.length cap (Sy.ptrS ev) (Sy.offS ev) c (insCells X) (nds l) b k p ⟨hl, by rw [← hp]; exact ⟨hgeo, by omega⟩⟩ W (pre_bundle hpos hcell hpre)).mono ?_
    rintro e W' ⟨o, ho, ns, rfl, hpost⟩
    rcases List.mem_singleton.1 ho with rfl
    have hXe : X ++ placeI b s l k = X := by rw [placeI, if_neg hs0, if_neg hk, List.append_nil]
    refine ⟨_, Sy.mS _, [letV v], ?_, post_keep hpost (X := X ++ placeI b s l k) h2 rfl (by rw [hXe]; exact hX0) (by rw [hXe, h2]; exact fun p hp => hp)⟩
    show _ = Ending.returned (.tuple #[slV v, .int .i64 (placeE s l k)])
    rw [placeE, if_neg hs0, if_neg hk, h1]
    rfl
open Sy.O (bz fork nil pack step steps)
open Sy.Res (need hyp br leaf both)
open Go Go.RowKit
open Go.Proofs.YtlpcnaeknbmjdaaGreat.Sy (Let Blk HasL)
open Lw (I insCells tI)
abbrev fTake : FuncId := 131
def Sy.eOf (L : List Blk) : Int := match L with
 | ⟨_, .obj (.cells cs _ _), _⟩ :: _ => Sy.argI cs 3
 | _ => 0
def ctxTk (q : Rw) (y : Nat) (v w mp tv : Value) (b : Bool) (X Z : List I) : Sy.Ctx := Sy.mkU Sy.S0 [(fPut, fun _ L => (putW q y v w mp tv (Sy.eOf L) b X Z).toU [(y, layC (slV v) mp tv (Sy.eOf L) b)] (q.B v X) (rdOf (q.B w Z)))] []
theorem ctxTk_holds (y : Nat) (v w mp tv : Value) (b : Bool) (X Z : List I) : (ctxTk rowQ y v w mp tv b X Z).holds Tryz.prog := Sy.mkU_holds Sy.S0_holds (fun p hp a L => by
 rcases List.mem_singleton.1 hp with rfl
 exact putW_met _ _ _ _ _ _ _ _ _) (fun _ h => (by cases h))
def tk_o : Sy.O := (fork (bz 7 0x7f (fork (bz 13 0x16df nil) (bz 10 0x2db nil))) (bz 15 0x5b7f nil))
noncomputable def tk_R (q : Rw) (y : Nat) (v w mp tv : Value) (e er : Int) (b : Bool) (X Z : List I) (TL : List Blk) (ns : Nat → Sy.Let) : Sy.Res (Value × List Blk) :=
 let z0 := q.2 v X ∧ q.2 w Z ∧ List.length X + List.length Z ≤ 2000000
 let z1 := List.Perm TL ((List.map Sy.ownOf (q.1 v X)).append (rdOf (q.1 w Z)))
 let z2 := [] ++ ([] ++ rdOf (q.1 w Z))
 let z3 := Sy.GotL z2 (q.1 w Z)
 let z4 := lv0 [ns 0]
 let z5 := q.2 z4 (X.append Z)
 let z6 := List.map Sy.ownOf (q.1 z4 (X.append Z))
 let z7 := need z0 (need z1 (need z3 (hyp z5 (leaf (Value.tuple (Array.mk []), Blk.mk y (.obj (.cells (Array.mk [.slice (slP z4) (Sy.lenS z4) (slC z4), mp, tv, .int .i64 e, .bool b]) 132)) true :: z2.append z6)))))
 br (!Ex.eqQ er 0) (br (bif true then Ex.eqQ e 0 else false) (need z0 (need z1 (need z3 (hyp z5 (leaf (Value.tuple (Array.mk []), Blk.mk y (.obj (.cells (Array.mk [.slice (slP z4) (Sy.lenS z4) (slC z4), mp, tv, .int .i64 er, .bool b]) 132)) true :: z2.append z6)))))) z7) z7
theorem tk_run (q : Rw) (y : Nat) (v w mp tv : Value) (e er : Int) (b : Bool) (X Z : List I) (TL : List Blk) : Sy.Ran (Sy.inB Tryz.prog (ctxTk q y v w mp tv b X Z) 50 fTake #[.pointer (some ⟨y, 0, none⟩), slV w, .int .i64 er] (⟨y, layC (slV v) mp tv e b, true⟩ :: TL)) tk_o (tk_R q y v w mp tv e er b X Z TL) := ⟨fun _ => by kernel_rfl, fun _ => by kernel_rfl⟩
open Lw (I insCells tI)
def fstE (e er : Int) : Int := bif !Ex.eqQ er 0 then (bif Ex.eqQ e 0 then er else e) else e
def takeC (q : Rw) (y : Nat) (v w mp tv : Value) (e er : Int) (b : Bool) (X Z : List I) : Sy.CallC :=
 ⟨fTake, #[.pointer (some ⟨y, 0, none⟩), slV w, .int .i64 er], q.V v X ∧ q.V w Z ∧ X.length + Z.length ≤ 2000000, ⟨[], (y, layC (slV v) mp tv e b) :: q.B v X, 1, q.B w Z⟩, [putO q y mp tv (fstE e er) b (X ++ Z)]⟩
theorem lay_leaf {c : Sy.CallC} {y : Nat} {mp tv : Value} {e : Int} {b : Bool} {X : List I} (ho : putO rowQ y mp tv e b X ∈ c.outs) (hm : c.mem.m = 1) {v : Value} {r : Value × List Blk} (hv : r.1 = .tuple #[]) (hX : RowV v X)
  (hr : Sy.Ent r.2 (⟨y, layC (slV v) mp tv e b, true⟩ :: (rowB v X).map Sy.ownOf)) : Sy.leafB c r := ⟨_, ho, [letV v], hm.symm, hv, hr, hX⟩
theorem got_self (L : List Blk) (B : List (Nat × Sy.Cont)) (h : ∀ p ∈ B, ∃ b ∈ L, b.nm = p.1 ∧ b.ct = p.2) : Sy.GotL L B := fun p hp => by
 obtain ⟨b, hb, e1, e2⟩ := h p hp
 exact ⟨b, hb, e1, fun _ hs => e2 ▸ hs⟩
theorem takeC_met (y : Nat) (v w mp tv : Value) (e er : Int) (b : Bool) (X Z : List I) : Sy.Meets Tryz.prog (takeC rowQ y v w mp tv e er b X Z) := by
 refine Sy.meets_ofB (ctxTk_holds y v w mp tv b X Z) mixed (L := ⟨y, layC (slV v) mp tv e b, true⟩ :: ((rowB v X).map Sy.ownOf ++ rdOf (rowB w Z))) (Sy.Ent.refl _) (tk_run rowQ y v w mp tv e er b X Z _) fun hok ns => ?_
 have hgot : Sy.GotL (rdOf (rowB w Z)) (rowB w Z) := gotL_of fun p hp => hp
 have leaf : ∀ e', fstE e er = e' → RowV (ns 0).v (X ++ Z) → Sy.leafB (takeC rowQ y v w mp tv e er b X Z) (.tuple #[], ⟨y, layC (slV (ns 0).v) mp tv e' b, true⟩ :: (([] ++ ([] ++ rdOf (rowB w Z))) ++ (rowB (ns 0).v (X ++ Z)).map Sy.ownOf)) := fun e' he hX => by
  subst he
  exact lay_leaf (Sy.mS _) rfl rfl hX (Sy.Ent.sub (List.Sublist.cons_cons _ (List.sublist_append_right _ _)))
 simp only [tk_R, Sy.Res.holds]
 refine ⟨fun h1 => ⟨fun h2 => ⟨hok, List.Perm.refl _, hgot, fun hX => leaf _ ?_ hX⟩, fun h2 => ⟨hok, List.Perm.refl _, hgot, fun hX => leaf _ ?_ hX⟩⟩, fun h1 => ⟨hok, List.Perm.refl _, hgot, fun hX => leaf _ ?_ hX⟩⟩
 ·unfold fstE
  rw [h1]
  simp only [cond_true] at h2 ⊢
  rw [h2]
  rfl
 ·unfold fstE
  rw [h1]
  simp only [cond_true] at h2 ⊢
  rw [h2]
  rfl
 ·unfold fstE
  rw [h1]
  rfl
open Go Go.RowKit
open Go.Proofs.YtlpcnaeknbmjdaaGreat.Sy (Let Blk HasL)
open Lw (I insCells tI)
abbrev fExpr : FuncId := 100
abbrev fPlace : FuncId := 102
def ctxEx (q : Rw) (B : List (Nat × Sy.Cont)) (R : List Blk) (y : Nat) (ev : Value) (l : List NodeD) (k : Int) (v mp tv : Value) (e : Int) (b : Bool) (X : List I) : Sy.Ctx :=
 Sy.mkU (Sy.mkS [(fLX, fun _ _ => lxC q B ev l k)] [] []) [(fTake, fun a _ => (takeC q y v (Sy.argV a 1) mp tv e (Sy.argI a 2) b X (exprI l k)).toU [(y, layC (slV v) mp tv e b)] (q.B v X) (R ++ (q.B (Sy.argV a 1) (exprI l k)).map Sy.ownOf))] []
def ex_o : Sy.O := (bz 19 0x5b755 nil)
noncomputable def ex_R (q : Rw) (B : List (Nat × Sy.Cont)) (R TL : List Blk) (y : Nat) (ev : Value) (l : List NodeD) (k : Int) (v mp tv : Value) (e : Int) (b : Bool) (X : List I) (ns : Nat → Sy.Let) : Sy.Res (Value × List Blk) :=
 let z0 := lv0 [ns 0]
 let z1 := exprI l k
 let z2 := Value.slice (slP z0) (Sy.lenS z0) (slC z0)
 let z3 := R.append (List.map Sy.ownOf (q.1 z2 z1))
 let z4 := lv0 [ns 1]
 need (OkX B ev l ∧ Lw.isExpr 24 (nds l) ∧ Lw.goodN (nds l) ∧ 0 ≤ k ∧ k < 5) (need (Sy.GotL TL B) (hyp (q.2 z0 z1) (need (q.2 v X ∧ q.2 z2 z1 ∧ List.length X + List.length z1 ≤ 2000000) (need (List.Perm (TL.append (List.map Sy.ownOf (q.1 z0 z1))) ((List.map Sy.ownOf (q.1 v X)).append z3)) (need (Sy.GotL z3 (q.1 z2 z1)) (hyp (q.2 z4 (X.append z1)) (leaf (Value.tuple (Array.mk []), Blk.mk y (.obj (.cells (Array.mk [.slice (slP z4) (Sy.lenS z4) (slC z4), mp, tv, .int .i64 (fstE e (exprE l k)), .bool b]) 132)) true :: z3.append (List.map Sy.ownOf (q.1 z4 (X.append z1)))))))))))
theorem ex_run (q : Rw) (B : List (Nat × Sy.Cont)) (R TL : List Blk) (y : Nat) (ev : Value) (l : List NodeD) (k : Int) (v mp tv : Value) (e : Int) (b : Bool) (X : List I) : Sy.Ran (Sy.inB Tryz.prog (ctxEx q B R y ev l k v mp tv e b X) 50 fExpr #[.pointer (some ⟨y, 0, none⟩), ev, .int .i64 k] (⟨y, layC (slV v) mp tv e b, true⟩ :: TL)) ex_o (ex_R q B R TL y ev l k v mp tv e b X) := ⟨fun _ => by kernel_rfl, fun _ => by kernel_rfl⟩
def ctxPl (q : Rw) (B : List (Nat × Sy.Cont)) (R : List Blk) (y : Nat) (iv : Value) (bs s : Int) (l : List NodeD) (k : Int) (v mp tv : Value) (e : Int) (b : Bool) (X : List I) : Sy.Ctx :=
 Sy.mkU (Sy.mkS [(fLA, fun _ _ => laC q B iv bs s l k)] [] []) [(fTake, fun a _ => (takeC q y v (Sy.argV a 1) mp tv e (Sy.argI a 2) b X (placeI bs s l k)).toU [(y, layC (slV v) mp tv e b)] (q.B v X) (R ++ (q.B (Sy.argV a 1) (placeI bs s l k)).map Sy.ownOf))] []
def pl_o : Sy.O := (bz 35 0x4aaad4bff nil)
noncomputable def pl_R (q : Rw) (B : List (Nat × Sy.Cont)) (R TL : List Blk) (y : Nat) (a : ActD) (iv ev fv : Value) (k : Int) (v mp tv : Value) (e : Int) (b : Bool) (X : List I) (ns : Nat → Sy.Let) : Sy.Res (Value × List Blk) :=
 let z0 := ActD.ix a
 let z1 := ActD.base a
 let z2 := ActD.size a
 let z3 := lv0 [ns 1]
 let z4 := placeI z1 z2 z0 k
 let z5 := Value.slice (slP z3) (Sy.lenS z3) (slC z3)
 let z6 := R.append (List.map Sy.ownOf (q.1 z5 z4))
 let z7 := lv0 [ns 2]
 need (OkX B iv z0 ∧ Lw.goodN (nds z0) ∧ (ActD.size a = 0 ∧ ActD.ix a = [] ∧ Lw.zeroOk z1 k ∨ Lw.geoOk z1 z2 (nds z0) k)) (need (Sy.GotL TL B) (hyp (q.2 z3 z4) (need (q.2 v X ∧ q.2 z5 z4 ∧ List.length X + List.length z4 ≤ 2000000) (need (List.Perm (TL.append (List.map Sy.ownOf (q.1 z3 z4))) ((List.map Sy.ownOf (q.1 v X)).append z6)) (need (Sy.GotL z6 (q.1 z5 z4)) (hyp (q.2 z7 (X.append z4)) (leaf (Value.tuple (Array.mk []), Blk.mk y (.obj (.cells (Array.mk [.slice (slP z7) (Sy.lenS z7) (slC z7), mp, tv, .int .i64 (fstE e (placeE z2 z0 k)), .bool b]) 132)) true :: z6.append (List.map Sy.ownOf (q.1 z7 (X.append z4)))))))))))
theorem pl_run (q : Rw) (B : List (Nat × Sy.Cont)) (R TL : List Blk) (y : Nat) (a : ActD) (iv ev fv : Value) (k : Int) (v mp tv : Value) (e : Int) (b : Bool) (X : List I) : Sy.Ran (Sy.inY Tryz.prog (ctxPl q B R y iv a.base a.size a.ix k v mp tv e b X) 50 fPlace #[.pointer (some ⟨y, 0, none⟩), actV a iv ev fv, .int .i64 k] (⟨y, layC (slV v) mp tv e b, true⟩ :: TL) 1) pl_o (pl_R q B R TL y a iv ev fv k v mp tv e b X) := ⟨fun _ => by kernel_rfl, fun _ => by kernel_rfl⟩
def exprL (q : Rw) (B : List (Nat × Sy.Cont)) (y : Nat) (ev : Value) (l : List NodeD) (k : Int) (v mp tv : Value) (e : Int) (b : Bool) (X : List I) : Sy.CallC :=
 ⟨fExpr, #[.pointer (some ⟨y, 0, none⟩), ev, .int .i64 k], okE B ev l k ∧ q.V v X ∧ X.length + (exprI l k).length ≤ 2000000, ⟨[], (y, layC (slV v) mp tv e b) :: q.B v X, 1, B⟩, [putO q y mp tv (fstE e (exprE l k)) b (X ++ exprI l k)]⟩
def placeL (q : Rw) (B : List (Nat × Sy.Cont)) (y : Nat) (a : ActD) (iv ev fv : Value) (k : Int) (v mp tv : Value) (e : Int) (b : Bool) (X : List I) : Sy.CallC :=
 ⟨fPlace, #[.pointer (some ⟨y, 0, none⟩), actV a iv ev fv, .int .i64 k], okP B iv a.base a.size a.ix k ∧ q.V v X ∧ X.length + (placeI a.base a.size a.ix k).length ≤ 2000000, ⟨[], (y, layC (slV v) mp tv e b) :: q.B v X, 1, B⟩, [putO q y mp tv (fstE e (placeE a.size a.ix k)) b (X ++ placeI a.base a.size a.ix k)]⟩
theorem got_last (R : List Blk) (C : List (Nat × Sy.Cont)) : Sy.GotL (R ++ C.map Sy.ownOf) C := got_self _ _ fun p hp => ⟨Sy.ownOf p, Sy.mR _ (List.mem_map.2 ⟨p, hp, rfl⟩), rfl, rfl⟩
theorem got_end (R : List Blk) (B : List (Nat × Sy.Cont)) : Sy.GotL (R ++ rdOf B) B := gotL_of fun _ h => Sy.mR _ h
theorem exprL_met (B : List (Nat × Sy.Cont)) (y : Nat) (ev : Value) (l : List NodeD) (k : Int) (v mp tv : Value) (e : Int) (b : Bool) (X : List I) : Sy.Meets Tryz.prog (exprL rowQ B y ev l k v mp tv e b X) := by
 have hS : (ctxEx rowQ B (rdOf B) y ev l k v mp tv e b X).holds Tryz.prog := Sy.mkU_holds (Sy.mkS_holds (fun p hp a L => by
  rcases List.mem_singleton.1 hp with rfl
  exact lxC_met _ _ _ _) (fun _ h => (by cases h)) (fun _ h => (by cases h))) (fun p hp a L => by
  rcases List.mem_singleton.1 hp with rfl
  exact takeC_met _ _ _ _ _ _ _ _ _ _) (fun _ h => (by cases h))
 refine Sy.meets_ofB hS mixed (L := ⟨y, layC (slV v) mp tv e b, true⟩ :: ((rowB v X).map Sy.ownOf ++ rdOf B)) (Sy.Ent.refl _) (ex_run rowQ B (rdOf B) ((rowB v X).map Sy.ownOf ++ rdOf B) y ev l k v mp tv e b X) fun hok ns => ?_
 obtain ⟨h1, h2, h3⟩ := hok
 simp only [ex_R, Sy.Res.holds]
 refine ⟨h1, got_end _ _, fun hZ => ⟨⟨h2, hZ, h3⟩, List.Perm.of_eq (List.append_assoc _ _ _), got_last _ _, fun hX => ?_⟩⟩
 exact lay_leaf (Sy.mS _) rfl rfl hX (Sy.Ent.sub (List.Sublist.cons_cons _ (List.sublist_append_right _ _)))
theorem placeL_met (B : List (Nat × Sy.Cont)) (y : Nat) (a : ActD) (iv ev fv : Value) (k : Int) (v mp tv : Value) (e : Int) (b : Bool) (X : List I) : Sy.Meets Tryz.prog (placeL rowQ B y a iv ev fv k v mp tv e b X) := by
 have hS : (ctxPl rowQ B (rdOf B) y iv a.base a.size a.ix k v mp tv e b X).holds Tryz.prog := Sy.mkU_holds (Sy.mkS_holds (fun p hp a L => by
  rcases List.mem_singleton.1 hp with rfl
  exact laC_met _ _ _ _ _ _) (fun _ h => (by cases h)) (fun _ h => (by cases h))) (fun p hp a L => by
  rcases List.mem_singleton.1 hp with rfl
  exact takeC_met _ _ _ _ _ _ _ _ _ _) (fun _ h => (by cases h))
 refine Sy.meets_ofY (k := 1) hS mixed (L := ⟨y, layC (slV v) mp tv e b, true⟩ :: ((rowB v X).map Sy.ownOf ++ rdOf B)) (Sy.Ent.refl _) (pl_run rowQ B (rdOf B) ((rowB v X).map Sy.ownOf ++ rdOf B) y a iv ev fv k v mp tv e b X) fun hok ns => ?_
 obtain ⟨h1, h2, h3⟩ := hok
 simp only [pl_R, Sy.Res.holds]
 refine ⟨h1, got_end _ _, fun hZ => ⟨⟨h2, hZ, h3⟩, List.Perm.of_eq (List.append_assoc _ _ _), got_last _ _, fun hX => ?_⟩⟩
 exact lay_leaf (Sy.mS _) rfl rfl hX (Sy.Ent.sub (List.Sublist.cons_cons _ (List.sublist_append_right _ _)))
open Go Go.RowKit
open Go.Proofs.YtlpcnaeknbmjdaaGreat.Sy (Let Blk HasL)
open Lw (I insCells tI)
def Sy.iV (v : Value) : Int := match v with
 | .int _ n => n
 | _ => 0
def Sy.parse : Nat → List Value → List I := fun n => @Nat.rec (fun _ => List Value → List I) (fun _ => []) (fun _ ih l => match l with
 | a :: b :: c :: d :: e :: f :: r => ⟨Sy.iV a, Sy.iV b, Sy.iV c, Sy.iV d, Sy.iV e, Sy.iV f⟩ :: ih r
 | _ => []) n
def Sy.appI (a b : List I) : List I := @List.rec I (fun _ => List I) b (fun x _ ih => x :: ih) a
def Sy.newest (t : Nat) (L : List Blk) : List Value := @List.rec Blk (fun _ => List Value) [] (fun p _ ih => match p.ct with
 | .obj (.cells cs u _) => match Nat.beq t u with
   | true => cs.toList
   | false => ih
 | _ => ih) L
def Sy.isLd (l : List I) : Bool := match l with
 | i :: _ => bif Ex.eqQ i.rn 29 then !Ex.eqQ i.rm 30 else false
 | _ => false
def Sy.flat (L : List Blk) : List I := @List.rec Blk (fun _ => List I) [] (fun p _ ih => match p.ct with
 | .obj (.cells cs u _) => match Nat.beq tI u with
   | true => bif Sy.isLd (Sy.parse 8 cs.toList) then Sy.parse 8 cs.toList else Sy.appI ih (Sy.parse 8 cs.toList)
   | false => ih
 | _ => ih) L
def Sy.nthV (l : List Value) (i : Nat) : Value := match Sy.nth l i with
 | some v => v
 | none => undef
def Sy.eY (L : List Blk) : Int := Sy.iV (Sy.nthV (Sy.newest tY L) 3)
def Sy.vY (L : List Blk) : Value := Sy.nthV (Sy.newest tY L) 0
def acqF (m : Int) : Bool := bif (bif Ex.eqQ m 2 then true else Ex.eqQ m 4) then true else Ex.eqQ m 5
def relF (m : Int) : Bool := bif (bif Ex.eqQ m 3 then true else Ex.eqQ m 4) then true else Ex.eqQ m 5
def nzI (m rd : Int) : List I := bif acqF m then [] else [⟨21, rd, 0, 0, 1, 0⟩]
abbrev fLd : FuncId := 105
abbrev fSt : FuncId := 106
abbrev fMove : FuncId := 101
abbrev fAcc : FuncId := 103
abbrev fAcq : FuncId := 134
abbrev fRel : FuncId := 135
def ac_o : Sy.O := (steps [1, 1] nil)
noncomputable def ac_R (m : Int) (ns : Nat → Sy.Let) : Sy.Res (Value × List Blk) :=
 leaf (Value.bool (bif bif Ex.eqQ m 2 then true else Ex.eqQ m 4 then true else Ex.eqQ m 5), [])
theorem ac_run (m : Int) : Sy.Ran (Sy.inB Tryz.prog Sy.S0 50 fAcq #[.int .i64 m] []) ac_o (ac_R m) := ⟨fun _ => by kernel_rfl, fun _ => by kernel_rfl⟩
def re_o : Sy.O := (steps [1, 1] nil)
noncomputable def re_R (m : Int) (ns : Nat → Sy.Let) : Sy.Res (Value × List Blk) :=
 leaf (Value.bool (bif bif Ex.eqQ m 3 then true else Ex.eqQ m 4 then true else Ex.eqQ m 5), [])
theorem re_run (m : Int) : Sy.Ran (Sy.inB Tryz.prog Sy.S0 50 fRel #[.int .i64 m] []) re_o (re_R m) := ⟨fun _ => by kernel_rfl, fun _ => by kernel_rfl⟩
def mv_o : Sy.O := (bz 8 0xbf nil)
noncomputable def mv_R (rd rm : Int) (TL : List Blk) (ns : Nat → Sy.Let) : Sy.Res (Value × List Blk) :=
 leaf (Value.agg (Array.mk [.int .i64 6, .int .i64 rd, .int .i64 31, .int .i64 rm, .int .i64 0, .int .i64 0]), TL)
theorem mv_run (rd rm : Int) (TL : List Blk) : Sy.Ran (Sy.inY Tryz.prog Sy.S0 50 fMove #[.int .i64 rd, .int .i64 rm] TL 0) mv_o (mv_R rd rm TL) := ⟨fun _ => by kernel_rfl, fun _ => by kernel_rfl⟩
def acs_o : Sy.O := (bz 8 0xbf nil)
noncomputable def acs_R (op rd : Int) (TL : List Blk) (ns : Nat → Sy.Let) : Sy.Res (Value × List Blk) :=
 leaf (Value.agg (Array.mk [.int .i64 op, .int .i64 rd, .int .i64 29, .int .i64 0, .int .i64 0, .int .i64 0]), TL)
theorem acs_run (op rd : Int) (TL : List Blk) : Sy.Ran (Sy.inY Tryz.prog Sy.S0 50 fAcc #[.int .i64 op, .int .i64 rd] TL 0) acs_o (acs_R op rd TL) := ⟨fun _ => by kernel_rfl, fun _ => by kernel_rfl⟩
def mvC (rd rm : Int) : Sy.CallC := Sy.plainC fMove #[.int .i64 rd, .int .i64 rm] (.agg #[.int .i64 6, .int .i64 rd, .int .i64 31, .int .i64 rm, .int .i64 0, .int .i64 0])
def asC (op rd : Int) : Sy.CallC := Sy.plainC fAcc #[.int .i64 op, .int .i64 rd] (.agg #[.int .i64 op, .int .i64 rd, .int .i64 29, .int .i64 0, .int .i64 0, .int .i64 0])
theorem mvC_met (rd rm : Int) : Sy.Meets Tryz.prog (mvC rd rm) := by
 refine Sy.meets_ofY (k := 0) Sy.S0_holds mixed (L := []) (Sy.Ent.refl _) (mv_run rd rm []) fun _ ns => ?_
 simp only [mv_R, Sy.Res.holds]
 exact plainB_leaf (v := .agg #[.int .i64 6, .int .i64 rd, .int .i64 31, .int .i64 rm, .int .i64 0, .int .i64 0]) (Sy.mS _) rfl rfl
theorem asC_met (op rd : Int) : Sy.Meets Tryz.prog (asC op rd) := by
 refine Sy.meets_ofY (k := 0) Sy.S0_holds mixed (L := []) (Sy.Ent.refl _) (acs_run op rd []) fun _ ns => ?_
 simp only [acs_R, Sy.Res.holds]
 exact plainB_leaf (v := .agg #[.int .i64 op, .int .i64 rd, .int .i64 29, .int .i64 0, .int .i64 0, .int .i64 0]) (Sy.mS _) rfl rfl
def acC (m : Int) : Sy.CallC := Sy.plainC fAcq #[.int .i64 m] (.bool (acqF m))
def reC (m : Int) : Sy.CallC := Sy.plainC fRel #[.int .i64 m] (.bool (relF m))
theorem acC_met (m : Int) : Sy.Meets Tryz.prog (acC m) := by
 refine Sy.meets_ofB Sy.S0_holds mixed (L := []) (Sy.Ent.refl _) (ac_run m) fun _ ns => ?_
 simp only [ac_R, Sy.Res.holds]
 exact plainB_leaf (v := .bool (acqF m)) (Sy.mS _) rfl rfl
theorem reC_met (m : Int) : Sy.Meets Tryz.prog (reC m) := by
 refine Sy.meets_ofB Sy.S0_holds mixed (L := []) (Sy.Ent.refl _) (re_run m) fun _ ns => ?_
 simp only [re_R, Sy.Res.holds]
 exact plainB_leaf (v := .bool (relF m)) (Sy.mS _) rfl rfl
def ctxAR (m : Int) : Sy.Ctx := Sy.mkS [(fAcq, fun _ _ => acC m), (fRel, fun _ _ => reC m)] [] []
theorem ctxAR_holds (m : Int) : (ctxAR m).holds Tryz.prog := Sy.mkS_holds (fun p hp a L => by
 rcases List.mem_cons.1 hp with rfl | hp
 ·exact acC_met m
 rcases List.mem_singleton.1 hp with rfl
 exact reC_met m) (fun _ h => (by cases h)) (fun _ h => (by cases h))
def ld_o : Sy.O := (bz 5 0x17 (fork (bz 17 0x1377f nil) (bz 17 0x1377f nil)))
noncomputable def ld_R (m rd : Int) (TL : List Blk) (ns : Nat → Sy.Let) : Sy.Res (Value × List Blk) :=
 need True (hyp True (br (acqF m) (leaf (Value.agg (Array.mk [.int .i64 27, .int .i64 rd, .int .i64 29, .int .i64 0, .int .i64 0, .int .i64 0]), TL)) (leaf (Value.agg (Array.mk [.int .i64 26, .int .i64 rd, .int .i64 29, .int .i64 0, .int .i64 0, .int .i64 0]), TL))))
theorem ld_run (m rd : Int) (TL : List Blk) : Sy.Ran (Sy.inY Tryz.prog (ctxAR m) 50 fLd #[.int .i64 m, .int .i64 rd] TL 0) ld_o (ld_R m rd TL) := ⟨fun _ => by kernel_rfl, fun _ => by kernel_rfl⟩
def st_o : Sy.O := (bz 14 0x2fff (fork (bz 23 0x4673ff nil) (bz 20 0x8ce7f nil)))
noncomputable def st_R (m rd : Int) (TL : List Blk) (ns : Nat → Sy.Let) : Sy.Res (Value × List Blk) :=
 need True (hyp True (br (relF m) (leaf (Value.agg (Array.mk [.int .i64 29, .int .i64 rd, .int .i64 29, .int .i64 30, .int .i64 0, .int .i64 0]), TL)) (leaf (Value.agg (Array.mk [.int .i64 28, .int .i64 rd, .int .i64 29, .int .i64 30, .int .i64 0, .int .i64 0]), TL))))
theorem st_run (m rd : Int) (TL : List Blk) : Sy.Ran (Sy.inY Tryz.prog (ctxAR m) 50 fSt #[.int .i64 m, .int .i64 rd] TL 0) st_o (st_R m rd TL) := ⟨fun _ => by kernel_rfl, fun _ => by kernel_rfl⟩
def opL (m : Int) : Int := bif acqF m then 27 else 26
def opS (m : Int) : Int := bif relF m then 29 else 28
def ldI (m rd : Int) : I := ⟨opL m, rd, 29, 0, 0, 0⟩
def stI (m rd : Int) : I := ⟨opS m, rd, 29, 30, 0, 0⟩
def insV (o rd rn rm : Int) : Value := .agg #[.int .i64 o, .int .i64 rd, .int .i64 rn, .int .i64 rm, .int .i64 0, .int .i64 0]
def ldC (m rd : Int) : Sy.CallC := Sy.plainC fLd #[.int .i64 m, .int .i64 rd] (.agg #[.int .i64 (opL m), .int .i64 rd, .int .i64 29, .int .i64 0, .int .i64 0, .int .i64 0])
def stC (m rd : Int) : Sy.CallC := Sy.plainC fSt #[.int .i64 m, .int .i64 rd] (.agg #[.int .i64 (opS m), .int .i64 rd, .int .i64 29, .int .i64 30, .int .i64 0, .int .i64 0])
theorem ldC_met (m rd : Int) : Sy.Meets Tryz.prog (ldC m rd) := by
 refine Sy.meets_ofY (k := 0) (ctxAR_holds m) mixed (L := []) (Sy.Ent.refl _) (ld_run m rd []) fun _ ns => ?_
 simp only [ld_R, Sy.Res.holds]
 refine ⟨trivial, fun _ => ⟨fun h => plainB_leaf (v := insV (opL m) rd 29 0) (Sy.mS _) rfl ?_, fun h => plainB_leaf (v := insV (opL m) rd 29 0) (Sy.mS _) rfl ?_⟩⟩ <;>
 ·unfold opL insV
  rw [h]
  rfl
theorem stC_met (m rd : Int) : Sy.Meets Tryz.prog (stC m rd) := by
 refine Sy.meets_ofY (k := 0) (ctxAR_holds m) mixed (L := []) (Sy.Ent.refl _) (st_run m rd []) fun _ ns => ?_
 simp only [st_R, Sy.Res.holds]
 refine ⟨trivial, fun _ => ⟨fun h => plainB_leaf (v := insV (opS m) rd 29 30) (Sy.mS _) rfl ?_, fun h => plainB_leaf (v := insV (opS m) rd 29 30) (Sy.mS _) rfl ?_⟩⟩ <;>
 ·unfold opS insV
  rw [h]
  rfl
open Go Go.RowKit
open Go.Proofs.YtlpcnaeknbmjdaaGreat.Sy (Let Blk HasL)
open Lw (I insCells tI)
def Sy.parts (L : List Blk) (f : List I → List I → List I) : List I := match L with
 | ⟨_, .obj (.cells cs _ _), _⟩ :: r => bif Sy.isLd (Sy.parse 8 cs.toList) then f (Sy.parse 8 cs.toList) [] else f (Sy.parse 8 cs.toList) (Sy.flat r)
 | _ => []
def Sy.isNew (L : List Blk) : Bool := match L with
 | ⟨_, .obj (.cells _ u _), _⟩ :: _ => Nat.beq tI u
 | _ => false
def Sy.isSt (l : List I) : Bool := match l with
 | i :: _ => Ex.eqQ i.rm 30
 | _ => false
def Sy.isEnd (l : List I) : Bool := match l with
 | i :: _ => Ex.eqQ i.rd 30
 | _ => false
def Sy.lastI (l : List I) : List I × List I := @List.rec I (fun _ => List I × List I) ([], []) (fun x r ih => match r with
 | [] => ([], [x])
 | _ :: _ => (x :: ih.1, ih.2)) l
def Sy.loopX (A : List I) (L : List Blk) : List I := Sy.parts L fun new old => bif Sy.isSt new then Sy.appI old A else bif Sy.isEnd new then Sy.appI (Sy.lastI old).1 (Sy.appI A (Sy.lastI old).2) else old
def Sy.newI (L : List Blk) : List I := Sy.parts L fun new _ => new
def putLU (q : Rw) (y s c : Nat) (v mp tv : Value) (e : Int) (b : Bool) (X Z : List I) (R : List Blk) : Sy.CallU := (putL q y s c v mp tv e b X Z).toU [(y, layC (slV v) mp tv e b)] (q.B v X) R
def putN (q : Rw) (y : Nat) (v mp tv : Value) (e : Int) (b : Bool) (X : List I) : Sy.CallC :=
 ⟨fPut, #[.pointer (some ⟨y, 0, none⟩), .slice none 0 0], q.V v X ∧ X.length ≤ 2000000, ⟨[], (y, layC (slV v) mp tv e b) :: q.B v X, 1, []⟩, [putO q y mp tv e b X]⟩
theorem putN_met (y : Nat) (v mp tv : Value) (e : Int) (b : Bool) (X : List I) : Sy.Meets Tryz.prog (putN rowQ y v mp tv e b X) := fun hok => by
 have := putW_met y v (.slice none 0 0) mp tv e b X [] ⟨hok.1, rowV_nil, by simpa using hok.2⟩
 rw [putW, List.append_nil] at this
 exact this
def putNU (q : Rw) (y : Nat) (v mp tv : Value) (e : Int) (b : Bool) (X : List I) (R : List Blk) : Sy.CallU := (putN q y v mp tv e b X).toU [(y, layC (slV v) mp tv e b)] (q.B v X) R
def ctxLS (m stored : Int) : Sy.Ctx := Sy.mkS [(fLd, fun _ _ => ldC m 25), (fSt, fun _ _ => stC m stored), (fAcq, fun _ _ => acC m)] [] []
theorem ctxLS_holds (m stored : Int) : (ctxLS m stored).holds Tryz.prog := Sy.mkS_holds (fun p hp a L => by
 rcases List.mem_cons.1 hp with rfl | hp
 ·exact ldC_met m 25
 rcases List.mem_cons.1 hp with rfl | hp
 ·exact stC_met m stored
 rcases List.mem_singleton.1 hp with rfl
 exact acC_met m) (fun _ h => (by cases h)) (fun _ h => (by cases h))
def putLoop (q : Rw) (y : Nat) (mp tv : Value) (b : Bool) (X0 A : List I) (a : Array Value) (L : List Blk) : Sy.CallU :=
 match Sy.isNew L with
 | true => putLU q y (Sy.ptrN (Sy.argV a 1)) (Sy.capN (Sy.argV a 1)) (Sy.vY L) mp tv (Sy.eY L) b (X0 ++ Sy.loopX A L) (Sy.newI L) []
 | false => match A with
   | [] => putNU q y (Sy.vY L) mp tv (Sy.eY L) b (X0 ++ Sy.flat L) []
   | _ :: _ => putLU q y (Sy.ptrN (Sy.argV a 1)) (Sy.capN (Sy.argV a 1)) (Sy.vY L) mp tv (Sy.eY L) b (X0 ++ Sy.flat L) A []
theorem putLoop_met (y : Nat) (mp tv : Value) (b : Bool) (X0 A : List I) (a : Array Value) (L : List Blk) : Sy.Meets Tryz.prog (putLoop rowQ y mp tv b X0 A a L).c := by
 unfold putLoop
 cases Sy.isNew L
 ·cases A
  ·exact putN_met _ _ _ _ _ _ _
  ·exact putL_met _ _ _ _ _ _ _ _ _ _
 ·exact putL_met _ _ _ _ _ _ _ _ _ _
def ctxLp (q : Rw) (m stored : Int) (y : Nat) (mp tv : Value) (b : Bool) (X0 A : List I) : Sy.Ctx := Sy.mkU (ctxLS m stored) [(fPut, putLoop q y mp tv b X0 A)] []
abbrev fLoop : FuncId := 104
abbrev sumI : I := ⟨3, 26, 25, 24, 0, 0⟩
def l0_o : Sy.O := (bz 25 0x17bb77f (fork (bz 64 0x82c5bfb2ddecbb5b nil) (bz 48 0x8596fed6ef6b nil)))
noncomputable def l0_R (q : Rw) (TL : List Blk) (y : Nat) (m stored : Int) (v mp tv : Value) (e : Int) (b : Bool) (X : List I) (ns : Nat → Sy.Let) : Sy.Res (Value × List Blk) :=
 let z0 := Value.slice (slP v) (Sy.lenS v) (slC v)
 let z1 := X.append []
 let z2 := [I.mk (opL m) 25 29 0 0 0]
 let z3 := lv0 [ns 1]
 let z4 := Value.slice (slP z3) (Sy.lenS z3) (slC z3)
 let z5 := X.append z2
 let z6 := [I.mk 21 25 0 0 1 0]
 let z7 := List.Perm (List.map Sy.ownOf (q.1 z3 (z1.append z2))) ((List.map Sy.ownOf (q.1 z4 z5)).append [])
 let z8 := lv0 [ns 3]
 let z9 := Value.slice (slP z8) (Sy.lenS z8) (slC z8)
 let z10 := X.append [I.mk (opL m) 25 29 0 0 0, I.mk 21 25 0 0 1 0]
 let z11 := lv0 [ns 4]
 let z12 := Value.slice (slP z11) (Sy.lenS z11) (slC z11)
 let z13 := [I.mk (opS m) stored 29 30 0 0]
 let z14 := lv0 [ns 6]
 let z15 := z10.append z13
 let z16 := Sy.lenS z14
 let z17 := Value.slice (slP z14) z16 (slC z14)
 let z18 := X.append [I.mk (opL m) 25 29 0 0 0, I.mk 21 25 0 0 1 0, I.mk (opS m) stored 29 30 0 0]
 let z19 := Int.ofNat (Sy.lenS v)
 let z20 := [I.mk 21 30 0 0 (Ex.wrapQ .i64 (Ex.subQ' z19 (Int.ofNat z16))) 0]
 let z21 := lv0 [ns 8]
 let z22 := z18.append z20
 let z23 := lv0 [ns 2]
 let z24 := Value.slice (slP z23) (Sy.lenS z23) (slC z23)
 let z25 := z5.append z13
 let z26 := X.append [I.mk (opL m) 25 29 0 0 0, I.mk (opS m) stored 29 30 0 0]
 let z27 := [I.mk 21 30 0 0 (Ex.wrapQ .i64 (Ex.subQ' z19 (Int.ofNat (Sy.lenS z11)))) 0]
 let z28 := z26.append z27
 need True (hyp True (need (q.2 z0 z1 ∧ z2 ≠ [] ∧ List.length z1 + (1 : Nat) ≤ 2000000) (need (List.Perm TL ((List.map Sy.ownOf (q.1 z0 z1)).append [])) (hyp (q.2 z3 (z1.append z2)) (need True (hyp True (br (!acqF m) (need (q.2 z4 z5 ∧ z6 ≠ [] ∧ List.length z5 + (1 : Nat) ≤ 2000000) (need z7 (hyp (q.2 z8 (z5.append z6)) (need (q.2 z9 z10 ∧ List.length z10 ≤ 2000000) (need (List.Perm (List.map Sy.ownOf (q.1 z8 (z5.append z6))) ((List.map Sy.ownOf (q.1 z9 z10)).append [])) (hyp (q.2 z11 z10) (need True (hyp True (need (q.2 z12 z10 ∧ z13 ≠ [] ∧ List.length z10 + (1 : Nat) ≤ 2000000) (need (List.Perm (List.map Sy.ownOf (q.1 z11 z10)) ((List.map Sy.ownOf (q.1 z12 z10)).append [])) (hyp (q.2 z14 z15) (need (q.2 z17 z18 ∧ z20 ≠ [] ∧ List.length z18 + (1 : Nat) ≤ 2000000) (need (List.Perm (List.map Sy.ownOf (q.1 z14 z15)) ((List.map Sy.ownOf (q.1 z17 z18)).append [])) (hyp (q.2 z21 z22) (leaf (Value.tuple (Array.mk []), Blk.mk y (.obj (.cells (Array.mk [.slice (slP z21) (Sy.lenS z21) (slC z21), mp, tv, .int .i64 e, .bool b]) 132)) true :: List.map Sy.ownOf (q.1 z21 z22))))))))))))))))) (need (q.2 z4 z5 ∧ List.length z5 ≤ 2000000) (need z7 (hyp (q.2 z23 z5) (need True (hyp True (need (q.2 z24 z5 ∧ z13 ≠ [] ∧ List.length z5 + (1 : Nat) ≤ 2000000) (need (List.Perm (List.map Sy.ownOf (q.1 z23 z5)) ((List.map Sy.ownOf (q.1 z24 z5)).append [])) (hyp (q.2 z11 z25) (need (q.2 z12 z26 ∧ z27 ≠ [] ∧ List.length z26 + (1 : Nat) ≤ 2000000) (need (List.Perm (List.map Sy.ownOf (q.1 z11 z25))
 ((List.map Sy.ownOf (q.1 z12 z26)).append [])) (hyp (q.2 z14 z28) (leaf (Value.tuple (Array.mk []), Blk.mk y (.obj (.cells (Array.mk [.slice (slP z14) z16 (slC z14), mp, tv, .int .i64 e, .bool b]) 132)) true :: List.map Sy.ownOf (q.1 z14 z28)))))))))))))))))))))
theorem l0_run (q : Rw) (TL : List Blk) (y : Nat) (m stored : Int) (v mp tv : Value) (e : Int) (b : Bool) (X : List I) : Sy.Ran (Sy.inY Tryz.prog (ctxLp q m stored y mp tv b X []) 50 fLoop #[.pointer (some ⟨y, 0, none⟩), .int .i64 m, .slice none 0 0, .int .i64 stored] (⟨y, layC (slV v) mp tv e b, true⟩ :: TL) 1) l0_o (l0_R q TL y m stored v mp tv e b X) := ⟨fun _ => by kernel_rfl, fun _ => by kernel_rfl⟩
def l1_o : Sy.O := (bz 26 0x2f6b77f (fork (bz 74 0x20585bfb16ef65a365b nil) (bz 56 0x82c5bfb2dded69 nil)))
noncomputable def l1_R (q : Rw) (TL : List Blk) (y s c : Nat) (m stored : Int) (v mp tv : Value) (e : Int) (b : Bool) (X : List I) (ns : Nat → Sy.Let) : Sy.Res (Value × List Blk) :=
 let z0 := Value.slice (slP v) (Sy.lenS v) (slC v)
 let z1 := X.append []
 let z2 := opL m
 let z3 := [I.mk z2 25 29 0 0 0]
 let z4 := lv0 [ns 1]
 let z5 := Value.slice (slP z4) (Sy.lenS z4) (slC z4)
 let z6 := X.append z3
 let z7 := [I.mk 21 25 0 0 1 0]
 let z8 := List.Perm (List.map Sy.ownOf (q.1 z4 (z1.append z3))) ((List.map Sy.ownOf (q.1 z5 z6)).append [])
 let z9 := lv0 [ns 3]
 let z10 := Value.slice (slP z9) (Sy.lenS z9) (slC z9)
 let z11 := X.append [I.mk z2 25 29 0 0 0, I.mk 21 25 0 0 1 0]
 let z12 := [I.mk 3 26 25 24 0 0]
 let z13 := lv0 [ns 4]
 let z14 := z11.append z12
 let z15 := Value.slice (slP z13) (Sy.lenS z13) (slC z13)
 let z16 := X.append [I.mk z2 25 29 0 0 0, I.mk 21 25 0 0 1 0, I.mk 3 26 25 24 0 0]
 let z17 := [I.mk (opS m) stored 29 30 0 0]
 let z18 := lv0 [ns 6]
 let z19 := z16.append z17
 let z20 := Sy.lenS z18
 let z21 := Value.slice (slP z18) z20 (slC z18)
 let z22 := X.append [I.mk z2 25 29 0 0 0, I.mk 21 25 0 0 1 0, I.mk 3 26 25 24 0 0, I.mk (opS m) stored 29 30 0 0]
 let z23 := Int.ofNat (Sy.lenS v)
 let z24 := [I.mk 21 30 0 0 (Ex.wrapQ .i64 (Ex.subQ' z23 (Int.ofNat z20))) 0]
 let z25 := lv0 [ns 8]
 let z26 := z22.append z24
 let z27 := lv0 [ns 2]
 let z28 := z6.append z12
 let z29 := Value.slice (slP z27) (Sy.lenS z27) (slC z27)
 let z30 := X.append [I.mk z2 25 29 0 0 0, I.mk 3 26 25 24 0 0]
 let z31 := z30.append z17
 let z32 := X.append [I.mk z2 25 29 0 0 0, I.mk 3 26 25 24 0 0, I.mk (opS m) stored 29 30 0 0]
 let z33 := [I.mk 21 30 0 0 (Ex.wrapQ .i64 (Ex.subQ' z23 (Int.ofNat (Sy.lenS z13)))) 0]
 let z34 := z32.append z33
 need True (hyp True (need (q.2 z0 z1 ∧ z3 ≠ [] ∧ List.length z1 + (1 : Nat) ≤ 2000000) (need (List.Perm TL ((List.map Sy.ownOf (q.1 z0 z1)).append [])) (hyp (q.2 z4 (z1.append z3)) (need True (hyp True (br (!acqF m) (need (q.2 z5 z6 ∧ z7 ≠ [] ∧ List.length z6 + (1 : Nat) ≤ 2000000) (need z8 (hyp (q.2 z9 (z6.append z7)) (need (q.2 z10 z11 ∧ z12 ≠ [] ∧ List.length z11 + (1 : Nat) ≤ 2000000) (need (List.Perm (List.map Sy.ownOf (q.1 z9 (z6.append z7))) ((List.map Sy.ownOf (q.1 z10 z11)).append [])) (hyp (q.2 z13 z14) (need True (hyp True (need (q.2 z15 z16 ∧ z17 ≠ [] ∧ List.length z16 + (1 : Nat) ≤ 2000000) (need (List.Perm (List.map Sy.ownOf (q.1 z13 z14)) ((List.map Sy.ownOf (q.1 z15 z16)).append [])) (hyp (q.2 z18 z19) (need (q.2 z21 z22 ∧ z24 ≠ [] ∧ List.length z22 + (1 : Nat) ≤ 2000000) (need (List.Perm (List.map Sy.ownOf (q.1 z18 z19)) ((List.map Sy.ownOf (q.1 z21 z22)).append [])) (hyp (q.2 z25 z26) (leaf (Value.tuple (Array.mk []), Blk.mk y (.obj (.cells (Array.mk [.slice (slP z25) (Sy.lenS z25) (slC z25), mp, tv, .int .i64 e, .bool b]) 132)) true :: List.map Sy.ownOf (q.1 z25 z26))))))))))))))))) (need (q.2 z5 z6 ∧ z12 ≠ [] ∧ List.length z6 + (1 : Nat) ≤ 2000000) (need z8 (hyp (q.2 z27 z28) (need True (hyp True (need (q.2 z29 z30 ∧ z17 ≠ [] ∧ List.length z30 + (1 : Nat) ≤ 2000000) (need (List.Perm (List.map Sy.ownOf (q.1 z27 z28)) ((List.map Sy.ownOf (q.1 z29 z30)).append [])) (hyp (q.2 z13 z31) (need (q.2 z15 z32 ∧ z33 ≠ [] ∧ List.length z32 + (1 : Nat) ≤ 2000000) (need
 (List.Perm (List.map Sy.ownOf (q.1 z13 z31)) ((List.map Sy.ownOf (q.1 z15 z32)).append [])) (hyp (q.2 z18 z34) (leaf (Value.tuple (Array.mk []), Blk.mk y (.obj (.cells (Array.mk [.slice (slP z18) z20 (slC z18), mp, tv, .int .i64 e, .bool b]) 132)) true :: List.map Sy.ownOf (q.1 z18 z34)))))))))))))))))))))
theorem l1_run (q : Rw) (TL : List Blk) (y s c : Nat) (m stored : Int) (v mp tv : Value) (e : Int) (b : Bool) (X : List I) : Sy.Ran (Sy.inY Tryz.prog (ctxLp q m stored y mp tv b X [sumI]) 50 fLoop #[.pointer (some ⟨y, 0, none⟩), .int .i64 m, .slice (some ⟨s, 0, none⟩) 1 c, .int .i64 stored] (⟨y, layC (slV v) mp tv e b, true⟩ :: ⟨s, .seg 0 (insCells [sumI]), false⟩ :: TL) 1) l1_o (l1_R q TL y s c m stored v mp tv e b X) := ⟨fun _ => by kernel_rfl, fun _ => by kernel_rfl⟩
def lpI (m : Int) (A : List I) (st : Int) : List I := [ldI m 25] ++ nzI m 25 ++ A ++ [stI m st, ⟨21, 30, 0, 0, -(2 + (nzI m 25).length + A.length), 0⟩]
def loopC (q : Rw) (y : Nat) (m stored : Int) (v mp tv : Value) (e : Int) (b : Bool) (X : List I) : Sy.CallC :=
 ⟨fLoop, #[.pointer (some ⟨y, 0, none⟩), .int .i64 m, .slice none 0 0, .int .i64 stored], q.V v X ∧ X.length + 6 ≤ 2000000, ⟨[], (y, layC (slV v) mp tv e b) :: q.B v X, 1, []⟩, [putO q y mp tv e b (X ++ lpI m [] stored)]⟩
def loopS (q : Rw) (y s c : Nat) (m stored : Int) (v mp tv : Value) (e : Int) (b : Bool) (X : List I) : Sy.CallC :=
 ⟨fLoop, #[.pointer (some ⟨y, 0, none⟩), .int .i64 m, .slice (some ⟨s, 0, none⟩) 1 c, .int .i64 stored], q.V v X ∧ X.length + 6 ≤ 2000000, ⟨[(s, .seg 0 (insCells [sumI]))], (y, layC (slV v) mp tv e b) :: q.B v X, 1, []⟩, [putO q y mp tv e b (X ++ lpI m [sumI] stored)]⟩
theorem rowV_of {v : Value} {X X' : List I} (h : RowV v X) (e : X = X') : RowV (slV v) X' := e ▸ h
theorem perm_row (v : Value) {X X' : List I} (e : X = X') : List.Perm ((rowB v X).map Sy.ownOf) (((rowB (slV v) X').map Sy.ownOf) ++ []) := by
 subst e
 rw [List.append_nil]
 exact List.Perm.refl _
theorem RowV.len {v : Value} {X : List I} (h : RowV v X) : Sy.lenS v = X.length := by
 rcases h with ⟨rfl, _, h, _⟩ | ⟨_, _, h, _⟩ <;> simpa using h
theorem back_to {v w : Value} {X Z : List I} (h : RowV v X) (k : RowV w Z) (j : Nat) (hj : Z.length = X.length + j) (hX : X.length ≤ 2000000) (hs : j ≤ 100) : Ex.wrapQ .i64 (Ex.subQ' (Int.ofNat (Sy.lenS v)) (Int.ofNat (Sy.lenS w))) = -(j : Int) := by
 rw [h.len, k.len, hj, Ex.wrapQ_eq, Ex.subQ_eq]
 simp [IntKind.wrap, IntKind.signed, IntKind.bits]
 omega
theorem lay_fin {c : Sy.CallC} {y : Nat} {mp tv : Value} {e : Int} {b : Bool} {X Z : List I} {v : Value} (k : RowV v Z) (ho : putO rowQ y mp tv e b X ∈ c.outs) (hm : c.mem.m = 1) (he : Z = X) : Sy.leafB c (.tuple #[], ⟨y, layC (slV v) mp tv e b, true⟩ :: (rowB v Z).map Sy.ownOf) := by
 subst he
 exact lay_leaf ho hm rfl k (Sy.Ent.refl _)
theorem loopC_met (y : Nat) (m stored : Int) (v mp tv : Value) (e : Int) (b : Bool) (X : List I) : Sy.Meets Tryz.prog (loopC rowQ y m stored v mp tv e b X) := by
 have hS : (ctxLp rowQ m stored y mp tv b X []).holds Tryz.prog := Sy.mkU_holds (ctxLS_holds m stored) (fun p hp a L => by
  rcases List.mem_singleton.1 hp with rfl
  exact putLoop_met _ _ _ _ _ _ _ _) (fun _ h => (by cases h))
 refine Sy.meets_ofY (k := 1) hS mixed (L := ⟨y, layC (slV v) mp tv e b, true⟩ :: (rowB v X).map Sy.ownOf) ?_ (l0_run rowQ ((rowB v X).map Sy.ownOf) y m stored v mp tv e b X) fun hok ns => ?_
 ·show Sy.Ent (_ ++ []) _
  rw [List.append_nil]
  exact Sy.Ent.refl _
 obtain ⟨h1, h2⟩ := hok
 simp only [l0_R, Sy.Res.holds]
 refine ⟨trivial, fun _ => ⟨⟨rowV_of h1 (by simp), by simp, by simp; omega⟩, perm_row _ (by simp), fun k1 => ⟨trivial, fun _ => ⟨fun ha => ?_, fun ha => ?_⟩⟩⟩⟩
 ·refine ⟨⟨rowV_of k1 (by simp), by simp, by simp; omega⟩, perm_row _ (by simp), fun k2 => ?_⟩
  refine ⟨⟨rowV_of k2 (by simp), by simp; omega⟩, perm_row _ (by simp), fun k3 => ?_⟩
  refine ⟨trivial, fun _ => ⟨⟨rowV_of k3 (by simp), by simp, by simp; omega⟩, perm_row _ (by simp), fun k4 => ?_⟩⟩
  refine ⟨⟨rowV_of k4 (by simp), by simp, by simp; omega⟩, perm_row _ (by simp), fun k5 => ?_⟩
  refine lay_fin k5 (Sy.mS _) rfl ?_
  rw [back_to h1 k4 3 (by simp) (by omega) (by omega)]
  have hm : acqF m = false := by simpa using ha
  simp [lpI, nzI, ldI, stI, hm]
 ·have hm : acqF m = true := by simpa using ha
  refine ⟨⟨rowV_of k1 (by simp), by simp; omega⟩, perm_row _ (by simp), fun k3 => ?_⟩
  refine ⟨trivial, fun _ => ⟨⟨rowV_of k3 (by simp), by simp, by simp; omega⟩, perm_row _ (by simp), fun k4 => ?_⟩⟩
  refine ⟨⟨rowV_of k4 (by simp), by simp, by simp; omega⟩, perm_row _ (by simp), fun k5 => ?_⟩
  refine lay_fin k5 (Sy.mS _) rfl ?_
  rw [back_to h1 k4 2 (by simp) (by omega) (by omega)]
  simp [lpI, nzI, ldI, stI, hm]
theorem loopS_met (y s c : Nat) (m stored : Int) (v mp tv : Value) (e : Int) (b : Bool) (X : List I) : Sy.Meets Tryz.prog (loopS rowQ y s c m stored v mp tv e b X) := by
 have hS : (ctxLp rowQ m stored y mp tv b X [sumI]).holds Tryz.prog := Sy.mkU_holds (ctxLS_holds m stored) (fun p hp a L => by
  rcases List.mem_singleton.1 hp with rfl
  exact putLoop_met _ _ _ _ _ _ _ _) (fun _ h => (by cases h))
 refine Sy.meets_ofY (k := 1) hS mixed (L := ⟨y, layC (slV v) mp tv e b, true⟩ :: ⟨s, .seg 0 (insCells [sumI]), false⟩ :: (rowB v X).map Sy.ownOf) ?_ (l1_run rowQ ((rowB v X).map Sy.ownOf) y s c m stored v mp tv e b X) fun hok ns => ?_
 ·show Sy.Ent (_ :: (_ :: _ ++ [])) _
  rw [List.append_nil]
  exact Sy.Ent.perm (List.Perm.swap _ _ _)
 obtain ⟨h1, h2⟩ := hok
 simp only [l1_R, Sy.Res.holds]
 refine ⟨trivial, fun _ => ⟨⟨rowV_of h1 (by simp), by simp, by simp; omega⟩, perm_row _ (by simp), fun k1 => ⟨trivial, fun _ => ⟨fun ha => ?_, fun ha => ?_⟩⟩⟩⟩
 ·refine ⟨⟨rowV_of k1 (by simp), by simp, by simp; omega⟩, perm_row _ (by simp), fun k2 => ?_⟩
  refine ⟨⟨rowV_of k2 (by simp), by simp, by simp; omega⟩, perm_row _ (by simp), fun k3 => ?_⟩
  refine ⟨trivial, fun _ => ⟨⟨rowV_of k3 (by simp), by simp, by simp; omega⟩, perm_row _ (by simp), fun k4 => ?_⟩⟩
  refine ⟨⟨rowV_of k4 (by simp), by simp, by simp; omega⟩, perm_row _ (by simp), fun k5 => ?_⟩
  refine lay_fin k5 (Sy.mS _) rfl ?_
  rw [back_to h1 k4 4 (by simp) (by omega) (by omega)]
  have hm : acqF m = false := by simpa using ha
  simp [lpI, nzI, ldI, stI, hm]
 ·have hm : acqF m = true := by simpa using ha
  refine ⟨⟨rowV_of k1 (by simp), by simp, by simp; omega⟩, perm_row _ (by simp), fun k3 => ?_⟩
  refine ⟨trivial, fun _ => ⟨⟨rowV_of k3 (by simp), by simp, by simp; omega⟩, perm_row _ (by simp), fun k4 => ?_⟩⟩
  refine ⟨⟨rowV_of k4 (by simp), by simp, by simp; omega⟩, perm_row _ (by simp), fun k5 => ?_⟩
  refine lay_fin k5 (Sy.mS _) rfl ?_
  rw [back_to h1 k4 3 (by simp) (by omega) (by omega)]
  simp [lpI, nzI, ldI, stI, hm]
open Go Go.RowKit
open Go.Proofs.YtlpcnaeknbmjdaaGreat.Sy (Let Blk HasL)
open Lw (I insCells tI)
def acB (m : Int) (x : Bool) : Sy.CallC := { acC m with ok := acqF m = x, outs := [Sy.plainO (.bool x)] }
def reB (m : Int) (x : Bool) : Sy.CallC := { reC m with ok := relF m = x, outs := [Sy.plainO (.bool x)] }
theorem acB_met (m : Int) (x : Bool) : Sy.Meets Tryz.prog (acB m x) := fun h => by
 have := acC_met m trivial
 simp only [acB] at h ⊢
 subst h
 exact this
theorem reB_met (m : Int) (x : Bool) : Sy.Meets Tryz.prog (reB m x) := fun h => by
 have := reC_met m trivial
 simp only [reB] at h ⊢
 subst h
 exact this
def ctxAB (m : Int) (x r : Bool) : Sy.Ctx := Sy.mkS [(fAcq, fun _ _ => acB m x), (fRel, fun _ _ => reB m r), (fMove, fun a _ => mvC (Sy.argI a 0) (Sy.argI a 1))] [] []
theorem ctxAB_holds (m : Int) (x r : Bool) : (ctxAB m x r).holds Tryz.prog := Sy.mkS_holds (fun p hp a L => by
 rcases List.mem_cons.1 hp with rfl | hp
 ·exact acB_met m x
 rcases List.mem_cons.1 hp with rfl | hp
 ·exact reB_met m r
 rcases List.mem_singleton.1 hp with rfl
 exact mvC_met _ _) (fun _ h => (by cases h)) (fun _ h => (by cases h))
def Sy.oldI (L : List Blk) : List I := Sy.parts L fun _ old => old
def putOne (q : Rw) (y : Nat) (mp tv : Value) (b : Bool) (X0 : List I) (a : Array Value) (L : List Blk) : Sy.CallU :=
 putLU q y (Sy.ptrN (Sy.argV a 1)) (Sy.capN (Sy.argV a 1)) (Sy.vY L) mp tv (Sy.eY L) b (X0 ++ Sy.oldI L) (Sy.newI L) []
def ctxSg (q : Rw) (m : Int) (x r : Bool) (y : Nat) (mp tv : Value) (b : Bool) (X0 : List I) : Sy.Ctx := Sy.mkU (ctxAB m x r) [(fPut, putOne q y mp tv b X0)] []
theorem ctxSg_holds (m : Int) (x r : Bool) (y : Nat) (mp tv : Value) (b : Bool) (X0 : List I) : (ctxSg rowQ m x r y mp tv b X0).holds Tryz.prog := Sy.mkU_holds (ctxAB_holds m x r) (fun p hp a L => by
 rcases List.mem_singleton.1 hp with rfl
 exact putL_met _ _ _ _ _ _ _ _ _ _) (fun _ h => (by cases h))
abbrev fSingle : FuncId := 130
def sTT_o : Sy.O := (bz 70 0x2165bbe77cdaaf7fbf nil)
noncomputable def sTT_R (q : Rw) (TL : List Blk) (y : Nat) (a : ActD) (iv ev fv : Value) (op old : Int) (v mp tv : Value) (e : Int) (b : Bool) (X : List I) (ns : Nat → Sy.Let) : Sy.Res (Value × List Blk) :=
 let z0 := acqF (ActD.mode a) = true
 let z1 := Value.slice (slP v) (Sy.lenS v) (slC v)
 let z2 := X.append []
 let z3 := [I.mk (Ex.wrapQ .i64 (Ex.addQ (Ex.wrapQ .i64 (Ex.addQ op 1)) 2)) 25 29 24 0 0]
 let z4 := lv0 [ns 2]
 let z5 := Value.slice (slP z4) (Sy.lenS z4) (slC z4)
 let z6 := X.append z3
 let z7 := [I.mk 6 (ActD.dst a) 31 old 0 0]
 let z8 := lv0 [ns 4]
 need z0 (hyp True (need (relF (ActD.mode a) = true) (hyp True (need (q.2 z1 z2 ∧ z3 ≠ [] ∧ List.length z2 + (1 : Nat) ≤ 2000000) (need (List.Perm TL ((List.map Sy.ownOf (q.1 z1 z2)).append [])) (hyp (q.2 z4 (z2.append z3)) (need z0 (hyp True (need True (hyp True (need (q.2 z5 z6 ∧ z7 ≠ [] ∧ List.length z6 + (1 : Nat) ≤ 2000000) (need (List.Perm (List.map Sy.ownOf (q.1 z4 (z2.append z3))) ((List.map Sy.ownOf (q.1 z5 z6)).append [])) (hyp (q.2 z8 (z6.append z7)) (leaf (Value.tuple (Array.mk []), Blk.mk y (.obj (.cells (Array.mk [.slice (slP z8) (Sy.lenS z8) (slC z8), mp, tv, .int .i64 e, .bool b]) 132)) true :: List.map Sy.ownOf (q.1 z8 (z6.append z7)))))))))))))))))
theorem sTT_run (q : Rw) (TL : List Blk) (y : Nat) (a : ActD) (iv ev fv : Value) (op old : Int) (v mp tv : Value) (e : Int) (b : Bool) (X : List I) : Sy.Ran (Sy.inY Tryz.prog (ctxSg q a.mode true true y mp tv b X) 50 fSingle #[.pointer (some ⟨y, 0, none⟩), actV a iv ev fv, .int .i64 op, .int .i64 24, .int .i64 25, .int .i64 old] (⟨y, layC (slV v) mp tv e b, true⟩ :: TL) 1) sTT_o (sTT_R q TL y a iv ev fv op old v mp tv e b X) := ⟨fun _ => by kernel_rfl, fun _ => by kernel_rfl⟩
def sTF_o : Sy.O := (bz 70 0x2165bbe77cdaaf7fbf nil)
noncomputable def sTF_R (q : Rw) (TL : List Blk) (y : Nat) (a : ActD) (iv ev fv : Value) (op old : Int) (v mp tv : Value) (e : Int) (b : Bool) (X : List I) (ns : Nat → Sy.Let) : Sy.Res (Value × List Blk) :=
 let z0 := acqF (ActD.mode a) = true
 let z1 := Value.slice (slP v) (Sy.lenS v) (slC v)
 let z2 := X.append []
 let z3 := [I.mk (Ex.wrapQ .i64 (Ex.addQ op 1)) 25 29 24 0 0]
 let z4 := lv0 [ns 2]
 let z5 := Value.slice (slP z4) (Sy.lenS z4) (slC z4)
 let z6 := X.append z3
 let z7 := [I.mk 6 (ActD.dst a) 31 old 0 0]
 let z8 := lv0 [ns 4]
 need z0 (hyp True (need (relF (ActD.mode a) = false) (hyp True (need (q.2 z1 z2 ∧ z3 ≠ [] ∧ List.length z2 + (1 : Nat) ≤ 2000000) (need (List.Perm TL ((List.map Sy.ownOf (q.1 z1 z2)).append [])) (hyp (q.2 z4 (z2.append z3)) (need z0 (hyp True (need True (hyp True (need (q.2 z5 z6 ∧ z7 ≠ [] ∧ List.length z6 + (1 : Nat) ≤ 2000000) (need (List.Perm (List.map Sy.ownOf (q.1 z4 (z2.append z3))) ((List.map Sy.ownOf (q.1 z5 z6)).append [])) (hyp (q.2 z8 (z6.append z7)) (leaf (Value.tuple (Array.mk []), Blk.mk y (.obj (.cells (Array.mk [.slice (slP z8) (Sy.lenS z8) (slC z8), mp, tv, .int .i64 e, .bool b]) 132)) true :: List.map Sy.ownOf (q.1 z8 (z6.append z7)))))))))))))))))
theorem sTF_run (q : Rw) (TL : List Blk) (y : Nat) (a : ActD) (iv ev fv : Value) (op old : Int) (v mp tv : Value) (e : Int) (b : Bool) (X : List I) : Sy.Ran (Sy.inY Tryz.prog (ctxSg q a.mode true false y mp tv b X) 50 fSingle #[.pointer (some ⟨y, 0, none⟩), actV a iv ev fv, .int .i64 op, .int .i64 24, .int .i64 25, .int .i64 old] (⟨y, layC (slV v) mp tv e b, true⟩ :: TL) 1) sTF_o (sTF_R q TL y a iv ev fv op old v mp tv e b X) := ⟨fun _ => by kernel_rfl, fun _ => by kernel_rfl⟩
def sFT_o : Sy.O := (bz 86 0x20b16ef8d96f7cdaaf7fbf nil)
noncomputable def sFT_R (q : Rw) (TL : List Blk) (y : Nat) (a : ActD) (iv ev fv : Value) (op old : Int) (v mp tv : Value) (e : Int) (b : Bool) (X : List I) (ns : Nat → Sy.Let) : Sy.Res (Value × List Blk) :=
 let z0 := acqF (ActD.mode a) = false
 let z1 := Value.slice (slP v) (Sy.lenS v) (slC v)
 let z2 := X.append []
 let z3 := Ex.wrapQ .i64 (Ex.addQ op 2)
 let z4 := [I.mk z3 25 29 24 0 0]
 let z5 := lv0 [ns 2]
 let z6 := Value.slice (slP z5) (Sy.lenS z5) (slC z5)
 let z7 := X.append z4
 let z8 := [I.mk 21 old 0 0 1 0]
 let z9 := lv0 [ns 4]
 let z10 := Value.slice (slP z9) (Sy.lenS z9) (slC z9)
 let z11 := X.append [I.mk z3 25 29 24 0 0, I.mk 21 old 0 0 1 0]
 let z12 := [I.mk 6 (ActD.dst a) 31 old 0 0]
 let z13 := lv0 [ns 6]
 let z14 := z11.append z12
 need z0 (hyp True (need (relF (ActD.mode a) = true) (hyp True (need (q.2 z1 z2 ∧ z4 ≠ [] ∧ List.length z2 + (1 : Nat) ≤ 2000000) (need (List.Perm TL ((List.map Sy.ownOf (q.1 z1 z2)).append [])) (hyp (q.2 z5 (z2.append z4)) (need z0 (hyp True (need (q.2 z6 z7 ∧ z8 ≠ [] ∧ List.length z7 + (1 : Nat) ≤ 2000000) (need (List.Perm (List.map Sy.ownOf (q.1 z5 (z2.append z4))) ((List.map Sy.ownOf (q.1 z6 z7)).append [])) (hyp (q.2 z9 (z7.append z8)) (need True (hyp True (need (q.2 z10 z11 ∧ z12 ≠ [] ∧ List.length z11 + (1 : Nat) ≤ 2000000) (need (List.Perm (List.map Sy.ownOf (q.1 z9 (z7.append z8))) ((List.map Sy.ownOf (q.1 z10 z11)).append [])) (hyp (q.2 z13 z14) (leaf (Value.tuple (Array.mk []), Blk.mk y (.obj (.cells (Array.mk [.slice (slP z13) (Sy.lenS z13) (slC z13), mp, tv, .int .i64 e, .bool b]) 132)) true :: List.map Sy.ownOf (q.1 z13 z14)))))))))))))))))))
theorem sFT_run (q : Rw) (TL : List Blk) (y : Nat) (a : ActD) (iv ev fv : Value) (op old : Int) (v mp tv : Value) (e : Int) (b : Bool) (X : List I) : Sy.Ran (Sy.inY Tryz.prog (ctxSg q a.mode false true y mp tv b X) 50 fSingle #[.pointer (some ⟨y, 0, none⟩), actV a iv ev fv, .int .i64 op, .int .i64 24, .int .i64 25, .int .i64 old] (⟨y, layC (slV v) mp tv e b, true⟩ :: TL) 1) sFT_o (sFT_R q TL y a iv ev fv op old v mp tv e b X) := ⟨fun _ => by kernel_rfl, fun _ => by kernel_rfl⟩
def sFF_o : Sy.O := (bz 86 0x20b16ef8d96f7cdaaf7fbf nil)
noncomputable def sFF_R (q : Rw) (TL : List Blk) (y : Nat) (a : ActD) (iv ev fv : Value) (op old : Int) (v mp tv : Value) (e : Int) (b : Bool) (X : List I) (ns : Nat → Sy.Let) : Sy.Res (Value × List Blk) :=
 let z0 := acqF (ActD.mode a) = false
 let z1 := Value.slice (slP v) (Sy.lenS v) (slC v)
 let z2 := X.append []
 let z3 := [I.mk op 25 29 24 0 0]
 let z4 := lv0 [ns 2]
 let z5 := Value.slice (slP z4) (Sy.lenS z4) (slC z4)
 let z6 := X.append z3
 let z7 := [I.mk 21 old 0 0 1 0]
 let z8 := lv0 [ns 4]
 let z9 := Value.slice (slP z8) (Sy.lenS z8) (slC z8)
 let z10 := X.append [I.mk op 25 29 24 0 0, I.mk 21 old 0 0 1 0]
 let z11 := [I.mk 6 (ActD.dst a) 31 old 0 0]
 let z12 := lv0 [ns 6]
 let z13 := z10.append z11
 need z0 (hyp True (need (relF (ActD.mode a) = false) (hyp True (need (q.2 z1 z2 ∧ z3 ≠ [] ∧ List.length z2 + (1 : Nat) ≤ 2000000) (need (List.Perm TL ((List.map Sy.ownOf (q.1 z1 z2)).append [])) (hyp (q.2 z4 (z2.append z3)) (need z0 (hyp True (need (q.2 z5 z6 ∧ z7 ≠ [] ∧ List.length z6 + (1 : Nat) ≤ 2000000) (need (List.Perm (List.map Sy.ownOf (q.1 z4 (z2.append z3))) ((List.map Sy.ownOf (q.1 z5 z6)).append [])) (hyp (q.2 z8 (z6.append z7)) (need True (hyp True (need (q.2 z9 z10 ∧ z11 ≠ [] ∧ List.length z10 + (1 : Nat) ≤ 2000000) (need (List.Perm (List.map Sy.ownOf (q.1 z8 (z6.append z7))) ((List.map Sy.ownOf (q.1 z9 z10)).append [])) (hyp (q.2 z12 z13) (leaf (Value.tuple (Array.mk []), Blk.mk y (.obj (.cells (Array.mk [.slice (slP z12) (Sy.lenS z12) (slC z12), mp, tv, .int .i64 e, .bool b]) 132)) true :: List.map Sy.ownOf (q.1 z12 z13)))))))))))))))))))
theorem sFF_run (q : Rw) (TL : List Blk) (y : Nat) (a : ActD) (iv ev fv : Value) (op old : Int) (v mp tv : Value) (e : Int) (b : Bool) (X : List I) : Sy.Ran (Sy.inY Tryz.prog (ctxSg q a.mode false false y mp tv b X) 50 fSingle #[.pointer (some ⟨y, 0, none⟩), actV a iv ev fv, .int .i64 op, .int .i64 24, .int .i64 25, .int .i64 old] (⟨y, layC (slV v) mp tv e b, true⟩ :: TL) 1) sFF_o (sFF_R q TL y a iv ev fv op old v mp tv e b X) := ⟨fun _ => by kernel_rfl, fun _ => by kernel_rfl⟩
def aloneOp (op m : Int) : Int := op + (bif acqF m then 1 else 0) + (bif relF m then 2 else 0)
def sgI (op old : Int) (a : ActD) : List I := [⟨aloneOp op a.mode, 25, 29, 24, 0, 0⟩] ++ nzI a.mode old ++ [⟨6, a.dst, 31, old, 0, 0⟩]
def singleC (q : Rw) (y : Nat) (a : ActD) (iv ev fv : Value) (op old : Int) (v mp tv : Value) (e : Int) (b : Bool) (X : List I) : Sy.CallC :=
 ⟨fSingle, #[.pointer (some ⟨y, 0, none⟩), actV a iv ev fv, .int .i64 op, .int .i64 24, .int .i64 25, .int .i64 old], (q.V v X ∧ X.length + 6 ≤ 2000000) ∧ 0 ≤ op ∧ op ≤ 1000, ⟨[], (y, layC (slV v) mp tv e b) :: q.B v X, 1, []⟩, [putO q y mp tv e b (X ++ sgI op old a)]⟩
theorem add_small {k j : Int} (h : 0 ≤ k) (h' : k ≤ 2000) (hj : 0 ≤ j) (hj' : j ≤ 1000) : Ex.wrapQ .i64 (Ex.addQ k j) = k + j := by
 rw [Ex.wrapQ_eq, Ex.addQ_eq]
 simp [IntKind.wrap, IntKind.signed, IntKind.bits]
 omega
theorem singleC_met (y : Nat) (a : ActD) (iv ev fv : Value) (op old : Int) (v mp tv : Value) (e : Int) (b : Bool) (X : List I) : Sy.Meets Tryz.prog (singleC rowQ y a iv ev fv op old v mp tv e b X) := by
 have hE : Sy.Ent (Sy.blks (singleC rowQ y a iv ev fv op old v mp tv e b X).mem) (⟨y, layC (slV v) mp tv e b, true⟩ :: (rowB v X).map Sy.ownOf) := by
  show Sy.Ent (_ ++ []) _
  rw [List.append_nil]
  exact Sy.Ent.refl _
 cases hm : acqF a.mode <;> cases hr : relF a.mode
 ·refine Sy.meets_ofY (k := 1) (ctxSg_holds a.mode false false y mp tv b X) mixed hE (sFF_run rowQ ((rowB v X).map Sy.ownOf) y a iv ev fv op old v mp tv e b X) fun hok ns => ?_
  obtain ⟨⟨h1, h2⟩, o1, o2⟩ := hok
  simp only [sFF_R, Sy.Res.holds]
  refine ⟨hm, fun _ => ⟨hr, fun _ => ⟨⟨rowV_of h1 (by simp), by simp, by simp; omega⟩, perm_row _ (by simp), fun k1 => ⟨hm, fun _ => ?_⟩⟩⟩⟩
  refine ⟨⟨rowV_of k1 (by simp), by simp, by simp; omega⟩, perm_row _ (by simp), fun k2 => ?_⟩
  refine ⟨trivial, fun _ => ⟨⟨rowV_of k2 (by simp), by simp, by simp; omega⟩, perm_row _ (by simp), fun k3 => ?_⟩⟩
  exact lay_fin k3 (Sy.mS _) rfl (by simp [sgI, nzI, aloneOp, hm, hr])
 ·refine Sy.meets_ofY (k := 1) (ctxSg_holds a.mode false true y mp tv b X) mixed hE (sFT_run rowQ ((rowB v X).map Sy.ownOf) y a iv ev fv op old v mp tv e b X) fun hok ns => ?_
  obtain ⟨⟨h1, h2⟩, o1, o2⟩ := hok
  simp only [sFT_R, Sy.Res.holds]
  rw [add_small (k := op) (j := 2) o1 (by omega) (by omega) (by omega)]
  refine ⟨hm, fun _ => ⟨hr, fun _ => ⟨⟨rowV_of h1 (by simp), by simp, by simp; omega⟩, perm_row _ (by simp), fun k1 => ⟨hm, fun _ => ?_⟩⟩⟩⟩
  refine ⟨⟨rowV_of k1 (by simp), by simp, by simp; omega⟩, perm_row _ (by simp), fun k2 => ?_⟩
  refine ⟨trivial, fun _ => ⟨⟨rowV_of k2 (by simp), by simp, by simp; omega⟩, perm_row _ (by simp), fun k3 => ?_⟩⟩
  exact lay_fin k3 (Sy.mS _) rfl (by simp [sgI, nzI, aloneOp, hm, hr])
 ·refine Sy.meets_ofY (k := 1) (ctxSg_holds a.mode true false y mp tv b X) mixed hE (sTF_run rowQ ((rowB v X).map Sy.ownOf) y a iv ev fv op old v mp tv e b X) fun hok ns => ?_
  obtain ⟨⟨h1, h2⟩, o1, o2⟩ := hok
  simp only [sTF_R, Sy.Res.holds]
  rw [add_small (k := op) (j := 1) o1 (by omega) (by omega) (by omega)]
  refine ⟨hm, fun _ => ⟨hr, fun _ => ⟨⟨rowV_of h1 (by simp), by simp, by simp; omega⟩, perm_row _ (by simp), fun k1 => ⟨hm, fun _ => ?_⟩⟩⟩⟩
  refine ⟨trivial, fun _ => ⟨⟨rowV_of k1 (by simp), by simp, by simp; omega⟩, perm_row _ (by simp), fun k3 => ?_⟩⟩
  exact lay_fin k3 (Sy.mS _) rfl (by simp [sgI, nzI, aloneOp, hm, hr])
 ·refine Sy.meets_ofY (k := 1) (ctxSg_holds a.mode true true y mp tv b X) mixed hE (sTT_run rowQ ((rowB v X).map Sy.ownOf) y a iv ev fv op old v mp tv e b X) fun hok ns => ?_
  obtain ⟨⟨h1, h2⟩, o1, o2⟩ := hok
  simp only [sTT_R, Sy.Res.holds]
  rw [add_small (k := op) (j := 1) o1 (by omega) (by omega) (by omega), add_small (k := op + 1) (j := 2) (by omega) (by omega) (by omega) (by omega)]
  refine ⟨hm, fun _ => ⟨hr, fun _ => ⟨⟨rowV_of h1 (by simp), by simp, by simp; omega⟩, perm_row _ (by simp), fun k1 => ⟨hm, fun _ => ?_⟩⟩⟩⟩
  refine ⟨trivial, fun _ => ⟨⟨rowV_of k1 (by simp), by simp, by simp; omega⟩, perm_row _ (by simp), fun k3 => ?_⟩⟩
  exact lay_fin k3 (Sy.mS _) rfl (by simp [sgI, nzI, aloneOp, hm, hr])
open Go Go.RowKit
open Go.Proofs.YtlpcnaeknbmjdaaGreat.Sy (Let Blk HasL)
open Lw (I insCells tI)
abbrev fBranch : FuncId := 107
abbrev fFill : FuncId := 136
abbrev tFn : TypeId := 1
def ctxBr (q : Rw) (y : Nat) (i : I) (v mp tv : Value) (e : Int) (b : Bool) (X : List I) (R : List Blk) : Sy.Ctx :=
 Sy.mkU Sy.S0 [(fPut, fun a _ => putLU q y (Sy.ptrN (Sy.argV a 1)) (Sy.capN (Sy.argV a 1)) v mp tv e b X [i] R)] []
def br0_o : Sy.O := (bz 249 0x100e40010040202041089aeff0004082112d00041e11306c1c096142f38fe39 nil)
noncomputable def br0_R (q : Rw) (TL R : List Blk) (y : Nat) (op rd to : Int) (v mp : Value) (e : Int) (b : Bool) (X : List I) (ns : Nat → Sy.Let) : Sy.Res (Value × List Blk) :=
 let z0 := [I.mk op rd 0 0 0 0]
 let z1 := lv0 [ns 5]
 let z2 := [Value.func (Fn.func 136) (Array.mk []) (Array.mk [Value.pointer (some ⟨(ns 0).n, 0, none⟩), Value.pointer (some ⟨(ns 2).n, 0, none⟩), Value.pointer (some ⟨(ns 3).n, 0, none⟩)])]
 let z3 := Sy.Cont.obj (Obj.cells (Array.mk [.int .i64 op, .int .i64 rd, .int .i64 0, .int .i64 0, .int .i64 0, .int .i64 0]) 49)
 need (q.2 v X ∧ z0 ≠ [] ∧ List.length X + (1 : Nat) ≤ 2000000) (need (List.Perm TL ((List.map Sy.ownOf (q.1 v X)).append R)) (hyp (q.2 z1 (X.append z0)) (hyp (Nat.le 1 (ns 8).n) (leaf (Value.tuple (Array.mk []), Blk.mk (ns 7).n (Sy.Cont.row 1 1 1 (ns 8).n z2) true :: Blk.mk (ns 6).n (.obj (.cells (Array.mk z2) 1)) true :: Blk.mk y (.obj (.cells (Array.mk [.slice (slP z1) (Sy.lenS z1) (slC z1), mp, .slice (some ⟨(ns 7).n, 0, none⟩) 1 (ns 8).n, .int .i64 e, .bool b]) 132)) true :: Blk.mk (ns 4).n z3 true :: Blk.mk (ns 3).n (.obj (.cells (Array.mk [.int .i64 (Int.ofNat (Sy.lenS v))]) 3)) true :: Blk.mk (ns 2).n (.obj (.cells (Array.mk [.int .i64 to]) 3)) true :: Blk.mk (ns 1).n z3 true :: Blk.mk (ns 0).n (.obj (.cells (Array.mk [.pointer (some ⟨y, 0, none⟩)]) 128)) true :: R.append (List.map Sy.ownOf (q.1 z1 (X.append z0))))))))
theorem br0_run (q : Rw) (TL R : List Blk) (y : Nat) (op rd to : Int) (v mp : Value) (e : Int) (b : Bool) (X : List I) : Sy.Ran (Sy.inY Tryz.prog (ctxBr q y ⟨op, rd, 0, 0, 0, 0⟩ v mp (.slice none 0 0) e b X R) 50 fBranch #[.pointer (some ⟨y, 0, none⟩), .agg #[.int .i64 op, .int .i64 rd, .int .i64 0, .int .i64 0, .int .i64 0, .int .i64 0], .int .i64 to] (⟨y, layC (slV v) mp (.slice none 0 0) e b, true⟩ :: TL) 8) br0_o (br0_R q TL R y op rd to v mp e b X) := ⟨fun _ => by kernel_rfl, fun _ => by kernel_rfl⟩
def br1_o : Sy.O := (bz 270 0x201c800200804040821135d02d603c001020844b400107844c1b07012c142f38fe39 nil)
noncomputable def br1_R (q : Rw) (TL R : List Blk) (y g n cap : Nat) (fs : List Value) (op rd to : Int) (v mp : Value) (e : Int) (b : Bool) (X : List I) (ns : Nat → Sy.Let) : Sy.Res (Value × List Blk) :=
 let z0 := [I.mk op rd 0 0 0 0]
 let z1 := lv0 [ns 5]
 let z2 := n + 1
 let z3 := [Value.func (Fn.func 136) (Array.mk []) (Array.mk [Value.pointer (some ⟨(ns 0).n, 0, none⟩), Value.pointer (some ⟨(ns 2).n, 0, none⟩), Value.pointer (some ⟨(ns 3).n, 0, none⟩)])]
 let z4 := Sy.Cont.obj (Obj.cells (Array.mk [.int .i64 op, .int .i64 rd, .int .i64 0, .int .i64 0, .int .i64 0, .int .i64 0]) 49)
 need (q.2 v X ∧ z0 ≠ [] ∧ List.length X + (1 : Nat) ≤ 2000000) (need (List.Perm TL ((List.map Sy.ownOf (q.1 v X)).append R)) (hyp (q.2 z1 (X.append z0)) (need (n + (1 : Nat) ≤ 9223372036854775807) (need (z2 * (8 : Nat) ≤ 140737488355328) (hyp (Nat.le z2 (ns 8).n) (leaf (Value.tuple (Array.mk []), Blk.mk (ns 7).n (Sy.Cont.row 1 1 z2 (ns 8).n (fs.append z3)) true :: Blk.mk (ns 6).n (.obj (.cells (Array.mk z3) 1)) true :: Blk.mk y (.obj (.cells (Array.mk [.slice (slP z1) (Sy.lenS z1) (slC z1), mp, .slice (some ⟨(ns 7).n, 0, none⟩) z2 (ns 8).n, .int .i64 e, .bool b]) 132)) true :: Blk.mk (ns 4).n z4 true :: Blk.mk (ns 3).n (.obj (.cells (Array.mk [.int .i64 (Int.ofNat (Sy.lenS v))]) 3)) true :: Blk.mk (ns 2).n (.obj (.cells (Array.mk [.int .i64 to]) 3)) true :: Blk.mk (ns 1).n z4 true :: Blk.mk (ns 0).n (.obj (.cells (Array.mk [.pointer (some ⟨y, 0, none⟩)]) 128)) true :: R.append (List.map Sy.ownOf (q.1 z1 (X.append z0))))))))))
theorem br1_run (q : Rw) (TL R : List Blk) (y g n cap : Nat) (fs : List Value) (op rd to : Int) (v mp : Value) (e : Int) (b : Bool) (X : List I) : Sy.Ran (Sy.inY Tryz.prog (ctxBr q y ⟨op, rd, 0, 0, 0, 0⟩ v mp (.slice (some ⟨g, 0, none⟩) n cap) e b X R) 50 fBranch #[.pointer (some ⟨y, 0, none⟩), .agg #[.int .i64 op, .int .i64 rd, .int .i64 0, .int .i64 0, .int .i64 0, .int .i64 0], .int .i64 to] (⟨y, layC (slV v) mp (.slice (some ⟨g, 0, none⟩) n cap) e b, true⟩ :: ⟨g, .row tFn 1 n cap fs, true⟩ :: TL) 8) br1_o (br1_R q TL R y g n cap fs op rd to v mp e b X) := ⟨fun _ => by kernel_rfl, fun _ => by kernel_rfl⟩
structure Fl where
 yb : Nat
 tb : Nat
 ab : Nat
 to : Int
 at' : Int
def flV (f : Fl) : Value := .func (.func fFill) #[] #[.pointer (some ⟨f.yb, 0, none⟩), .pointer (some ⟨f.tb, 0, none⟩), .pointer (some ⟨f.ab, 0, none⟩)]
def flB (y : Nat) (f : Fl) : List (Nat × Sy.Cont) := [(f.ab, .obj (.cells #[.int .i64 f.at'] 3 (0, 0))), (f.tb, .obj (.cells #[.int .i64 f.to] 3 (0, 0))), (f.yb, .obj (.cells #[.pointer (some ⟨y, 0, none⟩)] 128 (0, 0)))]
def boxB (y : Nat) : List Fl → List (Nat × Sy.Cont)
 | [] => []
 | f :: fs => boxB y fs ++ flB y f
theorem boxB_snoc (y : Nat) (fs : List Fl) (f : Fl) : boxB y (fs ++ [f]) = flB y f ++ boxB y fs := by
 induction fs with
 | nil => simp [boxB]
 | cons g fs ih => simp [boxB, ih]
def frowB (tv : Value) (fs : List Fl) : List (Nat × Sy.Cont) := match slP tv with
 | some ⟨g, 0, none⟩ => [(g, .row tFn 1 fs.length (slC tv) (fs.map flV))]
 | _ => []
def fillB (y : Nat) (tv : Value) (fs : List Fl) : List (Nat × Sy.Cont) := frowB tv fs ++ boxB y fs
def FillV (tv : Value) (fs : List Fl) : Prop := (fs = [] ∧ slP tv = none ∧ Sy.lenS tv = 0 ∧ slC tv = 0) ∨ (∃ g, slP tv = some ⟨g, 0, none⟩ ∧ Sy.lenS tv = fs.length ∧ fs.length ≤ slC tv ∧ fs ≠ [])
theorem FillV.lit {v : Value} {X : List Fl} (h : FillV v X) : (X = [] ∧ slV v = .slice none 0 0 ∧ frowB v X = []) ∨ ∃ g cap, slV v = .slice (some ⟨g, 0, none⟩) X.length cap ∧ frowB v X = [(g, .row tFn 1 X.length cap (X.map flV))] ∧ X.length ≤ cap ∧ X ≠ [] := by
 rcases h with ⟨h1, h2, h3, h4⟩ | ⟨g, h2, h3, h4, h5⟩
 ·refine .inl ⟨h1, ?_, ?_⟩
  ·rw [slV, h2, h3, h4]
  ·unfold frowB
   rw [h2]
 ·refine .inr ⟨g, slC v, ?_, ?_, h4, h5⟩
  ·rw [slV, h2, h3]
  ·unfold frowB
   rw [h2]
   rfl
theorem fillV_nil : FillV (.slice none 0 0) [] := .inl ⟨rfl, rfl, rfl, rfl⟩
structure Fw where
 B : Nat → Value → List Fl → List (Nat × Sy.Cont)
 V : Value → List Fl → Prop
def fillQ : Fw := ⟨fillB, FillV⟩
def letN (ns : List Let) (i : Nat) : Nat := (ns.getD i Let.none).n
def letW (ns : List Let) (i : Nat) : Value := (ns.getD i Let.none).v
def newF (ns : List Let) (to : Int) (X : List I) : Fl := ⟨letN ns 2, letN ns 3, letN ns 4, to, Int.ofNat X.length⟩
def brO (q : Rw) (w : Fw) (y : Nat) (mp : Value) (e : Int) (b : Bool) (X : List I) (fs : List Fl) (i : I) (to : Int) : Sy.OutM × (List Let → Value) :=
 (⟨fun ns => q.V (letW ns 0) (X ++ [i]) ∧ w.V (letW ns 1) (fs ++ [newF ns to X]), fun ns => [(y, layC (slV (letW ns 0)) mp (slV (letW ns 1)) e b)], fun ns => q.B (letW ns 0) (X ++ [i]) ++ w.B y (letW ns 1) (fs ++ [newF ns to X])⟩, fun _ => .tuple #[])
def brC (q : Rw) (w : Fw) (y : Nat) (v tv mp : Value) (e : Int) (b : Bool) (X : List I) (fs : List Fl) (op rd to : Int) : Sy.CallC :=
 ⟨fBranch, #[.pointer (some ⟨y, 0, none⟩), .agg #[.int .i64 op, .int .i64 rd, .int .i64 0, .int .i64 0, .int .i64 0, .int .i64 0], .int .i64 to], q.V v X ∧ w.V tv fs ∧ X.length + 1 ≤ 2000000 ∧ fs.length ≤ 2000000,
  ⟨[], (y, layC (slV v) mp (slV tv) e b) :: (q.B v X ++ w.B y tv fs), 5, []⟩, [brO q w y mp e b X fs ⟨op, rd, 0, 0, 0, 0⟩ to]⟩
def letO (n : Nat) : Let := ⟨n, 0, false, undef, []⟩
theorem br_leaf {c : Sy.CallC} {y : Nat} {mp : Value} {e : Int} {b : Bool} {X : List I} {fs : List Fl} {i : I} {to : Int} (ho : brO rowQ fillQ y mp e b X fs i to ∈ c.outs) (hm : c.mem.m = 5) {v v0 : Value} {g n cap yb tb ab : Nat} {xs : List Value}
  (hv0 : Sy.lenS v0 = X.length) (hX : RowV v (X ++ [i])) (hn : n = fs.length + 1) (hc : n ≤ cap) (hxs : xs = fs.map flV ++ [.func (.func fFill) #[] #[.pointer (some ⟨yb, 0, none⟩), .pointer (some ⟨tb, 0, none⟩), .pointer (some ⟨ab, 0, none⟩)]])
  {p4 p1 p6 : Blk} {BX : List Blk} (hB : BX = (rowB v (X ++ [i])).map Sy.ownOf) : Sy.leafB c (.tuple #[], ⟨g, .row tFn 1 n cap xs, true⟩ :: p6 :: ⟨y, layC (slV v) mp (.slice (some ⟨g, 0, none⟩) n cap) e b, true⟩ :: p4 :: ⟨ab, .obj (.cells #[.int .i64 (Int.ofNat (Sy.lenS v0))] 3 (0, 0)), true⟩ :: ⟨tb, .obj (.cells #[.int .i64 to] 3 (0, 0)), true⟩ :: p1 :: ⟨yb, .obj (.cells #[.pointer (some ⟨y, 0, none⟩)] 128 (0, 0)), true⟩ :: ((boxB y fs).map Sy.ownOf ++ BX)) := by
 subst hB
 have hne : fs ++ [newF [letV v, letV (.slice (some ⟨g, 0, none⟩) n cap), letO yb, letO tb, letO ab] to X] ≠ [] := by simp
 refine ⟨_, ho, [letV v, letV (.slice (some ⟨g, 0, none⟩) n cap), letO yb, letO tb, letO ab], hm.symm, rfl, ?_, hX, .inr ⟨g, rfl, ?_, ?_, hne⟩⟩
 ·rw [hv0]
  have e1 : ∀ F : Fl, flV F = .func (.func fFill) #[] #[.pointer (some ⟨yb, 0, none⟩), .pointer (some ⟨tb, 0, none⟩), .pointer (some ⟨ab, 0, none⟩)] → frowB (.slice (some ⟨g, 0, none⟩) n cap) (fs ++ [F]) = [(g, .row tFn 1 n cap xs)] := fun F hF => by
   show [(g, Sy.Cont.row tFn 1 _ cap _)] = _
   rw [hxs, hn, List.map_append, List.length_append]
   show [(g, Sy.Cont.row tFn 1 _ cap (List.map flV fs ++ [flV F]))] = _
   rw [hF]
   rfl
  have key : ∀ F : Fl, flV F = .func (.func fFill) #[] #[.pointer (some ⟨yb, 0, none⟩), .pointer (some ⟨tb, 0, none⟩), .pointer (some ⟨ab, 0, none⟩)] → flB y F = [(ab, .obj (.cells #[.int .i64 (Int.ofNat X.length)] 3 (0, 0))), (tb, .obj (.cells #[.int .i64 to] 3 (0, 0))), (yb, .obj (.cells #[.pointer (some ⟨y, 0, none⟩)] 128 (0, 0)))] →
    Sy.Ent (⟨g, .row tFn 1 n cap xs, true⟩ :: p6 :: ⟨y, layC (slV v) mp (.slice (some ⟨g, 0, none⟩) n cap) e b, true⟩ :: p4 :: ⟨ab, .obj (.cells #[.int .i64 (Int.ofNat X.length)] 3 (0, 0)), true⟩ :: ⟨tb, .obj (.cells #[.int .i64 to] 3 (0, 0)), true⟩ :: p1 :: ⟨yb, .obj (.cells #[.pointer (some ⟨y, 0, none⟩)] 128 (0, 0)), true⟩ :: ((boxB y fs).map Sy.ownOf ++ (rowB v (X ++ [i])).map Sy.ownOf))
     (⟨y, layC (slV v) mp (.slice (some ⟨g, 0, none⟩) n cap) e b, true⟩ :: (rowB v (X ++ [i]) ++ (frowB (.slice (some ⟨g, 0, none⟩) n cap) (fs ++ [F]) ++ boxB y (fs ++ [F]))).map Sy.ownOf) := fun F hF hB => by
   rw [boxB_snoc, e1 F hF, hB, List.map_append, List.map_append, List.map_append]
   generalize (rowB v (X ++ [i])).map Sy.ownOf = Q
   generalize (boxB y fs).map Sy.ownOf = Z
   refine Sy.Ent.trans (Sy.Ent.sub (.cons_cons _ (.cons _ (.cons_cons _ (.cons _ (.cons_cons _ (.cons_cons _ (.cons _ (.cons_cons _ (.refl _))))))))) ) (Sy.Ent.perm ((List.Perm.swap _ _ _).trans (List.Perm.cons _ ?_)))
   exact List.perm_append_comm (l₁ := _ :: _ :: _ :: _ :: Z) (l₂ := Q)
  exact key _ rfl rfl
 ·show n = (fs ++ [_]).length
  simp [hn]
 ·show (fs ++ [_]).length ≤ cap
  simp only [List.length_append, List.length_singleton]
  omega
theorem brC_met (y : Nat) (v tv mp : Value) (e : Int) (b : Bool) (X : List I) (fs : List Fl) (op rd to : Int) : Sy.Meets Tryz.prog (brC rowQ fillQ y v tv mp e b X fs op rd to) := fun hok => by
 obtain ⟨hX, hF, h1, h2⟩ := id hok
 rcases hF.lit with ⟨rfl, k1, k2⟩ | ⟨g, cap, k1, k2, hc, hne⟩
 ·have hS : (ctxBr rowQ y ⟨op, rd, 0, 0, 0, 0⟩ v mp (.slice none 0 0) e b X []).holds Tryz.prog := Sy.mkU_holds Sy.S0_holds (fun p hp a L => by
   rcases List.mem_singleton.1 hp with rfl
   exact putL_met _ _ _ _ _ _ _ _ _ _) (fun _ h => (by cases h))
  refine Sy.meets_ofY (k := 8) (c := brC rowQ fillQ y v tv mp e b X [] op rd to) hS mixed (L := ⟨y, layC (slV v) mp (.slice none 0 0) e b, true⟩ :: (rowB v X).map Sy.ownOf) ?_ (br0_run rowQ ((rowB v X).map Sy.ownOf) [] y op rd to v mp e b X) (fun _ ns => ?_) hok
  ·show Sy.Ent (⟨y, layC (slV v) mp (slV tv) e b, true⟩ :: ((rowB v X ++ (frowB tv [] ++ [])).map Sy.ownOf ++ [])) _
   rw [k1, k2, List.append_nil, List.append_nil, List.append_nil]
   exact Sy.Ent.refl _
  ·simp only [br0_R, Sy.Res.holds]
   refine ⟨⟨hX, by simp, h1⟩, List.Perm.of_eq (List.append_nil _).symm, fun m1 => ?_⟩
   refine fun hcap => br_leaf (fs := []) (Sy.mS _) rfl hX.len m1 rfl hcap rfl rfl
 ·have hS : (ctxBr rowQ y ⟨op, rd, 0, 0, 0, 0⟩ v mp (.slice (some ⟨g, 0, none⟩) fs.length cap) e b X ((boxB y fs).map Sy.ownOf)).holds Tryz.prog := Sy.mkU_holds Sy.S0_holds (fun p hp a L => by
   rcases List.mem_singleton.1 hp with rfl
   exact putL_met _ _ _ _ _ _ _ _ _ _) (fun _ h => (by cases h))
  refine Sy.meets_ofY (k := 8) (c := brC rowQ fillQ y v tv mp e b X fs op rd to) hS mixed (L := ⟨y, layC (slV v) mp (.slice (some ⟨g, 0, none⟩) fs.length cap) e b, true⟩ :: ⟨g, .row tFn 1 fs.length cap (fs.map flV), true⟩ :: ((rowB v X).map Sy.ownOf ++ (boxB y fs).map Sy.ownOf)) ?_ (br1_run rowQ ((rowB v X).map Sy.ownOf ++ (boxB y fs).map Sy.ownOf) ((boxB y fs).map Sy.ownOf) y g fs.length cap (fs.map flV) op rd to v mp e b X) (fun _ ns => ?_) hok
  ·show Sy.Ent (⟨y, layC (slV v) mp (slV tv) e b, true⟩ :: ((rowB v X ++ (frowB tv fs ++ boxB y fs)).map Sy.ownOf ++ [])) _
   rw [k1, k2, List.append_nil, List.map_append, List.map_append]
   refine Sy.Ent.perm (List.Perm.cons _ ?_)
   exact List.perm_middle
  ·simp only [br1_R, Sy.Res.holds]
   refine ⟨⟨hX, by simp, h1⟩, List.Perm.refl _, fun m1 => ⟨by omega, by omega, fun hcap => ?_⟩⟩
   exact br_leaf (Sy.mS _) rfl hX.len m1 rfl hcap rfl rfl
open Go Go.RowKit
open Go.Proofs.YtlpcnaeknbmjdaaGreat.Sy (Let Blk HasL)
open Lw (I insCells tI)
abbrev setOp (a : ActD) (n : Int) : ActD := ⟨n, a.dst, a.base, a.size, a.ix, a.e, a.f, a.mode, a.to, a.line, a.col⟩
def xE (X : List I) (a : ActD) : List I := X ++ exprI a.e 0
def xF (X : List I) (a : ActD) : List I := xE X a ++ exprI a.f 1
def xP0 (X : List I) (a : ActD) : List I := X ++ placeI a.base a.size a.ix 0
def xP1 (X : List I) (a : ActD) : List I := xE X a ++ placeI a.base a.size a.ix 1
def xP2 (X : List I) (a : ActD) : List I := xF X a ++ placeI a.base a.size a.ix 2
def Sy.lay1 (y : Nat) (mp tv : Value) (b : Bool) (L : List Blk) : List (Nat × Sy.Cont) := [(y, layC (slV (Sy.vY L)) mp tv (Sy.eY L) b)]
def Sy.exU (q : Rw) (y : Nat) (a : ActD) (ev fv : Value) (Be Bf : List (Nat × Sy.Cont)) (mp tv : Value) (b : Bool) (X : List I) (R : List Blk) (ar : Array Value) (L : List Blk) : Sy.CallU :=
 match Ex.eqQ (Sy.argI ar 2) 0 with
 | true => (exprL q Be y ev a.e 0 (Sy.vY L) mp tv (Sy.eY L) b X).toU (Sy.lay1 y mp tv b L) (q.B (Sy.vY L) X) R
 | false => (exprL q Bf y fv a.f 1 (Sy.vY L) mp tv (Sy.eY L) b (xE X a)).toU (Sy.lay1 y mp tv b L) (q.B (Sy.vY L) (xE X a)) R
def Sy.plU (q : Rw) (y : Nat) (a : ActD) (iv ev fv : Value) (Bi : List (Nat × Sy.Cont)) (mp tv : Value) (b : Bool) (X : List I) (R : List Blk) (ar : Array Value) (L : List Blk) : Sy.CallU :=
 match Ex.eqQ (Sy.argI ar 2) 0 with
 | true => (placeL q Bi y a iv ev fv 0 (Sy.vY L) mp tv (Sy.eY L) b X).toU (Sy.lay1 y mp tv b L) (q.B (Sy.vY L) X) R
 | false => match Ex.eqQ (Sy.argI ar 2) 1 with
   | true => (placeL q Bi y a iv ev fv 1 (Sy.vY L) mp tv (Sy.eY L) b (xE X a)).toU (Sy.lay1 y mp tv b L) (q.B (Sy.vY L) (xE X a)) R
   | false => (placeL q Bi y a iv ev fv 2 (Sy.vY L) mp tv (Sy.eY L) b (xF X a)).toU (Sy.lay1 y mp tv b L) (q.B (Sy.vY L) (xF X a)) R
def Sy.headI (L : List Blk) : List I := match L with
 | ⟨_, .obj (.cells cs _ _), _⟩ :: _ => Sy.parse 8 cs.toList
 | _ => []
def Sy.puU (q : Rw) (y : Nat) (mp tv : Value) (b : Bool) (XP : List I) (R : List Blk) (ar : Array Value) (L : List Blk) : Sy.CallU :=
 (putL q y (Sy.ptrN (Sy.argV ar 1)) (Sy.capN (Sy.argV ar 1)) (Sy.vY L) mp tv (Sy.eY L) b XP (Sy.headI L)).toU (Sy.lay1 y mp tv b L) (q.B (Sy.vY L) XP) R
def Sy.loU (q : Rw) (y : Nat) (m : Int) (mp tv : Value) (b : Bool) (XL : List I) (R : List Blk) (ar : Array Value) (L : List Blk) : Sy.CallU :=
 match Sy.argV ar 2 with
 | .slice (some ⟨s, _, _⟩) _ c => (loopS q y s c m (Sy.argI ar 3) (Sy.vY L) mp tv (Sy.eY L) b XL).toU (Sy.lay1 y mp tv b L) (q.B (Sy.vY L) XL) R
 | _ => (loopC q y m (Sy.argI ar 3) (Sy.vY L) mp tv (Sy.eY L) b XL).toU (Sy.lay1 y mp tv b L) (q.B (Sy.vY L) XL) R
def ctxA0 (m : Int) : Sy.Ctx := Sy.mkS [(fMove, fun a _ => mvC (Sy.argI a 0) (Sy.argI a 1)), (fAcc, fun a _ => asC (Sy.argI a 0) (Sy.argI a 1)), (fLd, fun a _ => ldC m (Sy.argI a 1)), (fSt, fun a _ => stC m (Sy.argI a 1))] [] []
def ctxAc (q : Rw) (y : Nat) (a : ActD) (iv ev fv : Value) (Bi Be Bf : List (Nat × Sy.Cont)) (mp tv : Value) (b : Bool) (X XP XL : List I) (R : List Blk) : Sy.Ctx :=
 Sy.mkU (ctxA0 a.mode) [(fExpr, Sy.exU q y a ev fv Be Bf mp tv b X R), (fPlace, Sy.plU q y a iv ev fv Bi mp tv b X R), (fPut, Sy.puU q y mp tv b XP R), (fLoop, Sy.loU q y a.mode mp tv b XL R)] []
def Sy.brU (q : Rw) (w : Fw) (y : Nat) (mp tv : Value) (b : Bool) (XP : List I) (fs : List Fl) (R : List Blk) (op rd to : Int) (L : List Blk) : Sy.CallU :=
 (brC q w y (Sy.vY L) tv mp (Sy.eY L) b XP fs op rd to).toU [(y, layC (slV (Sy.vY L)) mp (slV tv) (Sy.eY L) b)] (q.B (Sy.vY L) XP ++ w.B y tv fs) R
def ctxJp (q : Rw) (w : Fw) (y : Nat) (a : ActD) (ev fv : Value) (Be Bf : List (Nat × Sy.Cont)) (mp tv : Value) (b : Bool) (X XP : List I) (fs : List Fl) (op rd : Int) (R RB : List Blk) : Sy.Ctx :=
 Sy.mkU Sy.S0 [(fExpr, Sy.exU q y a ev fv Be Bf mp (slV tv) b X R), (fBranch, fun _ L => Sy.brU q w y mp tv b XP fs RB op rd a.to L)] []
abbrev fAct : FuncId := 59
def aSet_o : Sy.O := (bz 53 0x116b77daaafffd nil)
noncomputable def aSet_R (q : Rw) (TL R : List Blk) (y : Nat) (a : ActD) (iv ev fv : Value) (Bi Be Bf : List (Nat × Sy.Cont)) (v mp tv : Value) (e : Int) (X XP XL : List I) (ns : Nat → Sy.Let) : Sy.Res (Value × List Blk) :=
 let z0 := Value.slice (slP v) (Sy.lenS v) (slC v)
 let z1 := exprI (ActD.e a) 0
 let z2 := lv0 [ns 1]
 let z3 := Value.slice (slP z2) (Sy.lenS z2) (slC z2)
 let z4 := [I.mk 6 (ActD.dst a) 31 24 0 0]
 let z5 := lv0 [ns 3]
 need (okE Be ev (ActD.e a) 0 ∧ q.2 z0 X ∧ List.length X + List.length z1 ≤ 2000000) (need (List.Perm TL ((List.map Sy.ownOf (q.1 z0 X)).append R)) (need (Sy.GotL R Be) (hyp (q.2 z2 (X.append z1)) (need True (hyp True (need (q.2 z3 XP ∧ z4 ≠ [] ∧ List.length XP + (1 : Nat) ≤ 2000000) (need (List.Perm (R.append (List.map Sy.ownOf (q.1 z2 (X.append z1)))) ((List.map Sy.ownOf (q.1 z3 XP)).append R)) (hyp (q.2 z5 (XP.append z4)) (leaf (Value.tuple (Array.mk []), Blk.mk y (.obj (.cells (Array.mk [.slice (slP z5) (Sy.lenS z5) (slC z5), mp, tv, .int .i64 (fstE e (exprE (ActD.e a) 0)), .bool false]) 132)) true :: R.append (List.map Sy.ownOf (q.1 z5 (XP.append z4)))))))))))))
theorem aSet_run (q : Rw) (TL R : List Blk) (y : Nat) (a : ActD) (iv ev fv : Value) (Bi Be Bf : List (Nat × Sy.Cont)) (v mp tv : Value) (e : Int) (X XP XL : List I) : Sy.Ran (Sy.inY Tryz.prog (ctxAc q y (setOp a 1) iv ev fv Bi Be Bf mp tv false X XP XL R) 50 fAct #[.pointer (some ⟨y, 0, none⟩), actV (setOp a 1) iv ev fv] (⟨y, layC (slV v) mp tv e false, true⟩ :: TL) 1) aSet_o (aSet_R q TL R y a iv ev fv Bi Be Bf v mp tv e X XP XL) := ⟨fun _ => by kernel_rfl, fun _ => by kernel_rfl⟩
def aLoad_o : Sy.O := (bz 33 0x1b555fffd (fork (bz 109 0x1135adc004d0016bc0040f043cb6 nil) (bz 25 0x116b77d nil)))
noncomputable def aLoad_R (q : Rw) (TL R : List Blk) (y : Nat) (a : ActD) (iv ev fv : Value) (Bi Be Bf : List (Nat × Sy.Cont)) (v mp tv : Value) (e : Int) (X XP XL : List I) (ns : Nat → Sy.Let) : Sy.Res (Value × List Blk) :=
 let z0 := ActD.size a
 let z1 := ActD.ix a
 let z2 := Value.slice (slP v) (Sy.lenS v) (slC v)
 let z3 := placeI (ActD.base a) z0 z1 0
 let z4 := lv0 [ns 1]
 let z5 := Value.slice (slP z4) (Sy.lenS z4) (slC z4)
 let z6 := ActD.dst a
 let z7 := [I.mk 22 z6 29 0 0 0, I.mk 21 z6 0 0 1 0]
 let z8 := List.Perm (R.append (List.map Sy.ownOf (q.1 z4 (X.append z3)))) ((List.map Sy.ownOf (q.1 z5 XP)).append R)
 let z9 := lv0 [ns 3]
 let z10 := Sy.Cont.obj (Obj.cells (Array.mk [.slice (slP z9) (Sy.lenS z9) (slC z9), mp, tv, .int .i64 (fstE e (placeE z0 z1 0)), .bool false]) 132)
 let z11 := [I.mk 24 z6 29 0 0 0]
 let z12 := XP.append z11
 need (okP Bi iv (ActD.base a) z0 z1 0 ∧ q.2 z2 X ∧ List.length X + List.length z3 ≤ 2000000) (need (List.Perm TL ((List.map Sy.ownOf (q.1 z2 X)).append R)) (need (Sy.GotL R Bi) (hyp (q.2 z4 (X.append z3)) (br (Ex.eqQ (ActD.mode a) 1) (need True (hyp True (need (q.2 z5 XP ∧ z7 ≠ [] ∧ List.length XP + (2 : Nat) ≤ 2000000) (need z8 (hyp (q.2 z9 (XP.append z7)) (leaf (Value.tuple (Array.mk []), Blk.mk y z10 true :: R.append (List.map Sy.ownOf (q.1 z9 (XP.append z7)))))))))) (need True (hyp True (need (q.2 z5 XP ∧ z11 ≠ [] ∧ List.length XP + (1 : Nat) ≤ 2000000) (need z8 (hyp (q.2 z9 z12) (leaf (Value.tuple (Array.mk []), Blk.mk y z10 true :: R.append (List.map Sy.ownOf (q.1 z9 z12)))))))))))))
theorem aLoad_run (q : Rw) (TL R : List Blk) (y : Nat) (a : ActD) (iv ev fv : Value) (Bi Be Bf : List (Nat × Sy.Cont)) (v mp tv : Value) (e : Int) (X XP XL : List I) : Sy.Ran (Sy.inY Tryz.prog (ctxAc q y (setOp a 2) iv ev fv Bi Be Bf mp tv false X XP XL R) 50 fAct #[.pointer (some ⟨y, 0, none⟩), actV (setOp a 2) iv ev fv] (⟨y, layC (slV v) mp tv e false, true⟩ :: TL) 1) aLoad_o (aLoad_R q TL R y a iv ev fv Bi Be Bf v mp tv e X XP XL) := ⟨fun _ => by kernel_rfl, fun _ => by kernel_rfl⟩
def aStore_o : Sy.O := (bz 50 0x36aaf6aabfffd (fork (bz 21 0x116b77 nil) (bz 21 0x116b77 nil)))
noncomputable def aStore_R (q : Rw) (TL R : List Blk) (y : Nat) (a : ActD) (iv ev fv : Value) (Bi Be Bf : List (Nat × Sy.Cont)) (v mp tv : Value) (e : Int) (X XP XL : List I) (ns : Nat → Sy.Let) : Sy.Res (Value × List Blk) :=
 let z0 := Value.slice (slP v) (Sy.lenS v) (slC v)
 let z1 := exprI (ActD.e a) 0
 let z2 := lv0 [ns 1]
 let z3 := X.append z1
 let z4 := ActD.size a
 let z5 := ActD.ix a
 let z6 := Value.slice (slP z2) (Sy.lenS z2) (slC z2)
 let z7 := placeI (ActD.base a) z4 z5 1
 let z8 := lv0 [ns 2]
 let z9 := Value.slice (slP z8) (Sy.lenS z8) (slC z8)
 let z10 := [I.mk 23 24 29 0 0 0]
 let z11 := List.Perm (R.append (List.map Sy.ownOf (q.1 z8 (z3.append z7)))) ((List.map Sy.ownOf (q.1 z9 XP)).append R)
 let z12 := lv0 [ns 4]
 let z13 := XP.append z10
 let z14 := Sy.Cont.obj (Obj.cells (Array.mk [.slice (slP z12) (Sy.lenS z12) (slC z12), mp, tv, .int .i64 (fstE (fstE e (exprE (ActD.e a) 0)) (placeE z4 z5 1)), .bool false]) 132)
 let z15 := [I.mk 25 24 29 0 0 0]
 let z16 := XP.append z15
 need (okE Be ev (ActD.e a) 0 ∧ q.2 z0 X ∧ List.length X + List.length z1 ≤ 2000000) (need (List.Perm TL ((List.map Sy.ownOf (q.1 z0 X)).append R)) (need (Sy.GotL R Be) (hyp (q.2 z2 z3) (need (okP Bi iv (ActD.base a) z4 z5 1 ∧ q.2 z6 z3 ∧ List.length z3 + List.length z7 ≤ 2000000) (need (List.Perm (R.append (List.map Sy.ownOf (q.1 z2 z3))) ((List.map Sy.ownOf (q.1 z6 z3)).append R)) (need (Sy.GotL R Bi) (hyp (q.2 z8 (z3.append z7)) (br (Ex.eqQ (ActD.mode a) 1) (need True (hyp True (need (q.2 z9 XP ∧ z10 ≠ [] ∧ List.length XP + (1 : Nat) ≤ 2000000) (need z11 (hyp (q.2 z12 z13) (leaf (Value.tuple (Array.mk []), Blk.mk y z14 true :: R.append (List.map Sy.ownOf (q.1 z12 z13))))))))) (need True (hyp True (need (q.2 z9 XP ∧ z15 ≠ [] ∧ List.length XP + (1 : Nat) ≤ 2000000) (need z11 (hyp (q.2 z12 z16) (leaf (Value.tuple (Array.mk []), Blk.mk y z14 true :: R.append (List.map Sy.ownOf (q.1 z12 z16)))))))))))))))))
theorem aStore_run (q : Rw) (TL R : List Blk) (y : Nat) (a : ActD) (iv ev fv : Value) (Bi Be Bf : List (Nat × Sy.Cont)) (v mp tv : Value) (e : Int) (X XP XL : List I) : Sy.Ran (Sy.inY Tryz.prog (ctxAc q y (setOp a 3) iv ev fv Bi Be Bf mp tv false X XP XL R) 50 fAct #[.pointer (some ⟨y, 0, none⟩), actV (setOp a 3) iv ev fv] (⟨y, layC (slV v) mp tv e false, true⟩ :: TL) 1) aStore_o (aStore_R q TL R y a iv ev fv Bi Be Bf v mp tv e X XP XL) := ⟨fun _ => by kernel_rfl, fun _ => by kernel_rfl⟩
def aXchg_o : Sy.O := (bz 91 0x45addf6d7bdaabdaaaffffd nil)
noncomputable def aXchg_R (q : Rw) (TL R : List Blk) (y : Nat) (a : ActD) (iv ev fv : Value) (Bi Be Bf : List (Nat × Sy.Cont)) (v mp tv : Value) (e : Int) (X XP XL : List I) (ns : Nat → Sy.Let) : Sy.Res (Value × List Blk) :=
 let z0 := Value.slice (slP v) (Sy.lenS v) (slC v)
 let z1 := exprI (ActD.e a) 0
 let z2 := lv0 [ns 1]
 let z3 := X.append z1
 let z4 := ActD.size a
 let z5 := ActD.ix a
 let z6 := Value.slice (slP z2) (Sy.lenS z2) (slC z2)
 let z7 := placeI (ActD.base a) z4 z5 1
 let z8 := lv0 [ns 2]
 let z9 := Value.slice (slP z8) (Sy.lenS z8) (slC z8)
 let z10 := lv0 [ns 3]
 let z11 := XL.append (lpI (ActD.mode a) [] 24)
 let z12 := Value.slice (slP z10) (Sy.lenS z10) (slC z10)
 let z13 := [I.mk 6 (ActD.dst a) 31 25 0 0]
 let z14 := lv0 [ns 5]
 let z15 := XP.append z13
 need (okE Be ev (ActD.e a) 0 ∧ q.2 z0 X ∧ List.length X + List.length z1 ≤ 2000000) (need (List.Perm TL ((List.map Sy.ownOf (q.1 z0 X)).append R)) (need (Sy.GotL R Be) (hyp (q.2 z2 z3) (need (okP Bi iv (ActD.base a) z4 z5 1 ∧ q.2 z6 z3 ∧ List.length z3 + List.length z7 ≤ 2000000) (need (List.Perm (R.append (List.map Sy.ownOf (q.1 z2 z3))) ((List.map Sy.ownOf (q.1 z6 z3)).append R)) (need (Sy.GotL R Bi) (hyp (q.2 z8 (z3.append z7)) (need (q.2 z9 XL ∧ List.length XL + (6 : Nat) ≤ 2000000) (need (List.Perm (R.append (List.map Sy.ownOf (q.1 z8 (z3.append z7)))) ((List.map Sy.ownOf (q.1 z9 XL)).append R)) (hyp (q.2 z10 z11) (need True (hyp True (need (q.2 z12 XP ∧ z13 ≠ [] ∧ List.length XP + (1 : Nat) ≤ 2000000) (need (List.Perm (R.append (List.map Sy.ownOf (q.1 z10 z11))) ((List.map Sy.ownOf (q.1 z12 XP)).append R)) (hyp (q.2 z14 z15) (leaf (Value.tuple (Array.mk []), Blk.mk y (.obj (.cells (Array.mk [.slice (slP z14) (Sy.lenS z14) (slC z14), mp, tv, .int .i64 (fstE (fstE e (exprE (ActD.e a) 0)) (placeE z4 z5 1)), .bool false]) 132)) true :: R.append (List.map Sy.ownOf (q.1 z14 z15)))))))))))))))))))
theorem aXchg_run (q : Rw) (TL R : List Blk) (y : Nat) (a : ActD) (iv ev fv : Value) (Bi Be Bf : List (Nat × Sy.Cont)) (v mp tv : Value) (e : Int) (X XP XL : List I) : Sy.Ran (Sy.inY Tryz.prog (ctxAc q y (setOp a 4) iv ev fv Bi Be Bf mp tv false X XP XL R) 50 fAct #[.pointer (some ⟨y, 0, none⟩), actV (setOp a 4) iv ev fv] (⟨y, layC (slV v) mp tv e false, true⟩ :: TL) 1) aXchg_o (aXchg_R q TL R y a iv ev fv Bi Be Bf v mp tv e X XP XL) := ⟨fun _ => by kernel_rfl, fun _ => by kernel_rfl⟩
def aFadd_o : Sy.O := (bz 97 0x10b2ddf36b7bdaabdaaaffffd nil)
noncomputable def aFadd_R (q : Rw) (TL R : List Blk) (y : Nat) (a : ActD) (iv ev fv : Value) (Bi Be Bf : List (Nat × Sy.Cont)) (v mp tv : Value) (e : Int) (X XP XL : List I) (ns : Nat → Sy.Let) : Sy.Res (Value × List Blk) :=
 let z0 := Value.slice (slP v) (Sy.lenS v) (slC v)
 let z1 := exprI (ActD.e a) 0
 let z2 := lv0 [ns 1]
 let z3 := X.append z1
 let z4 := ActD.size a
 let z5 := ActD.ix a
 let z6 := Value.slice (slP z2) (Sy.lenS z2) (slC z2)
 let z7 := placeI (ActD.base a) z4 z5 1
 let z8 := lv0 [ns 2]
 let z9 := Value.slice (slP z8) (Sy.lenS z8) (slC z8)
 let z10 := lv0 [ns 4]
 let z11 := XL.append (lpI (ActD.mode a) [I.mk 3 26 25 24 0 0] 26)
 let z12 := Value.slice (slP z10) (Sy.lenS z10) (slC z10)
 let z13 := [I.mk 6 (ActD.dst a) 31 25 0 0]
 let z14 := lv0 [ns 6]
 let z15 := XP.append z13
 need (okE Be ev (ActD.e a) 0 ∧ q.2 z0 X ∧ List.length X + List.length z1 ≤ 2000000) (need (List.Perm TL ((List.map Sy.ownOf (q.1 z0 X)).append R)) (need (Sy.GotL R Be) (hyp (q.2 z2 z3) (need (okP Bi iv (ActD.base a) z4 z5 1 ∧ q.2 z6 z3 ∧ List.length z3 + List.length z7 ≤ 2000000) (need (List.Perm (R.append (List.map Sy.ownOf (q.1 z2 z3))) ((List.map Sy.ownOf (q.1 z6 z3)).append R)) (need (Sy.GotL R Bi) (hyp (q.2 z8 (z3.append z7)) (need (q.2 z9 XL ∧ List.length XL + (6 : Nat) ≤ 2000000) (need (List.Perm (R.append (List.map Sy.ownOf (q.1 z8 (z3.append z7)))) ((List.map Sy.ownOf (q.1 z9 XL)).append R)) (hyp (q.2 z10 z11) (need True (hyp True (need (q.2 z12 XP ∧ z13 ≠ [] ∧ List.length XP + (1 : Nat) ≤ 2000000) (need (List.Perm (R.append (List.map Sy.ownOf (q.1 z10 z11))) ((List.map Sy.ownOf (q.1 z12 XP)).append R)) (hyp (q.2 z14 z15) (leaf (Value.tuple (Array.mk []), Blk.mk y (.obj (.cells (Array.mk [.slice (slP z14) (Sy.lenS z14) (slC z14), mp, tv, .int .i64 (fstE (fstE e (exprE (ActD.e a) 0)) (placeE z4 z5 1)), .bool false]) 132)) true :: R.append (List.map Sy.ownOf (q.1 z14 z15)))))))))))))))))))
theorem aFadd_run (q : Rw) (TL R : List Blk) (y : Nat) (a : ActD) (iv ev fv : Value) (Bi Be Bf : List (Nat × Sy.Cont)) (v mp tv : Value) (e : Int) (X XP XL : List I) : Sy.Ran (Sy.inY Tryz.prog (ctxAc q y (setOp a 5) iv ev fv Bi Be Bf mp tv false X XP XL R) 50 fAct #[.pointer (some ⟨y, 0, none⟩), actV (setOp a 5) iv ev fv] (⟨y, layC (slV v) mp tv e false, true⟩ :: TL) 1) aFadd_o (aFadd_R q TL R y a iv ev fv Bi Be Bf v mp tv e X XP XL) := ⟨fun _ => by kernel_rfl, fun _ => by kernel_rfl⟩
def aCas_o : Sy.O := (bz 292 0x89ad6e00009a0000b5e0000b5e0000b5e0000f00100200f010208796d557b557b555ffffd nil)
noncomputable def aCas_R (q : Rw) (TL R : List Blk) (y : Nat) (a : ActD) (iv ev fv : Value) (Bi Be Bf : List (Nat × Sy.Cont)) (v mp tv : Value) (e : Int) (X XP XL : List I) (ns : Nat → Sy.Let) : Sy.Res (Value × List Blk) :=
 let z0 := Value.slice (slP v) (Sy.lenS v) (slC v)
 let z1 := exprI (ActD.e a) 0
 let z2 := lv0 [ns 1]
 let z3 := X.append z1
 let z4 := Value.slice (slP z2) (Sy.lenS z2) (slC z2)
 let z5 := exprI (ActD.f a) 1
 let z6 := lv0 [ns 2]
 let z7 := z3.append z5
 let z8 := ActD.size a
 let z9 := ActD.ix a
 let z10 := Value.slice (slP z6) (Sy.lenS z6) (slC z6)
 let z11 := placeI (ActD.base a) z8 z9 2
 let z12 := lv0 [ns 3]
 let z13 := z7.append z11
 let z14 := Value.slice (slP z12) (Sy.lenS z12) (slC z12)
 let z15 := [I.mk (opL (ActD.mode a)) 26 29 0 0 0, I.mk 16 0 26 24 0 0, I.mk 19 0 0 0 3 1, I.mk (opS (ActD.mode a)) 25 29 30 0 0, I.mk 21 30 0 0 (-4) 0, I.mk 6 (ActD.dst a) 31 26 0 0]
 let z16 := lv0 [ns 5]
 let z17 := XP.append z15
 need (okE Be ev (ActD.e a) 0 ∧ q.2 z0 X ∧ List.length X + List.length z1 ≤ 2000000) (need (List.Perm TL ((List.map Sy.ownOf (q.1 z0 X)).append R)) (need (Sy.GotL R Be) (hyp (q.2 z2 z3) (need (okE Bf fv (ActD.f a) 1 ∧ q.2 z4 z3 ∧ List.length z3 + List.length z5 ≤ 2000000) (need (List.Perm (R.append (List.map Sy.ownOf (q.1 z2 z3))) ((List.map Sy.ownOf (q.1 z4 z3)).append R)) (need (Sy.GotL R Bf) (hyp (q.2 z6 z7) (need (okP Bi iv (ActD.base a) z8 z9 2 ∧ q.2 z10 z7 ∧ List.length z7 + List.length z11 ≤ 2000000) (need (List.Perm (R.append (List.map Sy.ownOf (q.1 z6 z7))) ((List.map Sy.ownOf (q.1 z10 z7)).append R)) (need (Sy.GotL R Bi) (hyp (q.2 z12 z13) (need True (hyp True (need True (hyp True (need True (hyp True (need (q.2 z14 XP ∧ z15 ≠ [] ∧ List.length XP + (6 : Nat) ≤ 2000000) (need (List.Perm (R.append (List.map Sy.ownOf (q.1 z12 z13))) ((List.map Sy.ownOf (q.1 z14 XP)).append R)) (hyp (q.2 z16 z17) (leaf (Value.tuple (Array.mk []), Blk.mk y (.obj (.cells (Array.mk [.slice (slP z16) (Sy.lenS z16) (slC z16), mp, tv, .int .i64 (fstE (fstE (fstE e (exprE (ActD.e a) 0)) (exprE (ActD.f a) 1)) (placeE z8 z9 2)), .bool false]) 132)) true :: R.append (List.map Sy.ownOf (q.1 z16 z17))))))))))))))))))))))))
theorem aCas_run (q : Rw) (TL R : List Blk) (y : Nat) (a : ActD) (iv ev fv : Value) (Bi Be Bf : List (Nat × Sy.Cont)) (v mp tv : Value) (e : Int) (X XP XL : List I) : Sy.Ran (Sy.inY Tryz.prog (ctxAc q y (setOp a 6) iv ev fv Bi Be Bf mp tv false X XP XL R) 50 fAct #[.pointer (some ⟨y, 0, none⟩), actV (setOp a 6) iv ev fv] (⟨y, layC (slV v) mp tv e false, true⟩ :: TL) 1) aCas_o (aCas_R q TL R y a iv ev fv Bi Be Bf v mp tv e X XP XL) := ⟨fun _ => by kernel_rfl, fun _ => by kernel_rfl⟩
def aFence_o : Sy.O := (pack 20 0x20 (fork (bz 17 0x116ab nil) (bz 17 0x116ab nil)))
noncomputable def aFence_R (q : Rw) (TL R : List Blk) (y : Nat) (a : ActD) (iv ev fv : Value) (Bi Be Bf : List (Nat × Sy.Cont)) (v mp tv : Value) (e : Int) (X XP XL : List I) (ns : Nat → Sy.Let) : Sy.Res (Value × List Blk) :=
 let z0 := Value.slice (slP v) (Sy.lenS v) (slC v)
 let z1 := [I.mk 30 0 0 0 0 0]
 let z2 := List.Perm TL ((List.map Sy.ownOf (q.1 z0 XP)).append R)
 let z3 := lv0 [ns 2]
 let z4 := Sy.Cont.obj (Obj.cells (Array.mk [.slice (slP z3) (Sy.lenS z3) (slC z3), mp, tv, .int .i64 e, .bool false]) 132)
 let z5 := [I.mk 31 0 0 0 0 0]
 br (Ex.eqQ (ActD.mode a) 2) (need (q.2 z0 XP ∧ z1 ≠ [] ∧ List.length XP + (1 : Nat) ≤ 2000000) (need z2 (hyp (q.2 z3 (XP.append z1)) (leaf (Value.tuple (Array.mk []), Blk.mk y z4 true :: R.append (List.map Sy.ownOf (q.1 z3 (XP.append z1)))))))) (need (q.2 z0 XP ∧ z5 ≠ [] ∧ List.length XP + (1 : Nat) ≤ 2000000) (need z2 (hyp (q.2 z3 (XP.append z5)) (leaf (Value.tuple (Array.mk []), Blk.mk y z4 true :: R.append (List.map Sy.ownOf (q.1 z3 (XP.append z5))))))))
theorem aFence_run (q : Rw) (TL R : List Blk) (y : Nat) (a : ActD) (iv ev fv : Value) (Bi Be Bf : List (Nat × Sy.Cont)) (v mp tv : Value) (e : Int) (X XP XL : List I) : Sy.Ran (Sy.inY Tryz.prog (ctxAc q y (setOp a 7) iv ev fv Bi Be Bf mp tv false X XP XL R) 50 fAct #[.pointer (some ⟨y, 0, none⟩), actV (setOp a 7) iv ev fv] (⟨y, layC (slV v) mp tv e false, true⟩ :: TL) 1) aFence_o (aFence_R q TL R y a iv ev fv Bi Be Bf v mp tv e X XP XL) := ⟨fun _ => by kernel_rfl, fun _ => by kernel_rfl⟩
def aPrint_o : Sy.O := (bz 51 0x45add557ffffd nil)
noncomputable def aPrint_R (q : Rw) (TL R : List Blk) (y : Nat) (a : ActD) (iv ev fv : Value) (Bi Be Bf : List (Nat × Sy.Cont)) (v mp tv : Value) (e : Int) (X XP XL : List I) (ns : Nat → Sy.Let) : Sy.Res (Value × List Blk) :=
 let z0 := Value.slice (slP v) (Sy.lenS v) (slC v)
 let z1 := exprI (ActD.e a) 0
 let z2 := lv0 [ns 1]
 let z3 := Value.slice (slP z2) (Sy.lenS z2) (slC z2)
 let z4 := [I.mk 33 0 0 0 24 0]
 let z5 := lv0 [ns 3]
 need (okE Be ev (ActD.e a) 0 ∧ q.2 z0 X ∧ List.length X + List.length z1 ≤ 2000000) (need (List.Perm TL ((List.map Sy.ownOf (q.1 z0 X)).append R)) (need (Sy.GotL R Be) (hyp (q.2 z2 (X.append z1)) (need (q.2 z3 XP ∧ z4 ≠ [] ∧ List.length XP + (1 : Nat) ≤ 2000000) (need (List.Perm (R.append (List.map Sy.ownOf (q.1 z2 (X.append z1)))) ((List.map Sy.ownOf (q.1 z3 XP)).append R)) (hyp (q.2 z5 (XP.append z4)) (leaf (Value.tuple (Array.mk []), Blk.mk y (.obj (.cells (Array.mk [.slice (slP z5) (Sy.lenS z5) (slC z5), mp, tv, .int .i64 (fstE e (exprE (ActD.e a) 0)), .bool false]) 132)) true :: R.append (List.map Sy.ownOf (q.1 z5 (XP.append z4)))))))))))
theorem aPrint_run (q : Rw) (TL R : List Blk) (y : Nat) (a : ActD) (iv ev fv : Value) (Bi Be Bf : List (Nat × Sy.Cont)) (v mp tv : Value) (e : Int) (X XP XL : List I) : Sy.Ran (Sy.inY Tryz.prog (ctxAc q y (setOp a 8) iv ev fv Bi Be Bf mp tv false X XP XL R) 50 fAct #[.pointer (some ⟨y, 0, none⟩), actV (setOp a 8) iv ev fv] (⟨y, layC (slV v) mp tv e false, true⟩ :: TL) 1) aPrint_o (aPrint_R q TL R y a iv ev fv Bi Be Bf v mp tv e X XP XL) := ⟨fun _ => by kernel_rfl, fun _ => by kernel_rfl⟩
def aJump_o : Sy.O := (bz 36 0x96afffffd nil)
noncomputable def aJump_R (q : Rw) (w : Fw) (TL R RB : List Blk) (y : Nat) (a : ActD) (iv ev fv : Value) (Be Bf : List (Nat × Sy.Cont)) (v mp tv : Value) (e : Int) (X XP : List I) (fs : List Fl) (ns : Nat → Sy.Let) : Sy.Res (Value × List Blk) :=
 let z0 := Value.slice (slP v) (Sy.lenS v) (slC v)
 let z1 := [ns 1, ns 2, ns 3, ns 4, ns 5]
 let z2 := letW z1 0
 let z3 := XP.append [I.mk 18 0 0 0 0 0]
 let z4 := letW z1 1
 let z5 := fs.append [newF z1 (ActD.to a) XP]
 need (q.2 z0 XP ∧ w.2 tv fs ∧ List.length XP + (1 : Nat) ≤ 2000000 ∧ List.length fs ≤ 2000000) (need (List.Perm TL (List.append (List.map Sy.ownOf ((q.1 z0 XP).append (w.1 y tv fs))) RB)) (hyp (q.2 z2 z3 ∧ w.2 z4 z5) (leaf (Value.tuple (Array.mk []), Blk.mk y (.obj (.cells (Array.mk [.slice (slP z2) (Sy.lenS z2) (slC z2), mp, .slice (slP z4) (Sy.lenS z4) (slC z4), .int .i64 e, .bool false]) 132)) true :: RB.append (List.map Sy.ownOf ((q.1 z2 z3).append (w.1 y z4 z5)))))))
theorem aJump_run (q : Rw) (w : Fw) (TL R RB : List Blk) (y : Nat) (a : ActD) (iv ev fv : Value) (Be Bf : List (Nat × Sy.Cont)) (v mp tv : Value) (e : Int) (X XP : List I) (fs : List Fl) : Sy.Ran (Sy.inY Tryz.prog (ctxJp q w y (setOp a 9) ev fv Be Bf mp tv false X XP fs 18 0 R RB) 50 fAct #[.pointer (some ⟨y, 0, none⟩), actV (setOp a 9) iv ev fv] (⟨y, layC (slV v) mp (slV tv) e false, true⟩ :: TL) 1) aJump_o (aJump_R q w TL R RB y a iv ev fv Be Bf v mp tv e X XP fs) := ⟨fun _ => by kernel_rfl, fun _ => by kernel_rfl⟩
def aZero_o : Sy.O := (bz 53 0x12d7b555fffffd nil)
noncomputable def aZero_R (q : Rw) (w : Fw) (TL R RB : List Blk) (y : Nat) (a : ActD) (iv ev fv : Value) (Be Bf : List (Nat × Sy.Cont)) (v mp tv : Value) (e : Int) (X XP : List I) (fs : List Fl) (ns : Nat → Sy.Let) : Sy.Res (Value × List Blk) :=
 let z0 := Value.slice (slP v) (Sy.lenS v) (slC v)
 let z1 := exprI (ActD.e a) 0
 let z2 := lv0 [ns 1]
 let z3 := Value.slice (slP z2) (Sy.lenS z2) (slC z2)
 let z4 := [ns 2, ns 3, ns 4, ns 5, ns 6]
 let z5 := letW z4 0
 let z6 := XP.append [I.mk 20 24 0 0 0 0]
 let z7 := letW z4 1
 let z8 := fs.append [newF z4 (ActD.to a) XP]
 need (okE Be ev (ActD.e a) 0 ∧ q.2 z0 X ∧ List.length X + List.length z1 ≤ 2000000) (need (List.Perm TL ((List.map Sy.ownOf (q.1 z0 X)).append R)) (need (Sy.GotL R Be) (hyp (q.2 z2 (X.append z1)) (need (q.2 z3 XP ∧ w.2 tv fs ∧ List.length XP + (1 : Nat) ≤ 2000000 ∧ List.length fs ≤ 2000000) (need (List.Perm (R.append (List.map Sy.ownOf (q.1 z2 (X.append z1)))) (List.append (List.map Sy.ownOf ((q.1 z3 XP).append (w.1 y tv fs))) RB)) (hyp (q.2 z5 z6 ∧ w.2 z7 z8) (leaf (Value.tuple (Array.mk []), Blk.mk y (.obj (.cells (Array.mk [.slice (slP z5) (Sy.lenS z5) (slC z5), mp, .slice (slP z7) (Sy.lenS z7) (slC z7), .int .i64 (fstE e (exprE (ActD.e a) 0)), .bool false]) 132)) true :: RB.append (List.map Sy.ownOf ((q.1 z5 z6).append (w.1 y z7 z8)))))))))))
theorem aZero_run (q : Rw) (w : Fw) (TL R RB : List Blk) (y : Nat) (a : ActD) (iv ev fv : Value) (Be Bf : List (Nat × Sy.Cont)) (v mp tv : Value) (e : Int) (X XP : List I) (fs : List Fl) : Sy.Ran (Sy.inY Tryz.prog (ctxJp q w y (setOp a 10) ev fv Be Bf mp tv false X XP fs 20 24 R RB) 50 fAct #[.pointer (some ⟨y, 0, none⟩), actV (setOp a 10) iv ev fv] (⟨y, layC (slV v) mp (slV tv) e false, true⟩ :: TL) 1) aZero_o (aZero_R q w TL R RB y a iv ev fv Be Bf v mp tv e X XP fs) := ⟨fun _ => by kernel_rfl, fun _ => by kernel_rfl⟩
def tailI (a : ActD) : List I :=
 if a.op = 1 then [⟨6, a.dst, 31, 24, 0, 0⟩]
 else if a.op = 2 then (if a.mode = 1 then [⟨22, a.dst, 29, 0, 0, 0⟩, ⟨21, a.dst, 0, 0, 1, 0⟩] else [⟨24, a.dst, 29, 0, 0, 0⟩])
 else if a.op = 3 then [⟨if a.mode = 1 then 23 else 25, 24, 29, 0, 0, 0⟩]
 else if a.op = 4 then lpI a.mode [] 24 ++ [⟨6, a.dst, 31, 25, 0, 0⟩]
 else if a.op = 5 then lpI a.mode [sumI] 26 ++ [⟨6, a.dst, 31, 25, 0, 0⟩]
 else if a.op = 6 then [⟨opL a.mode, 26, 29, 0, 0, 0⟩, ⟨16, 0, 26, 24, 0, 0⟩, ⟨19, 0, 0, 0, 3, 1⟩, ⟨opS a.mode, 25, 29, 30, 0, 0⟩, ⟨21, 30, 0, 0, -4, 0⟩, ⟨6, a.dst, 31, 26, 0, 0⟩]
 else if a.op = 7 then [⟨if a.mode = 2 then 30 else 31, 0, 0, 0, 0, 0⟩]
 else if a.op = 8 then [⟨33, 0, 0, 0, 24, 0⟩]
 else if a.op = 9 then [⟨18, 0, 0, 0, 0, 0⟩]
 else [⟨20, 24, 0, 0, 0, 0⟩]
def preI (a : ActD) : List I :=
 if a.op = 1 ∨ a.op = 8 ∨ a.op = 10 then exprI a.e 0
 else if a.op = 2 then placeI a.base a.size a.ix 0
 else if a.op = 3 ∨ a.op = 4 ∨ a.op = 5 then exprI a.e 0 ++ placeI a.base a.size a.ix 1
 else if a.op = 6 then exprI a.e 0 ++ exprI a.f 1 ++ placeI a.base a.size a.ix 2
 else []
def actE (e : Int) (a : ActD) : Int :=
 if a.op = 1 ∨ a.op = 8 ∨ a.op = 10 then fstE e (exprE a.e 0)
 else if a.op = 2 then fstE e (placeE a.size a.ix 0)
 else if a.op = 3 ∨ a.op = 4 ∨ a.op = 5 then fstE (fstE e (exprE a.e 0)) (placeE a.size a.ix 1)
 else if a.op = 6 then fstE (fstE (fstE e (exprE a.e 0)) (exprE a.f 1)) (placeE a.size a.ix 2)
 else e
structure OkAct (Bi Be Bf : List (Nat × Sy.Cont)) (a : ActD) (iv ev fv : Value) : Prop where
 op : a.op = 1 ∨ a.op = 2 ∨ a.op = 3 ∨ a.op = 4 ∨ a.op = 5 ∨ a.op = 6 ∨ a.op = 7 ∨ a.op = 8 ∨ a.op = 9 ∨ a.op = 10
 e : a.op ≠ 2 → a.op ≠ 7 → a.op ≠ 9 → okE Be ev a.e 0
 f : a.op = 6 → okE Bf fv a.f 1
 p0 : a.op = 2 → okP Bi iv a.base a.size a.ix 0
 p1 : a.op = 3 ∨ a.op = 4 ∨ a.op = 5 → okP Bi iv a.base a.size a.ix 1
 p2 : a.op = 6 → okP Bi iv a.base a.size a.ix 2
def brF (a : ActD) (ns : List Let) (X : List I) : List Fl := if a.op = 9 ∨ a.op = 10 then [newF ns a.to X] else []
def acO (q : Rw) (w : Fw) (y : Nat) (mp : Value) (e : Int) (b : Bool) (X : List I) (fs : List Fl) (a : ActD) (T : List I) : Sy.OutM × (List Let → Value) :=
 (⟨fun ns => q.V (letW ns 0) (X ++ preI a ++ T) ∧ w.V (letW ns 1) (fs ++ brF a ns (X ++ preI a)), fun ns => [(y, layC (slV (letW ns 0)) mp (slV (letW ns 1)) (actE e a) b)], fun ns => q.B (letW ns 0) (X ++ preI a ++ T) ++ w.B y (letW ns 1) (fs ++ brF a ns (X ++ preI a))⟩, fun _ => .tuple #[])
def actC (q : Rw) (w : Fw) (y : Nat) (a : ActD) (iv ev fv : Value) (Bi Be Bf : List (Nat × Sy.Cont)) (v tv mp : Value) (e : Int) (b : Bool) (X : List I) (fs : List Fl) (T : List I) : Sy.CallC :=
 ⟨fAct, #[.pointer (some ⟨y, 0, none⟩), actV a iv ev fv], OkAct Bi Be Bf a iv ev fv ∧ q.V v X ∧ w.V tv fs ∧ X.length + (preI a).length + 20 ≤ 2000000 ∧ fs.length ≤ 2000000,
  ⟨[], (y, layC (slV v) mp (slV tv) e b) :: (q.B v X ++ w.B y tv fs), 5, Bi ++ (Be ++ Bf)⟩, [acO q w y mp e b X fs a T]⟩
theorem perm_next (v : Value) {X X' : List I} (R : List Blk) (e : X = X') : List.Perm (R ++ (rowB v X).map Sy.ownOf) (((rowB (slV v) X').map Sy.ownOf) ++ R) := by
 subst e
 exact List.perm_append_comm
theorem perm_first (v : Value) {X X' : List I} (R : List Blk) (e : X = X') : List.Perm ((rowB v X).map Sy.ownOf ++ R) (((rowB (slV v) X').map Sy.ownOf) ++ R) := by
 subst e
 exact List.Perm.refl _
theorem act_leaf {c : Sy.CallC} {y : Nat} {mp tv : Value} {e e' : Int} {b : Bool} {X T Z : List I} {fs : List Fl} {a : ActD} {v : Value} {B : List (Nat × Sy.Cont)} (k : RowV v Z) (ho : acO rowQ fillQ y mp e b X fs a T ∈ c.outs) (hm : c.mem.m = 5) (hF : FillV tv fs) (h9 : a.op ≠ 9) (h10 : a.op ≠ 10) (hZ : Z = X ++ preI a ++ T) (he : e' = actE e a) :
  Sy.leafB c (.tuple #[], ⟨y, layC (slV v) mp (slV tv) e' b, true⟩ :: (((fillB y tv fs).map Sy.ownOf ++ rdOf B) ++ (rowB v Z).map Sy.ownOf)) := by
 subst hZ he
 have hb : ∀ ns, fs ++ brF a ns (X ++ preI a) = fs := fun ns => by simp [brF, h9, h10]
 refine ⟨_, ho, [letV v, letV tv, letO 0, letO 0, letO 0], hm.symm, rfl, ?_, k, ?_⟩
 ·show Sy.Ent _ (⟨y, layC (slV v) mp (slV tv) _ b, true⟩ :: (rowB v (X ++ preI a ++ T) ++ fillB y tv (fs ++ brF a _ (X ++ preI a))).map Sy.ownOf)
  rw [hb, List.map_append]
  generalize (rowB v (X ++ preI a ++ T)).map Sy.ownOf = Q
  generalize (fillB y tv fs).map Sy.ownOf = Z
  refine Sy.Ent.trans (Sy.Ent.sub (List.Sublist.cons_cons _ (List.Sublist.append (List.sublist_append_left Z (rdOf B)) (List.Sublist.refl Q)))) (Sy.Ent.perm (List.Perm.cons _ List.perm_append_comm))
 ·show FillV tv (fs ++ brF a _ (X ++ preI a))
  rw [hb]
  exact hF
theorem got_i (F : List Blk) (Bi Be Bf : List (Nat × Sy.Cont)) : Sy.GotL (F ++ rdOf (Bi ++ (Be ++ Bf))) Bi := gotL_of fun _ h => Sy.mR _ (by simp only [rdOf, List.map_append] at h ⊢; exact Sy.mL _ h)
theorem got_e (F : List Blk) (Bi Be Bf : List (Nat × Sy.Cont)) : Sy.GotL (F ++ rdOf (Bi ++ (Be ++ Bf))) Be := gotL_of fun _ h => Sy.mR _ (by simp only [rdOf, List.map_append] at h ⊢; exact Sy.mR _ (Sy.mL _ h))
theorem got_f (F : List Blk) (Bi Be Bf : List (Nat × Sy.Cont)) : Sy.GotL (F ++ rdOf (Bi ++ (Be ++ Bf))) Bf := gotL_of fun _ h => Sy.mR _ (by simp only [rdOf, List.map_append] at h ⊢; exact Sy.mR _ (Sy.mR _ h))
theorem ctxA0_holds (m : Int) : (ctxA0 m).holds Tryz.prog := Sy.mkS_holds (fun p hp a L => by
 rcases List.mem_cons.1 hp with rfl | hp
 ·exact mvC_met _ _
 rcases List.mem_cons.1 hp with rfl | hp
 ·exact asC_met _ _
 rcases List.mem_cons.1 hp with rfl | hp
 ·exact ldC_met _ _
 rcases List.mem_singleton.1 hp with rfl
 exact stC_met _ _) (fun _ h => (by cases h)) (fun _ h => (by cases h))
theorem exU_met (y : Nat) (a : ActD) (ev fv : Value) (Be Bf : List (Nat × Sy.Cont)) (mp tv : Value) (b : Bool) (X : List I) (R : List Blk) (ar : Array Value) (L : List Blk) : Sy.Meets Tryz.prog (Sy.exU rowQ y a ev fv Be Bf mp tv b X R ar L).c := by
 unfold Sy.exU
 split
 ·exact exprL_met _ _ _ _ _ _ _ _ _ _ _
 ·exact exprL_met _ _ _ _ _ _ _ _ _ _ _
theorem ctxAc_holds (y : Nat) (a : ActD) (iv ev fv : Value) (Bi Be Bf : List (Nat × Sy.Cont)) (mp tv : Value) (b : Bool) (X XP XL : List I) (R : List Blk) : (ctxAc rowQ y a iv ev fv Bi Be Bf mp tv b X XP XL R).holds Tryz.prog := Sy.mkU_holds (ctxA0_holds _) (fun p hp ar L => by
 rcases List.mem_cons.1 hp with rfl | hp
 ·exact exU_met _ _ _ _ _ _ _ _ _ _ _ _ _
 rcases List.mem_cons.1 hp with rfl | hp
 ·show Sy.Meets _ (Sy.plU rowQ y a iv ev fv Bi mp tv b X R ar L).c
  unfold Sy.plU
  split
  ·exact placeL_met _ _ _ _ _ _ _ _ _ _ _ _ _
  ·split
   ·exact placeL_met _ _ _ _ _ _ _ _ _ _ _ _ _
   ·exact placeL_met _ _ _ _ _ _ _ _ _ _ _ _ _
 rcases List.mem_cons.1 hp with rfl | hp
 ·exact putL_met _ _ _ _ _ _ _ _ _ _
 rcases List.mem_singleton.1 hp with rfl
 show Sy.Meets _ (Sy.loU rowQ y a.mode mp tv b XL R ar L).c
 unfold Sy.loU
 split
 ·exact loopS_met _ _ _ _ _ _ _ _ _ _ _
 ·exact loopC_met _ _ _ _ _ _ _ _ _) (fun _ h => (by cases h))
theorem act_ent {y : Nat} {a : ActD} {iv ev fv : Value} {Bi Be Bf : List (Nat × Sy.Cont)} {v tv mp : Value} {e : Int} {b : Bool} {X : List I} {fs : List Fl} {T : List I} : Sy.Ent (Sy.blks (actC rowQ fillQ y a iv ev fv Bi Be Bf v tv mp e b X fs T).mem) (⟨y, layC (slV v) mp (slV tv) e b, true⟩ :: ((rowB v X).map Sy.ownOf ++ ((fillB y tv fs).map Sy.ownOf ++ rdOf (Bi ++ (Be ++ Bf))))) := by
 show Sy.Ent (⟨y, layC (slV v) mp (slV tv) e b, true⟩ :: ((rowB v X ++ fillB y tv fs).map Sy.ownOf ++ rdOf (Bi ++ (Be ++ Bf)))) _
 rw [List.map_append, List.append_assoc]
 exact Sy.Ent.refl _
variable (y : Nat) (a : ActD) (iv ev fv : Value) (Bi Be Bf : List (Nat × Sy.Cont)) (v tv mp : Value) (e : Int) (X : List I) (fs : List Fl)
theorem aSet_met : Sy.Meets Tryz.prog (actC rowQ fillQ y (setOp a 1) iv ev fv Bi Be Bf v tv mp e false X fs (tailI (setOp a 1))) := fun hok => by
 obtain ⟨hA, hX, hF, hl, hf⟩ := id hok
 have hp : preI (setOp a 1) = exprI a.e 0 := by simp [preI]
 rw [hp] at hl
 refine Sy.meets_ofY (k := 1) (ctxAc_holds y (setOp a 1) iv ev fv Bi Be Bf mp (slV tv) false X (X ++ exprI a.e 0) ([]) _) mixed act_ent (aSet_run rowQ _ ((fillB y tv fs).map Sy.ownOf ++ rdOf (Bi ++ (Be ++ Bf))) y a iv ev fv Bi Be Bf v mp (slV tv) e X (X ++ exprI a.e 0) ([])) (fun _ ns => ?_) hok
 simp only [aSet_R, Sy.Res.holds]
 refine ⟨⟨(hA.e (by simp) (by simp) (by simp)), hX, by omega⟩, perm_first _ _ rfl, got_e _ _ _ _, fun k1 => ⟨trivial, fun _ => ⟨⟨k1, by simp, by simp; omega⟩, perm_next _ _ rfl, fun k2 => ?_⟩⟩⟩
 exact act_leaf k2 (Sy.mS _) rfl hF (by simp) (by simp) (by simp [hp, tailI]) (by simp [actE])
theorem aPrint_met : Sy.Meets Tryz.prog (actC rowQ fillQ y (setOp a 8) iv ev fv Bi Be Bf v tv mp e false X fs (tailI (setOp a 8))) := fun hok => by
 obtain ⟨hA, hX, hF, hl, hf⟩ := id hok
 have hp : preI (setOp a 8) = exprI a.e 0 := by simp [preI]
 rw [hp] at hl
 refine Sy.meets_ofY (k := 1) (ctxAc_holds y (setOp a 8) iv ev fv Bi Be Bf mp (slV tv) false X (X ++ exprI a.e 0) ([]) _) mixed act_ent (aPrint_run rowQ _ ((fillB y tv fs).map Sy.ownOf ++ rdOf (Bi ++ (Be ++ Bf))) y a iv ev fv Bi Be Bf v mp (slV tv) e X (X ++ exprI a.e 0) ([])) (fun _ ns => ?_) hok
 simp only [aPrint_R, Sy.Res.holds]
 refine ⟨⟨(hA.e (by simp) (by simp) (by simp)), hX, by omega⟩, perm_first _ _ rfl, got_e _ _ _ _, fun k1 => ⟨⟨k1, by simp, by simp; omega⟩, perm_next _ _ rfl, fun k2 => ?_⟩⟩
 exact act_leaf k2 (Sy.mS _) rfl hF (by simp) (by simp) (by simp [hp, tailI]) (by simp [actE])
theorem aFence_met : Sy.Meets Tryz.prog (actC rowQ fillQ y (setOp a 7) iv ev fv Bi Be Bf v tv mp e false X fs (tailI (setOp a 7))) := fun hok => by
 obtain ⟨hA, hX, hF, hl, hf⟩ := id hok
 have hp : preI (setOp a 7) = [] := by simp [preI]
 rw [hp] at hl
 refine Sy.meets_ofY (k := 1) (ctxAc_holds y (setOp a 7) iv ev fv Bi Be Bf mp (slV tv) false X (X) ([]) _) mixed act_ent (aFence_run rowQ _ ((fillB y tv fs).map Sy.ownOf ++ rdOf (Bi ++ (Be ++ Bf))) y a iv ev fv Bi Be Bf v mp (slV tv) e X (X) ([])) (fun _ ns => ?_) hok
 simp only [aFence_R, Sy.Res.holds]
 have hm : ∀ x : Int, Ex.eqQ x 2 = true ↔ x = 2 := fun x => by rw [Ex.eqQ_eq]; simp
 refine ⟨fun h => ⟨⟨hX, by simp, by omega⟩, perm_first _ _ rfl, fun k2 => ?_⟩, fun h => ⟨⟨hX, by simp, by omega⟩, perm_first _ _ rfl, fun k2 => ?_⟩⟩
 ·have h2 : a.mode = 2 := (hm _).1 h
  exact act_leaf k2 (Sy.mS _) rfl hF (by simp) (by simp) (by simp [hp, tailI, h2]) (by simp [actE])
 ·have h2 : a.mode ≠ 2 := fun h2 => by
   have := (hm a.mode).2 h2
   simp_all
  exact act_leaf k2 (Sy.mS _) rfl hF (by simp) (by simp) (by simp [hp, tailI, h2]) (by simp [actE])
theorem aLoad_met : Sy.Meets Tryz.prog (actC rowQ fillQ y (setOp a 2) iv ev fv Bi Be Bf v tv mp e false X fs (tailI (setOp a 2))) := fun hok => by
 obtain ⟨hA, hX, hF, hl, hf⟩ := id hok
 have hp : preI (setOp a 2) = placeI a.base a.size a.ix 0 := by simp [preI]
 rw [hp] at hl
 refine Sy.meets_ofY (k := 1) (ctxAc_holds y (setOp a 2) iv ev fv Bi Be Bf mp (slV tv) false X (X ++ placeI a.base a.size a.ix 0) ([]) _) mixed act_ent (aLoad_run rowQ _ ((fillB y tv fs).map Sy.ownOf ++ rdOf (Bi ++ (Be ++ Bf))) y a iv ev fv Bi Be Bf v mp (slV tv) e X (X ++ placeI a.base a.size a.ix 0) ([])) (fun _ ns => ?_) hok
 simp only [aLoad_R, Sy.Res.holds]
 have hm : ∀ x : Int, Ex.eqQ x 1 = true ↔ x = 1 := fun x => by rw [Ex.eqQ_eq]; simp
 refine ⟨⟨hA.p0 rfl, hX, by omega⟩, perm_first _ _ rfl, got_i _ _ _ _, fun k1 => ⟨fun h => ⟨trivial, fun _ => ⟨⟨k1, by simp, by simp; omega⟩, perm_next _ _ rfl, fun k2 => ?_⟩⟩, fun h => ⟨trivial, fun _ => ⟨⟨k1, by simp, by simp; omega⟩, perm_next _ _ rfl, fun k2 => ?_⟩⟩⟩⟩
 ·have h2 : a.mode = 1 := (hm _).1 h
  exact act_leaf k2 (Sy.mS _) rfl hF (by simp) (by simp) (by simp [hp, tailI, h2]) (by simp [actE])
 ·have h2 : a.mode ≠ 1 := fun h2 => by
   have := (hm a.mode).2 h2
   simp_all
  exact act_leaf k2 (Sy.mS _) rfl hF (by simp) (by simp) (by simp [hp, tailI, h2]) (by simp [actE])
theorem aStore_met : Sy.Meets Tryz.prog (actC rowQ fillQ y (setOp a 3) iv ev fv Bi Be Bf v tv mp e false X fs (tailI (setOp a 3))) := fun hok => by
 obtain ⟨hA, hX, hF, hl, hf⟩ := id hok
 have hp : preI (setOp a 3) = exprI a.e 0 ++ placeI a.base a.size a.ix 1 := by simp [preI]
 rw [hp] at hl
 simp only [List.length_append] at hl
 refine Sy.meets_ofY (k := 1) (ctxAc_holds y (setOp a 3) iv ev fv Bi Be Bf mp (slV tv) false X (X ++ exprI a.e 0 ++ placeI a.base a.size a.ix 1) ([]) _) mixed act_ent (aStore_run rowQ _ ((fillB y tv fs).map Sy.ownOf ++ rdOf (Bi ++ (Be ++ Bf))) y a iv ev fv Bi Be Bf v mp (slV tv) e X (X ++ exprI a.e 0 ++ placeI a.base a.size a.ix 1) ([])) (fun _ ns => ?_) hok
 simp only [aStore_R, Sy.Res.holds]
 have hm : ∀ x : Int, Ex.eqQ x 1 = true ↔ x = 1 := fun x => by rw [Ex.eqQ_eq]; simp
 refine ⟨⟨(hA.e (by simp) (by simp) (by simp)), hX, by omega⟩, perm_first _ _ rfl, got_e _ _ _ _, fun k1 => ⟨⟨hA.p1 (by simp), k1, by simp; omega⟩, perm_next _ _ rfl, got_i _ _ _ _, fun k2 => ?_⟩⟩
 refine ⟨fun h => ⟨trivial, fun _ => ⟨⟨k2, by simp, by simp; omega⟩, perm_next _ _ rfl, fun k3 => ?_⟩⟩, fun h => ⟨trivial, fun _ => ⟨⟨k2, by simp, by simp; omega⟩, perm_next _ _ rfl, fun k3 => ?_⟩⟩⟩
 ·have h2 : a.mode = 1 := (hm _).1 h
  exact act_leaf k3 (Sy.mS _) rfl hF (by simp) (by simp) (by simp [hp, tailI, h2]) (by simp [actE])
 ·have h2 : a.mode ≠ 1 := fun h2 => by
   have := (hm a.mode).2 h2
   simp_all
  exact act_leaf k3 (Sy.mS _) rfl hF (by simp) (by simp) (by simp [hp, tailI, h2]) (by simp [actE])
theorem aXchg_met : Sy.Meets Tryz.prog (actC rowQ fillQ y (setOp a 4) iv ev fv Bi Be Bf v tv mp e false X fs (tailI (setOp a 4))) := fun hok => by
 obtain ⟨hA, hX, hF, hl, hf⟩ := id hok
 have hp : preI (setOp a 4) = exprI a.e 0 ++ placeI a.base a.size a.ix 1 := by simp [preI]
 rw [hp] at hl
 simp only [List.length_append] at hl
 have hlp : ∀ m A s, (lpI m A s).length ≤ 4 + A.length := fun m A s => by
  unfold lpI nzI
  cases acqF m <;> simp <;> omega
 have hlq := hlp a.mode [] 24
 simp only [List.length_cons, List.length_nil] at hlq
 refine Sy.meets_ofY (k := 1) (ctxAc_holds y (setOp a 4) iv ev fv Bi Be Bf mp (slV tv) false X (X ++ exprI a.e 0 ++ placeI a.base a.size a.ix 1 ++ lpI a.mode [] 24) (X ++ exprI a.e 0 ++ placeI a.base a.size a.ix 1) _) mixed act_ent (aXchg_run rowQ _ ((fillB y tv fs).map Sy.ownOf ++ rdOf (Bi ++ (Be ++ Bf))) y a iv ev fv Bi Be Bf v mp (slV tv) e X (X ++ exprI a.e 0 ++ placeI a.base a.size a.ix 1 ++ lpI a.mode [] 24) (X ++ exprI a.e 0 ++ placeI a.base a.size a.ix 1)) (fun _ ns => ?_) hok
 simp only [aXchg_R, Sy.Res.holds]
 refine ⟨⟨(hA.e (by simp) (by simp) (by simp)), hX, by omega⟩, perm_first _ _ rfl, got_e _ _ _ _, fun k1 => ⟨⟨hA.p1 (by simp), k1, by simp; omega⟩, perm_next _ _ rfl, got_i _ _ _ _, fun k2 => ?_⟩⟩
 refine ⟨⟨k2, by simp; omega⟩, perm_next _ _ rfl, fun k3 => ⟨trivial, fun _ => ⟨⟨k3, by simp, by simp; omega⟩, perm_next _ _ rfl, fun k4 => ?_⟩⟩⟩
 exact act_leaf k4 (Sy.mS _) rfl hF (by simp) (by simp) (by simp [hp, tailI]) (by simp [actE])
theorem aFadd_met : Sy.Meets Tryz.prog (actC rowQ fillQ y (setOp a 5) iv ev fv Bi Be Bf v tv mp e false X fs (tailI (setOp a 5))) := fun hok => by
 obtain ⟨hA, hX, hF, hl, hf⟩ := id hok
 have hp : preI (setOp a 5) = exprI a.e 0 ++ placeI a.base a.size a.ix 1 := by simp [preI]
 rw [hp] at hl
 simp only [List.length_append] at hl
 have hlp : ∀ m A s, (lpI m A s).length ≤ 4 + A.length := fun m A s => by
  unfold lpI nzI
  cases acqF m <;> simp <;> omega
 have hlq := hlp a.mode [sumI] 26
 simp only [List.length_cons, List.length_nil] at hlq
 refine Sy.meets_ofY (k := 1) (ctxAc_holds y (setOp a 5) iv ev fv Bi Be Bf mp (slV tv) false X (X ++ exprI a.e 0 ++ placeI a.base a.size a.ix 1 ++ lpI a.mode [sumI] 26) (X ++ exprI a.e 0 ++ placeI a.base a.size a.ix 1) _) mixed act_ent (aFadd_run rowQ _ ((fillB y tv fs).map Sy.ownOf ++ rdOf (Bi ++ (Be ++ Bf))) y a iv ev fv Bi Be Bf v mp (slV tv) e X (X ++ exprI a.e 0 ++ placeI a.base a.size a.ix 1 ++ lpI a.mode [sumI] 26) (X ++ exprI a.e 0 ++ placeI a.base a.size a.ix 1)) (fun _ ns => ?_) hok
 simp only [aFadd_R, Sy.Res.holds]
 refine ⟨⟨(hA.e (by simp) (by simp) (by simp)), hX, by omega⟩, perm_first _ _ rfl, got_e _ _ _ _, fun k1 => ⟨⟨hA.p1 (by simp), k1, by simp; omega⟩, perm_next _ _ rfl, got_i _ _ _ _, fun k2 => ?_⟩⟩
 refine ⟨⟨k2, by simp; omega⟩, perm_next _ _ rfl, fun k3 => ⟨trivial, fun _ => ⟨⟨k3, by simp, by simp; omega⟩, perm_next _ _ rfl, fun k4 => ?_⟩⟩⟩
 exact act_leaf k4 (Sy.mS _) rfl hF (by simp) (by simp) (by simp [hp, tailI]) (by simp [actE])
theorem aCas_met : Sy.Meets Tryz.prog (actC rowQ fillQ y (setOp a 6) iv ev fv Bi Be Bf v tv mp e false X fs (tailI (setOp a 6))) := fun hok => by
 obtain ⟨hA, hX, hF, hl, hf⟩ := id hok
 have hp : preI (setOp a 6) = exprI a.e 0 ++ exprI a.f 1 ++ placeI a.base a.size a.ix 2 := by simp [preI]
 rw [hp] at hl
 simp only [List.length_append] at hl
 refine Sy.meets_ofY (k := 1) (ctxAc_holds y (setOp a 6) iv ev fv Bi Be Bf mp (slV tv) false X (X ++ exprI a.e 0 ++ exprI a.f 1 ++ placeI a.base a.size a.ix 2) ([]) _) mixed act_ent (aCas_run rowQ _ ((fillB y tv fs).map Sy.ownOf ++ rdOf (Bi ++ (Be ++ Bf))) y a iv ev fv Bi Be Bf v mp (slV tv) e X (X ++ exprI a.e 0 ++ exprI a.f 1 ++ placeI a.base a.size a.ix 2) ([])) (fun _ ns => ?_) hok
 simp only [aCas_R, Sy.Res.holds]
 refine ⟨⟨(hA.e (by simp) (by simp) (by simp)), hX, by omega⟩, perm_first _ _ rfl, got_e _ _ _ _, fun k1 => ⟨⟨hA.f rfl, k1, by simp; omega⟩, perm_next _ _ rfl, got_f _ _ _ _, fun k2 => ⟨⟨hA.p2 rfl, k2, by simp; omega⟩, perm_next _ _ rfl, got_i _ _ _ _, fun k3 => ?_⟩⟩⟩
 refine ⟨trivial, fun _ => ⟨trivial, fun _ => ⟨trivial, fun _ => ⟨⟨k3, by simp, by simp; omega⟩, perm_next _ _ rfl, fun k4 => ?_⟩⟩⟩⟩
 exact act_leaf k4 (Sy.mS _) rfl hF (by simp) (by simp) (by simp [hp, tailI]) (by simp [actE])
end Go.Proofs.YtlpcnaeknbmjdaaGreat.Gn
namespace Go.Proofs.YtlpcnaeknbmjdaaGreat.Gn
open Go Go.RowKit
open Go.Proofs.YtlpcnaeknbmjdaaGreat.Sy (Let Blk HasL)
open Lw (I insCells tI)
theorem ctxJp_holds (y : Nat) (a : ActD) (ev fv : Value) (Be Bf : List (Nat × Sy.Cont)) (mp tv : Value) (b : Bool) (X XP : List I) (fs : List Fl) (op rd : Int) (R RB : List Blk) : (ctxJp rowQ fillQ y a ev fv Be Bf mp tv b X XP fs op rd R RB).holds Tryz.prog := Sy.mkU_holds Sy.S0_holds (fun p hp ar L => by
 rcases List.mem_cons.1 hp with rfl | hp
 ·exact exU_met _ _ _ _ _ _ _ _ _ _ _ _ _
 rcases List.mem_singleton.1 hp with rfl
 show Sy.Meets _ (Sy.brU rowQ fillQ y mp tv b XP fs RB op rd a.to L).c
 exact brC_met _ _ _ _ _ _ _ _ _ _ _) (fun _ h => (by cases h))
theorem jmp_leaf {c : Sy.CallC} {y : Nat} {mp : Value} {e e' : Int} {b : Bool} {X T : List I} {fs : List Fl} {a : ActD} {l1 l2 l3 l4 l5 : Let} {i : I} {B : List (Nat × Sy.Cont)} {XP : List I} {RB : List Blk}
  (k : RowV (letW [l1, l2, l3, l4, l5] 0) (XP ++ [i]) ∧ FillV (letW [l1, l2, l3, l4, l5] 1) (fs ++ [newF [l1, l2, l3, l4, l5] a.to XP])) (ho : acO rowQ fillQ y mp e b X fs a T ∈ c.outs) (hm : c.mem.m = 5) (hop : a.op = 9 ∨ a.op = 10) (hT : T = [i]) (hX : XP = X ++ preI a) (he : e' = actE e a) (hR : RB = rdOf B) :
  Sy.leafB c (.tuple #[], ⟨y, layC (slV (letW [l1, l2, l3, l4, l5] 0)) mp (slV (letW [l1, l2, l3, l4, l5] 1)) e' b, true⟩ :: (RB ++ (rowB (letW [l1, l2, l3, l4, l5] 0) (XP ++ [i]) ++ fillB y (letW [l1, l2, l3, l4, l5] 1) (fs ++ [newF [l1, l2, l3, l4, l5] a.to XP])).map Sy.ownOf)) := by
 subst hT hX he hR
 have hb : ∀ ns, brF a ns (X ++ preI a) = [newF ns a.to (X ++ preI a)] := fun ns => by simp [brF, hop]
 refine ⟨_, ho, [l1, l2, l3, l4, l5], hm.symm, rfl, ?_, k.1, ?_⟩
 ·show Sy.Ent _ (⟨y, layC (slV (letW [l1, l2, l3, l4, l5] 0)) mp (slV (letW [l1, l2, l3, l4, l5] 1)) _ b, true⟩ :: (rowB _ (X ++ preI a ++ [i]) ++ fillB y _ (fs ++ brF a _ (X ++ preI a))).map Sy.ownOf)
  rw [hb]
  exact Sy.Ent.sub (List.Sublist.cons_cons _ (List.sublist_append_right _ _))
 ·show FillV _ (fs ++ brF a _ (X ++ preI a))
  rw [hb]
  exact k.2
variable (y : Nat) (a : ActD) (iv ev fv : Value) (Bi Be Bf : List (Nat × Sy.Cont)) (v tv mp : Value) (e : Int) (X : List I) (fs : List Fl)
theorem aJump_met : Sy.Meets Tryz.prog (actC rowQ fillQ y (setOp a 9) iv ev fv Bi Be Bf v tv mp e false X fs (tailI (setOp a 9))) := fun hok => by
 obtain ⟨hA, hX, hF, hl, hf⟩ := id hok
 have hp : preI (setOp a 9) = [] := by simp [preI]
 rw [hp] at hl
 simp only [List.length_nil] at hl
 refine Sy.meets_ofY (k := 1) (ctxJp_holds y (setOp a 9) ev fv Be Bf mp tv false X X fs 18 0 [] _) mixed act_ent (aJump_run rowQ fillQ _ [] (rdOf (Bi ++ (Be ++ Bf))) y a iv ev fv Be Bf v mp tv e X X fs) (fun _ ns => ?_) hok
 simp only [aJump_R, Sy.Res.holds]
 refine ⟨⟨hX, hF, by omega, hf⟩, ?_, fun k => ?_⟩
 ·show List.Perm _ ((rowB v X ++ fillB y tv fs).map Sy.ownOf ++ _)
  rw [List.map_append, List.append_assoc]
 ·exact jmp_leaf (a := setOp a 9) k (Sy.mS _) rfl (.inl rfl) (by simp [tailI]) (by simp [hp]) (by simp [actE]) rfl
theorem aZero_met : Sy.Meets Tryz.prog (actC rowQ fillQ y (setOp a 10) iv ev fv Bi Be Bf v tv mp e false X fs (tailI (setOp a 10))) := fun hok => by
 obtain ⟨hA, hX, hF, hl, hf⟩ := id hok
 have hp : preI (setOp a 10) = exprI a.e 0 := by simp [preI]
 rw [hp] at hl
 refine Sy.meets_ofY (k := 1) (ctxJp_holds y (setOp a 10) ev fv Be Bf mp tv false X (X ++ exprI a.e 0) fs 20 24 _ _) mixed act_ent (aZero_run rowQ fillQ _ ((fillB y tv fs).map Sy.ownOf ++ rdOf (Bi ++ (Be ++ Bf))) (rdOf (Bi ++ (Be ++ Bf))) y a iv ev fv Be Bf v mp tv e X (X ++ exprI a.e 0) fs) (fun _ ns => ?_) hok
 simp only [aZero_R, Sy.Res.holds]
 refine ⟨⟨hA.e (by simp) (by simp) (by simp), hX, by omega⟩, perm_first _ _ rfl, got_e _ _ _ _, fun k1 => ⟨⟨k1, hF, by simp; omega, hf⟩, ?_, fun k => ?_⟩⟩
 ·show List.Perm _ ((rowB (slV _) (X ++ exprI a.e 0) ++ fillB y tv fs).map Sy.ownOf ++ _)
  rw [List.map_append, List.append_assoc]
  exact List.perm_append_comm
 ·exact jmp_leaf (a := setOp a 10) k (Sy.mS _) rfl (.inr rfl) (by simp [tailI]) (by simp [hp]) (by simp [actE]) rfl
theorem act_met : Sy.Meets Tryz.prog (actC rowQ fillQ y a iv ev fv Bi Be Bf v tv mp e false X fs (tailI a)) := fun hok => by
 have key : ∀ k : Int, a.op = k → a = setOp a k := fun k hk => by subst hk; rfl
 rcases hok.1.op with h | h | h | h | h | h | h | h | h | h
 ·have := aSet_met y a iv ev fv Bi Be Bf v tv mp e X fs
  rw [← key _ h] at this
  exact this hok
 ·have := aLoad_met y a iv ev fv Bi Be Bf v tv mp e X fs
  rw [← key _ h] at this
  exact this hok
 ·have := aStore_met y a iv ev fv Bi Be Bf v tv mp e X fs
  rw [← key _ h] at this
  exact this hok
 ·have := aXchg_met y a iv ev fv Bi Be Bf v tv mp e X fs
  rw [← key _ h] at this
  exact this hok
 ·have := aFadd_met y a iv ev fv Bi Be Bf v tv mp e X fs
  rw [← key _ h] at this
  exact this hok
 ·have := aCas_met y a iv ev fv Bi Be Bf v tv mp e X fs
  rw [← key _ h] at this
  exact this hok
 ·have := aFence_met y a iv ev fv Bi Be Bf v tv mp e X fs
  rw [← key _ h] at this
  exact this hok
 ·have := aPrint_met y a iv ev fv Bi Be Bf v tv mp e X fs
  rw [← key _ h] at this
  exact this hok
 ·have := aJump_met y a iv ev fv Bi Be Bf v tv mp e X fs
  rw [← key _ h] at this
  exact this hok
 ·have := aZero_met y a iv ev fv Bi Be Bf v tv mp e X fs
  rw [← key _ h] at this
  exact this hok
end Go.Proofs.YtlpcnaeknbmjdaaGreat.Gn
namespace Go.Proofs.YtlpcnaeknbmjdaaGreat.Gn
open Sy.O (bz fork nil pack step steps)
open Sy.Res (need hyp br leaf both)
open Go Go.RowKit
open Go.Proofs.YtlpcnaeknbmjdaaGreat.Sy (Let Blk HasL)
open Lw (I insCells tI)
def Sy.sgU (q : Rw) (y : Nat) (a : ActD) (iv ev fv : Value) (mp tv : Value) (b : Bool) (XL : List I) (R : List Blk) (ar : Array Value) (L : List Blk) : Sy.CallU :=
 (singleC q y a iv ev fv (Sy.argI ar 2) (Sy.argI ar 5) (Sy.vY L) mp tv (Sy.eY L) b XL).toU (Sy.lay1 y mp tv b L) (q.B (Sy.vY L) XL) R
def ctxAl (q : Rw) (y : Nat) (a : ActD) (iv ev fv : Value) (Bi Be Bf : List (Nat × Sy.Cont)) (mp tv : Value) (b : Bool) (X XP XL : List I) (R : List Blk) : Sy.Ctx :=
 Sy.mkU (ctxA0 a.mode) [(fExpr, Sy.exU q y a ev fv Be Bf mp tv b X R), (fPlace, Sy.plU q y a iv ev fv Bi mp tv b X R), (fPut, Sy.puU q y mp tv b XP R), (fSingle, Sy.sgU q y a iv ev fv mp tv b XL R)] []
def bSet_o : Sy.O := (bz 91 0x42cb77cd294ef7ffffffffd nil)
noncomputable def bSet_R (q : Rw) (TL R : List Blk) (y : Nat) (a : ActD) (iv ev fv : Value) (Bi Be Bf : List (Nat × Sy.Cont)) (v mp tv : Value) (e : Int) (X XP XL : List I) (ns : Nat → Sy.Let) : Sy.Res (Value × List Blk) :=
 let z0 := Value.slice (slP v) (Sy.lenS v) (slC v)
 let z1 := exprI (ActD.e a) 0
 let z2 := lv0 [ns 2]
 let z3 := Value.slice (slP z2) (Sy.lenS z2) (slC z2)
 let z4 := [I.mk 6 (ActD.dst a) 31 24 0 0]
 let z5 := lv0 [ns 4]
 need (okE Be ev (ActD.e a) 0 ∧ q.2 z0 X ∧ List.length X + List.length z1 ≤ 2000000) (need (List.Perm TL ((List.map Sy.ownOf (q.1 z0 X)).append R)) (need (Sy.GotL R Be) (hyp (q.2 z2 (X.append z1)) (need True (hyp True (need (q.2 z3 XP ∧ z4 ≠ [] ∧ List.length XP + (1 : Nat) ≤ 2000000) (need (List.Perm (R.append (List.map Sy.ownOf (q.1 z2 (X.append z1)))) ((List.map Sy.ownOf (q.1 z3 XP)).append R)) (hyp (q.2 z5 (XP.append z4)) (leaf (Value.tuple (Array.mk []), Blk.mk y (.obj (.cells (Array.mk [.slice (slP z5) (Sy.lenS z5) (slC z5), mp, tv, .int .i64 (fstE e (exprE (ActD.e a) 0)), .bool true]) 132)) true :: R.append (List.map Sy.ownOf (q.1 z5 (XP.append z4)))))))))))))
theorem bSet_run (q : Rw) (TL R : List Blk) (y : Nat) (a : ActD) (iv ev fv : Value) (Bi Be Bf : List (Nat × Sy.Cont)) (v mp tv : Value) (e : Int) (X XP XL : List I) : Sy.Ran (Sy.inY Tryz.prog (ctxAl q y (setOp a 1) iv ev fv Bi Be Bf mp tv true X XP XL R) 50 fAct #[.pointer (some ⟨y, 0, none⟩), actV (setOp a 1) iv ev fv] (⟨y, layC (slV v) mp tv e true, true⟩ :: TL) 1) bSet_o (bSet_R q TL R y a iv ev fv Bi Be Bf v mp tv e X XP XL) := ⟨fun _ => by kernel_rfl, fun _ => by kernel_rfl⟩
def bLoad_o : Sy.O := (pack 21 0x20 (fork (bz 47 0x4365bbed294f nil) (bz 49 0x19a529df7ffff (fork (bz 115 0x423596e00234004d780081e087966 nil) (bz 28 0x8596ef9 nil)))))
noncomputable def bLoad_R (q : Rw) (TL R : List Blk) (y : Nat) (a : ActD) (iv ev fv : Value) (Bi Be Bf : List (Nat × Sy.Cont)) (v mp tv : Value) (e : Int) (X XP XL : List I) (ns : Nat → Sy.Let) : Sy.Res (Value × List Blk) :=
 let z0 := ActD.size a
 let z1 := ActD.ix a
 let z2 := Value.slice (slP v) (Sy.lenS v) (slC v)
 let z3 := placeI (ActD.base a) z0 z1 0
 let z4 := okP Bi iv (ActD.base a) z0 z1 0 ∧ q.2 z2 X ∧ List.length X + List.length z3 ≤ 2000000
 let z5 := List.Perm TL ((List.map Sy.ownOf (q.1 z2 X)).append R)
 let z6 := lv0 [ns 2]
 let z7 := q.2 z6 (X.append z3)
 let z8 := Value.slice (slP z6) (Sy.lenS z6) (slC z6)
 let z9 := ActD.dst a
 let z10 := [I.mk 35 z9 29 0 0 0]
 let z11 := List.Perm (R.append (List.map Sy.ownOf (q.1 z6 (X.append z3)))) ((List.map Sy.ownOf (q.1 z8 XP)).append R)
 let z12 := lv0 [ns 4]
 let z13 := XP.append z10
 let z14 := Array.mk []
 let z15 := Sy.Cont.obj (Obj.cells (Array.mk [.slice (slP z12) (Sy.lenS z12) (slC z12), mp, tv, .int .i64 (fstE e (placeE z0 z1 0)), .bool true]) 132)
 let z16 := [I.mk 22 z9 29 0 0 0, I.mk 21 z9 0 0 1 0]
 let z17 := XP.append z16
 let z18 := [I.mk 24 z9 29 0 0 0]
 let z19 := XP.append z18
 br (bif true then Ex.eqQ (ActD.mode a) 2 else false) (need z4 (need z5 (need (Sy.GotL R Bi) (hyp z7 (need True (hyp True (need (q.2 z8 XP ∧ z10 ≠ [] ∧ List.length XP + (1 : Nat) ≤ 2000000) (need z11 (hyp (q.2 z12 z13) (leaf (Value.tuple z14, Blk.mk y z15 true :: R.append (List.map Sy.ownOf (q.1 z12 z13))))))))))))) (need z4 (need z5 (need (Sy.GotL R Bi) (hyp z7 (br (Ex.eqQ (ActD.mode a) 1) (need True (hyp True (need (q.2 z8 XP ∧ z16 ≠ [] ∧ List.length XP + (2 : Nat) ≤ 2000000) (need z11 (hyp (q.2 z12 z17) (leaf (Value.tuple z14, Blk.mk y z15 true :: R.append (List.map Sy.ownOf (q.1 z12 z17))))))))) (need True (hyp True (need (q.2 z8 XP ∧ z18 ≠ [] ∧ List.length XP + (1 : Nat) ≤ 2000000) (need z11 (hyp (q.2 z12 z19) (leaf (Value.tuple z14, Blk.mk y z15 true :: R.append (List.map Sy.ownOf (q.1 z12 z19))))))))))))))
theorem bLoad_run (q : Rw) (TL R : List Blk) (y : Nat) (a : ActD) (iv ev fv : Value) (Bi Be Bf : List (Nat × Sy.Cont)) (v mp tv : Value) (e : Int) (X XP XL : List I) : Sy.Ran (Sy.inY Tryz.prog (ctxAl q y (setOp a 2) iv ev fv Bi Be Bf mp tv true X XP XL R) 50 fAct #[.pointer (some ⟨y, 0, none⟩), actV (setOp a 2) iv ev fv] (⟨y, layC (slV v) mp tv e true, true⟩ :: TL) 1) bLoad_o (bLoad_R q TL R y a iv ev fv Bi Be Bf v mp tv e X XP XL) := ⟨fun _ => by kernel_rfl, fun _ => by kernel_rfl⟩
def bStore_o : Sy.O := (bz 89 0x19a52f34a53bf7ffffffffd (fork (bz 23 0x42cb77 nil) (bz 23 0x42cb77 nil)))
noncomputable def bStore_R (q : Rw) (TL R : List Blk) (y : Nat) (a : ActD) (iv ev fv : Value) (Bi Be Bf : List (Nat × Sy.Cont)) (v mp tv : Value) (e : Int) (X XP XL : List I) (ns : Nat → Sy.Let) : Sy.Res (Value × List Blk) :=
 let z0 := Value.slice (slP v) (Sy.lenS v) (slC v)
 let z1 := exprI (ActD.e a) 0
 let z2 := lv0 [ns 2]
 let z3 := X.append z1
 let z4 := ActD.size a
 let z5 := ActD.ix a
 let z6 := Value.slice (slP z2) (Sy.lenS z2) (slC z2)
 let z7 := placeI (ActD.base a) z4 z5 1
 let z8 := lv0 [ns 3]
 let z9 := Value.slice (slP z8) (Sy.lenS z8) (slC z8)
 let z10 := [I.mk 23 24 29 0 0 0]
 let z11 := List.Perm (R.append (List.map Sy.ownOf (q.1 z8 (z3.append z7)))) ((List.map Sy.ownOf (q.1 z9 XP)).append R)
 let z12 := lv0 [ns 5]
 let z13 := XP.append z10
 let z14 := Sy.Cont.obj (Obj.cells (Array.mk [.slice (slP z12) (Sy.lenS z12) (slC z12), mp, tv, .int .i64 (fstE (fstE e (exprE (ActD.e a) 0)) (placeE z4 z5 1)), .bool true]) 132)
 let z15 := [I.mk 25 24 29 0 0 0]
 let z16 := XP.append z15
 need (okE Be ev (ActD.e a) 0 ∧ q.2 z0 X ∧ List.length X + List.length z1 ≤ 2000000) (need (List.Perm TL ((List.map Sy.ownOf (q.1 z0 X)).append R)) (need (Sy.GotL R Be) (hyp (q.2 z2 z3) (need (okP Bi iv (ActD.base a) z4 z5 1 ∧ q.2 z6 z3 ∧ List.length z3 + List.length z7 ≤ 2000000) (need (List.Perm (R.append (List.map Sy.ownOf (q.1 z2 z3))) ((List.map Sy.ownOf (q.1 z6 z3)).append R)) (need (Sy.GotL R Bi) (hyp (q.2 z8 (z3.append z7)) (br (Ex.eqQ (ActD.mode a) 1) (need True (hyp True (need (q.2 z9 XP ∧ z10 ≠ [] ∧ List.length XP + (1 : Nat) ≤ 2000000) (need z11 (hyp (q.2 z12 z13) (leaf (Value.tuple (Array.mk []), Blk.mk y z14 true :: R.append (List.map Sy.ownOf (q.1 z12 z13))))))))) (need True (hyp True (need (q.2 z9 XP ∧ z15 ≠ [] ∧ List.length XP + (1 : Nat) ≤ 2000000) (need z11 (hyp (q.2 z12 z16) (leaf (Value.tuple (Array.mk []), Blk.mk y z14 true :: R.append (List.map Sy.ownOf (q.1 z12 z16)))))))))))))))))
theorem bStore_run (q : Rw) (TL R : List Blk) (y : Nat) (a : ActD) (iv ev fv : Value) (Bi Be Bf : List (Nat × Sy.Cont)) (v mp tv : Value) (e : Int) (X XP XL : List I) : Sy.Ran (Sy.inY Tryz.prog (ctxAl q y (setOp a 3) iv ev fv Bi Be Bf mp tv true X XP XL R) 50 fAct #[.pointer (some ⟨y, 0, none⟩), actV (setOp a 3) iv ev fv] (⟨y, layC (slV v) mp tv e true, true⟩ :: TL) 1) bStore_o (bStore_R q TL R y a iv ev fv Bi Be Bf v mp tv e X XP XL) := ⟨fun _ => by kernel_rfl, fun _ => by kernel_rfl⟩
def bXchg_o : Sy.O := (bz 91 0x46cbded297b4a53fffffffd nil)
noncomputable def bXchg_R (q : Rw) (TL R : List Blk) (y : Nat) (a : ActD) (iv ev fv : Value) (Bi Be Bf : List (Nat × Sy.Cont)) (v mp tv : Value) (e : Int) (X XP XL : List I) (ns : Nat → Sy.Let) : Sy.Res (Value × List Blk) :=
 let z0 := ActD.e a
 let z1 := Value.slice (slP v) (Sy.lenS v) (slC v)
 let z2 := exprI z0 0
 let z3 := lv0 [ns 2]
 let z4 := X.append z2
 let z5 := ActD.base a
 let z6 := ActD.size a
 let z7 := ActD.ix a
 let z8 := Value.slice (slP z3) (Sy.lenS z3) (slC z3)
 let z9 := placeI z5 z6 z7 1
 let z10 := lv0 [ns 3]
 let z11 := Value.slice (slP z10) (Sy.lenS z10) (slC z10)
 let z12 := lv0 [ns 4]
 let z13 := XL.append (sgI 40 25 (ActD.mk 4 (ActD.dst a) z5 z6 z7 z0 (ActD.f a) (ActD.mode a) (ActD.to a) (ActD.line a) (ActD.col a)))
 need (okE Be ev z0 0 ∧ q.2 z1 X ∧ List.length X + List.length z2 ≤ 2000000) (need (List.Perm TL ((List.map Sy.ownOf (q.1 z1 X)).append R)) (need (Sy.GotL R Be) (hyp (q.2 z3 z4) (need (okP Bi iv z5 z6 z7 1 ∧ q.2 z8 z4 ∧ List.length z4 + List.length z9 ≤ 2000000) (need (List.Perm (R.append (List.map Sy.ownOf (q.1 z3 z4))) ((List.map Sy.ownOf (q.1 z8 z4)).append R)) (need (Sy.GotL R Bi) (hyp (q.2 z10 (z4.append z9)) (need ((q.2 z11 XL ∧ List.length XL + (6 : Nat) ≤ 2000000) ∧ (0 : Int) ≤ 40 ∧ (40 : Int) ≤ 1000) (need (List.Perm (R.append (List.map Sy.ownOf (q.1 z10 (z4.append z9)))) ((List.map Sy.ownOf (q.1 z11 XL)).append R)) (hyp (q.2 z12 z13) (leaf (Value.tuple (Array.mk []), Blk.mk y (.obj (.cells (Array.mk [.slice (slP z12) (Sy.lenS z12) (slC z12), mp, tv, .int .i64 (fstE (fstE e (exprE z0 0)) (placeE z6 z7 1)), .bool true]) 132)) true :: R.append (List.map Sy.ownOf (q.1 z12 z13))))))))))))))
theorem bXchg_run (q : Rw) (TL R : List Blk) (y : Nat) (a : ActD) (iv ev fv : Value) (Bi Be Bf : List (Nat × Sy.Cont)) (v mp tv : Value) (e : Int) (X XP XL : List I) : Sy.Ran (Sy.inY Tryz.prog (ctxAl q y (setOp a 4) iv ev fv Bi Be Bf mp tv true X XP XL R) 50 fAct #[.pointer (some ⟨y, 0, none⟩), actV (setOp a 4) iv ev fv] (⟨y, layC (slV v) mp tv e true, true⟩ :: TL) 1) bXchg_o (bXchg_R q TL R y a iv ev fv Bi Be Bf v mp tv e X XP XL) := ⟨fun _ => by kernel_rfl, fun _ => by kernel_rfl⟩
def bFadd_o : Sy.O := (bz 94 0x2365ef694bda529ffffffffd nil)
noncomputable def bFadd_R (q : Rw) (TL R : List Blk) (y : Nat) (a : ActD) (iv ev fv : Value) (Bi Be Bf : List (Nat × Sy.Cont)) (v mp tv : Value) (e : Int) (X XP XL : List I) (ns : Nat → Sy.Let) : Sy.Res (Value × List Blk) :=
 let z0 := ActD.e a
 let z1 := Value.slice (slP v) (Sy.lenS v) (slC v)
 let z2 := exprI z0 0
 let z3 := lv0 [ns 2]
 let z4 := X.append z2
 let z5 := ActD.base a
 let z6 := ActD.size a
 let z7 := ActD.ix a
 let z8 := Value.slice (slP z3) (Sy.lenS z3) (slC z3)
 let z9 := placeI z5 z6 z7 1
 let z10 := lv0 [ns 3]
 let z11 := Value.slice (slP z10) (Sy.lenS z10) (slC z10)
 let z12 := lv0 [ns 4]
 let z13 := XL.append (sgI 44 25 (ActD.mk 5 (ActD.dst a) z5 z6 z7 z0 (ActD.f a) (ActD.mode a) (ActD.to a) (ActD.line a) (ActD.col a)))
 need (okE Be ev z0 0 ∧ q.2 z1 X ∧ List.length X + List.length z2 ≤ 2000000) (need (List.Perm TL ((List.map Sy.ownOf (q.1 z1 X)).append R)) (need (Sy.GotL R Be) (hyp (q.2 z3 z4) (need (okP Bi iv z5 z6 z7 1 ∧ q.2 z8 z4 ∧ List.length z4 + List.length z9 ≤ 2000000) (need (List.Perm (R.append (List.map Sy.ownOf (q.1 z3 z4))) ((List.map Sy.ownOf (q.1 z8 z4)).append R)) (need (Sy.GotL R Bi) (hyp (q.2 z10 (z4.append z9)) (need ((q.2 z11 XL ∧ List.length XL + (6 : Nat) ≤ 2000000) ∧ (0 : Int) ≤ 44 ∧ (44 : Int) ≤ 1000) (need (List.Perm (R.append (List.map Sy.ownOf (q.1 z10 (z4.append z9)))) ((List.map Sy.ownOf (q.1 z11 XL)).append R)) (hyp (q.2 z12 z13) (leaf (Value.tuple (Array.mk []), Blk.mk y (.obj (.cells (Array.mk [.slice (slP z12) (Sy.lenS z12) (slC z12), mp, tv, .int .i64 (fstE (fstE e (exprE z0 0)) (placeE z6 z7 1)), .bool true]) 132)) true :: R.append (List.map Sy.ownOf (q.1 z12 z13))))))))))))))
theorem bFadd_run (q : Rw) (TL R : List Blk) (y : Nat) (a : ActD) (iv ev fv : Value) (Bi Be Bf : List (Nat × Sy.Cont)) (v mp tv : Value) (e : Int) (X XP XL : List I) : Sy.Ran (Sy.inY Tryz.prog (ctxAl q y (setOp a 5) iv ev fv Bi Be Bf mp tv true X XP XL R) 50 fAct #[.pointer (some ⟨y, 0, none⟩), actV (setOp a 5) iv ev fv] (⟨y, layC (slV v) mp tv e true, true⟩ :: TL) 1) bFadd_o (bFadd_R q TL R y a iv ev fv Bi Be Bf v mp tv e X XP XL) := ⟨fun _ => by kernel_rfl, fun _ => by kernel_rfl⟩
def bCas_o : Sy.O := (bz 111 0x46cbda52f694bda529fffffffffd nil)
noncomputable def bCas_R (q : Rw) (TL R : List Blk) (y : Nat) (a : ActD) (iv ev fv : Value) (Bi Be Bf : List (Nat × Sy.Cont)) (v mp tv : Value) (e : Int) (X XP XL : List I) (ns : Nat → Sy.Let) : Sy.Res (Value × List Blk) :=
 let z0 := ActD.e a
 let z1 := Value.slice (slP v) (Sy.lenS v) (slC v)
 let z2 := exprI z0 0
 let z3 := lv0 [ns 2]
 let z4 := X.append z2
 let z5 := ActD.f a
 let z6 := Value.slice (slP z3) (Sy.lenS z3) (slC z3)
 let z7 := exprI z5 1
 let z8 := lv0 [ns 3]
 let z9 := z4.append z7
 let z10 := ActD.base a
 let z11 := ActD.size a
 let z12 := ActD.ix a
 let z13 := Value.slice (slP z8) (Sy.lenS z8) (slC z8)
 let z14 := placeI z10 z11 z12 2
 let z15 := lv0 [ns 4]
 let z16 := z9.append z14
 let z17 := Value.slice (slP z15) (Sy.lenS z15) (slC z15)
 let z18 := lv0 [ns 5]
 let z19 := XL.append (sgI 36 24 (ActD.mk 6 (ActD.dst a) z10 z11 z12 z0 z5 (ActD.mode a) (ActD.to a) (ActD.line a) (ActD.col a)))
 need (okE Be ev z0 0 ∧ q.2 z1 X ∧ List.length X + List.length z2 ≤ 2000000) (need (List.Perm TL ((List.map Sy.ownOf (q.1 z1 X)).append R)) (need (Sy.GotL R Be) (hyp (q.2 z3 z4) (need (okE Bf fv z5 1 ∧ q.2 z6 z4 ∧ List.length z4 + List.length z7 ≤ 2000000) (need (List.Perm (R.append (List.map Sy.ownOf (q.1 z3 z4))) ((List.map Sy.ownOf (q.1 z6 z4)).append R)) (need (Sy.GotL R Bf) (hyp (q.2 z8 z9) (need (okP Bi iv z10 z11 z12 2 ∧ q.2 z13 z9 ∧ List.length z9 + List.length z14 ≤ 2000000) (need (List.Perm (R.append (List.map Sy.ownOf (q.1 z8 z9))) ((List.map Sy.ownOf (q.1 z13 z9)).append R)) (need (Sy.GotL R Bi) (hyp (q.2 z15 z16) (need ((q.2 z17 XL ∧ List.length XL + (6 : Nat) ≤ 2000000) ∧ (0 : Int) ≤ 36 ∧ (36 : Int) ≤ 1000) (need (List.Perm (R.append (List.map Sy.ownOf (q.1 z15 z16))) ((List.map Sy.ownOf (q.1 z17 XL)).append R)) (hyp (q.2 z18 z19) (leaf (Value.tuple (Array.mk []), Blk.mk y (.obj (.cells (Array.mk [.slice (slP z18) (Sy.lenS z18) (slC z18), mp, tv, .int .i64 (fstE (fstE (fstE e (exprE z0 0)) (exprE z5 1)) (placeE z11 z12 2)), .bool true]) 132)) true :: R.append (List.map Sy.ownOf (q.1 z18 z19))))))))))))))))))
theorem bCas_run (q : Rw) (TL R : List Blk) (y : Nat) (a : ActD) (iv ev fv : Value) (Bi Be Bf : List (Nat × Sy.Cont)) (v mp tv : Value) (e : Int) (X XP XL : List I) : Sy.Ran (Sy.inY Tryz.prog (ctxAl q y (setOp a 6) iv ev fv Bi Be Bf mp tv true X XP XL R) 50 fAct #[.pointer (some ⟨y, 0, none⟩), actV (setOp a 6) iv ev fv] (⟨y, layC (slV v) mp tv e true, true⟩ :: TL) 1) bCas_o (bCas_R q TL R y a iv ev fv Bi Be Bf v mp tv e X XP XL) := ⟨fun _ => by kernel_rfl, fun _ => by kernel_rfl⟩
def bFence_o : Sy.O := (bz 53 0x1bff7ffffffffd (fork (bz 20 0x8594b nil) (bz 20 0x8594b nil)))
noncomputable def bFence_R (q : Rw) (TL R : List Blk) (y : Nat) (a : ActD) (iv ev fv : Value) (Bi Be Bf : List (Nat × Sy.Cont)) (v mp tv : Value) (e : Int) (X XP XL : List I) (ns : Nat → Sy.Let) : Sy.Res (Value × List Blk) :=
 let z0 := Value.slice (slP v) (Sy.lenS v) (slC v)
 let z1 := [I.mk 30 0 0 0 0 0]
 let z2 := List.Perm TL ((List.map Sy.ownOf (q.1 z0 XP)).append R)
 let z3 := lv0 [ns 3]
 let z4 := Sy.Cont.obj (Obj.cells (Array.mk [.slice (slP z3) (Sy.lenS z3) (slC z3), mp, tv, .int .i64 e, .bool true]) 132)
 let z5 := [I.mk 31 0 0 0 0 0]
 br (Ex.eqQ (ActD.mode a) 2) (need (q.2 z0 XP ∧ z1 ≠ [] ∧ List.length XP + (1 : Nat) ≤ 2000000) (need z2 (hyp (q.2 z3 (XP.append z1)) (leaf (Value.tuple (Array.mk []), Blk.mk y z4 true :: R.append (List.map Sy.ownOf (q.1 z3 (XP.append z1)))))))) (need (q.2 z0 XP ∧ z5 ≠ [] ∧ List.length XP + (1 : Nat) ≤ 2000000) (need z2 (hyp (q.2 z3 (XP.append z5)) (leaf (Value.tuple (Array.mk []), Blk.mk y z4 true :: R.append (List.map Sy.ownOf (q.1 z3 (XP.append z5))))))))
theorem bFence_run (q : Rw) (TL R : List Blk) (y : Nat) (a : ActD) (iv ev fv : Value) (Bi Be Bf : List (Nat × Sy.Cont)) (v mp tv : Value) (e : Int) (X XP XL : List I) : Sy.Ran (Sy.inY Tryz.prog (ctxAl q y (setOp a 7) iv ev fv Bi Be Bf mp tv true X XP XL R) 50 fAct #[.pointer (some ⟨y, 0, none⟩), actV (setOp a 7) iv ev fv] (⟨y, layC (slV v) mp tv e true, true⟩ :: TL) 1) bFence_o (bFence_R q TL R y a iv ev fv Bi Be Bf v mp tv e X XP XL) := ⟨fun _ => by kernel_rfl, fun _ => by kernel_rfl⟩
def bPrint_o : Sy.O := (bz 88 0x8596e94a77ff7ffffffffd nil)
noncomputable def bPrint_R (q : Rw) (TL R : List Blk) (y : Nat) (a : ActD) (iv ev fv : Value) (Bi Be Bf : List (Nat × Sy.Cont)) (v mp tv : Value) (e : Int) (X XP XL : List I) (ns : Nat → Sy.Let) : Sy.Res (Value × List Blk) :=
 let z0 := Value.slice (slP v) (Sy.lenS v) (slC v)
 let z1 := exprI (ActD.e a) 0
 let z2 := lv0 [ns 2]
 let z3 := Value.slice (slP z2) (Sy.lenS z2) (slC z2)
 let z4 := [I.mk 33 0 0 0 24 0]
 let z5 := lv0 [ns 4]
 need (okE Be ev (ActD.e a) 0 ∧ q.2 z0 X ∧ List.length X + List.length z1 ≤ 2000000) (need (List.Perm TL ((List.map Sy.ownOf (q.1 z0 X)).append R)) (need (Sy.GotL R Be) (hyp (q.2 z2 (X.append z1)) (need (q.2 z3 XP ∧ z4 ≠ [] ∧ List.length XP + (1 : Nat) ≤ 2000000) (need (List.Perm (R.append (List.map Sy.ownOf (q.1 z2 (X.append z1)))) ((List.map Sy.ownOf (q.1 z3 XP)).append R)) (hyp (q.2 z5 (XP.append z4)) (leaf (Value.tuple (Array.mk []), Blk.mk y (.obj (.cells (Array.mk [.slice (slP z5) (Sy.lenS z5) (slC z5), mp, tv, .int .i64 (fstE e (exprE (ActD.e a) 0)), .bool true]) 132)) true :: R.append (List.map Sy.ownOf (q.1 z5 (XP.append z4)))))))))))
theorem bPrint_run (q : Rw) (TL R : List Blk) (y : Nat) (a : ActD) (iv ev fv : Value) (Bi Be Bf : List (Nat × Sy.Cont)) (v mp tv : Value) (e : Int) (X XP XL : List I) : Sy.Ran (Sy.inY Tryz.prog (ctxAl q y (setOp a 8) iv ev fv Bi Be Bf mp tv true X XP XL R) 50 fAct #[.pointer (some ⟨y, 0, none⟩), actV (setOp a 8) iv ev fv] (⟨y, layC (slV v) mp tv e true, true⟩ :: TL) 1) bPrint_o (bPrint_R q TL R y a iv ev fv Bi Be Bf v mp tv e X XP XL) := ⟨fun _ => by kernel_rfl, fun _ => by kernel_rfl⟩
def bJump_o : Sy.O := (bz 71 0x4594efff7ffffffffd nil)
noncomputable def bJump_R (q : Rw) (w : Fw) (TL R RB : List Blk) (y : Nat) (a : ActD) (iv ev fv : Value) (Be Bf : List (Nat × Sy.Cont)) (v mp tv : Value) (e : Int) (X XP : List I) (fs : List Fl) (ns : Nat → Sy.Let) : Sy.Res (Value × List Blk) :=
 let z0 := Value.slice (slP v) (Sy.lenS v) (slC v)
 let z1 := [ns 2, ns 3, ns 4, ns 5, ns 6]
 let z2 := letW z1 0
 let z3 := XP.append [I.mk 18 0 0 0 0 0]
 let z4 := letW z1 1
 let z5 := fs.append [newF z1 (ActD.to a) XP]
 need (q.2 z0 XP ∧ w.2 tv fs ∧ List.length XP + (1 : Nat) ≤ 2000000 ∧ List.length fs ≤ 2000000) (need (List.Perm TL (List.append (List.map Sy.ownOf ((q.1 z0 XP).append (w.1 y tv fs))) RB)) (hyp (q.2 z2 z3 ∧ w.2 z4 z5) (leaf (Value.tuple (Array.mk []), Blk.mk y (.obj (.cells (Array.mk [.slice (slP z2) (Sy.lenS z2) (slC z2), mp, .slice (slP z4) (Sy.lenS z4) (slC z4), .int .i64 e, .bool true]) 132)) true :: RB.append (List.map Sy.ownOf ((q.1 z2 z3).append (w.1 y z4 z5)))))))
theorem bJump_run (q : Rw) (w : Fw) (TL R RB : List Blk) (y : Nat) (a : ActD) (iv ev fv : Value) (Be Bf : List (Nat × Sy.Cont)) (v mp tv : Value) (e : Int) (X XP : List I) (fs : List Fl) : Sy.Ran (Sy.inY Tryz.prog (ctxJp q w y (setOp a 9) ev fv Be Bf mp tv true X XP fs 18 0 R RB) 50 fAct #[.pointer (some ⟨y, 0, none⟩), actV (setOp a 9) iv ev fv] (⟨y, layC (slV v) mp (slV tv) e true, true⟩ :: TL) 1) bJump_o (bJump_R q w TL R RB y a iv ev fv Be Bf v mp tv e X XP fs) := ⟨fun _ => by kernel_rfl, fun _ => by kernel_rfl⟩
def bZero_o : Sy.O := (bz 91 0x45979a529dfff7ffffffffd nil)
noncomputable def bZero_R (q : Rw) (w : Fw) (TL R RB : List Blk) (y : Nat) (a : ActD) (iv ev fv : Value) (Be Bf : List (Nat × Sy.Cont)) (v mp tv : Value) (e : Int) (X XP : List I) (fs : List Fl) (ns : Nat → Sy.Let) : Sy.Res (Value × List Blk) :=
 let z0 := Value.slice (slP v) (Sy.lenS v) (slC v)
 let z1 := exprI (ActD.e a) 0
 let z2 := lv0 [ns 2]
 let z3 := Value.slice (slP z2) (Sy.lenS z2) (slC z2)
 let z4 := [ns 3, ns 4, ns 5, ns 6, ns 7]
 let z5 := letW z4 0
 let z6 := XP.append [I.mk 20 24 0 0 0 0]
 let z7 := letW z4 1
 let z8 := fs.append [newF z4 (ActD.to a) XP]
 need (okE Be ev (ActD.e a) 0 ∧ q.2 z0 X ∧ List.length X + List.length z1 ≤ 2000000) (need (List.Perm TL ((List.map Sy.ownOf (q.1 z0 X)).append R)) (need (Sy.GotL R Be) (hyp (q.2 z2 (X.append z1)) (need (q.2 z3 XP ∧ w.2 tv fs ∧ List.length XP + (1 : Nat) ≤ 2000000 ∧ List.length fs ≤ 2000000) (need (List.Perm (R.append (List.map Sy.ownOf (q.1 z2 (X.append z1)))) (List.append (List.map Sy.ownOf ((q.1 z3 XP).append (w.1 y tv fs))) RB)) (hyp (q.2 z5 z6 ∧ w.2 z7 z8) (leaf (Value.tuple (Array.mk []), Blk.mk y (.obj (.cells (Array.mk [.slice (slP z5) (Sy.lenS z5) (slC z5), mp, .slice (slP z7) (Sy.lenS z7) (slC z7), .int .i64 (fstE e (exprE (ActD.e a) 0)), .bool true]) 132)) true :: RB.append (List.map Sy.ownOf ((q.1 z5 z6).append (w.1 y z7 z8)))))))))))
theorem bZero_run (q : Rw) (w : Fw) (TL R RB : List Blk) (y : Nat) (a : ActD) (iv ev fv : Value) (Be Bf : List (Nat × Sy.Cont)) (v mp tv : Value) (e : Int) (X XP : List I) (fs : List Fl) : Sy.Ran (Sy.inY Tryz.prog (ctxJp q w y (setOp a 10) ev fv Be Bf mp tv true X XP fs 20 24 R RB) 50 fAct #[.pointer (some ⟨y, 0, none⟩), actV (setOp a 10) iv ev fv] (⟨y, layC (slV v) mp (slV tv) e true, true⟩ :: TL) 1) bZero_o (bZero_R q w TL R RB y a iv ev fv Be Bf v mp tv e X XP fs) := ⟨fun _ => by kernel_rfl, fun _ => by kernel_rfl⟩
open Go Go.RowKit
open Go.Proofs.YtlpcnaeknbmjdaaGreat.Sy (Let Blk HasL)
open Lw (I insCells tI)
theorem ctxAl_holds (y : Nat) (a : ActD) (iv ev fv : Value) (Bi Be Bf : List (Nat × Sy.Cont)) (mp tv : Value) (b : Bool) (X XP XL : List I) (R : List Blk) : (ctxAl rowQ y a iv ev fv Bi Be Bf mp tv b X XP XL R).holds Tryz.prog := Sy.mkU_holds (ctxA0_holds _) (fun p hp ar L => by
 rcases List.mem_cons.1 hp with rfl | hp
 ·exact exU_met _ _ _ _ _ _ _ _ _ _ _ _ _
 rcases List.mem_cons.1 hp with rfl | hp
 ·show Sy.Meets _ (Sy.plU rowQ y a iv ev fv Bi mp tv b X R ar L).c
  unfold Sy.plU
  split
  ·exact placeL_met _ _ _ _ _ _ _ _ _ _ _ _ _
  ·split
   ·exact placeL_met _ _ _ _ _ _ _ _ _ _ _ _ _
   ·exact placeL_met _ _ _ _ _ _ _ _ _ _ _ _ _
 rcases List.mem_cons.1 hp with rfl | hp
 ·exact putL_met _ _ _ _ _ _ _ _ _ _
 rcases List.mem_singleton.1 hp with rfl
 exact singleC_met _ _ _ _ _ _ _ _ _ _ _ _ _) (fun _ h => (by cases h))
def tailL (a : ActD) : List I :=
 if a.op = 2 ∧ a.mode = 2 then [⟨35, a.dst, 29, 0, 0, 0⟩]
 else if a.op = 4 then sgI 40 25 a
 else if a.op = 5 then sgI 44 25 a
 else if a.op = 6 then sgI 36 24 a
 else tailI a
variable (y : Nat) (a : ActD) (iv ev fv : Value) (Bi Be Bf : List (Nat × Sy.Cont)) (v tv mp : Value) (e : Int) (X : List I) (fs : List Fl)
theorem bSet_met : Sy.Meets Tryz.prog (actC rowQ fillQ y (setOp a 1) iv ev fv Bi Be Bf v tv mp e true X fs (tailL (setOp a 1))) := fun hok => by
 obtain ⟨hA, hX, hF, hl, hf⟩ := id hok
 have hp : preI (setOp a 1) = exprI a.e 0 := by simp [preI]
 rw [hp] at hl
 refine Sy.meets_ofY (k := 1) (ctxAl_holds y (setOp a 1) iv ev fv Bi Be Bf mp (slV tv) true X (X ++ exprI a.e 0) ([]) _) mixed act_ent (bSet_run rowQ _ ((fillB y tv fs).map Sy.ownOf ++ rdOf (Bi ++ (Be ++ Bf))) y a iv ev fv Bi Be Bf v mp (slV tv) e X (X ++ exprI a.e 0) ([])) (fun _ ns => ?_) hok
 simp only [bSet_R, Sy.Res.holds]
 refine ⟨⟨(hA.e (by simp) (by simp) (by simp)), hX, by omega⟩, perm_first _ _ rfl, got_e _ _ _ _, fun k1 => ⟨trivial, fun _ => ⟨⟨k1, by simp, by simp; omega⟩, perm_next _ _ rfl, fun k2 => ?_⟩⟩⟩
 exact act_leaf k2 (Sy.mS _) rfl hF (by simp) (by simp) (by simp [hp, tailI, tailL]) (by simp [actE])
theorem bPrint_met : Sy.Meets Tryz.prog (actC rowQ fillQ y (setOp a 8) iv ev fv Bi Be Bf v tv mp e true X fs (tailL (setOp a 8))) := fun hok => by
 obtain ⟨hA, hX, hF, hl, hf⟩ := id hok
 have hp : preI (setOp a 8) = exprI a.e 0 := by simp [preI]
 rw [hp] at hl
 refine Sy.meets_ofY (k := 1) (ctxAl_holds y (setOp a 8) iv ev fv Bi Be Bf mp (slV tv) true X (X ++ exprI a.e 0) ([]) _) mixed act_ent (bPrint_run rowQ _ ((fillB y tv fs).map Sy.ownOf ++ rdOf (Bi ++ (Be ++ Bf))) y a iv ev fv Bi Be Bf v mp (slV tv) e X (X ++ exprI a.e 0) ([])) (fun _ ns => ?_) hok
 simp only [bPrint_R, Sy.Res.holds]
 refine ⟨⟨(hA.e (by simp) (by simp) (by simp)), hX, by omega⟩, perm_first _ _ rfl, got_e _ _ _ _, fun k1 => ⟨⟨k1, by simp, by simp; omega⟩, perm_next _ _ rfl, fun k2 => ?_⟩⟩
 exact act_leaf k2 (Sy.mS _) rfl hF (by simp) (by simp) (by simp [hp, tailI, tailL]) (by simp [actE])
theorem bFence_met : Sy.Meets Tryz.prog (actC rowQ fillQ y (setOp a 7) iv ev fv Bi Be Bf v tv mp e true X fs (tailL (setOp a 7))) := fun hok => by
 obtain ⟨hA, hX, hF, hl, hf⟩ := id hok
 have hp : preI (setOp a 7) = [] := by simp [preI]
 rw [hp] at hl
 refine Sy.meets_ofY (k := 1) (ctxAl_holds y (setOp a 7) iv ev fv Bi Be Bf mp (slV tv) true X (X) ([]) _) mixed act_ent (bFence_run rowQ _ ((fillB y tv fs).map Sy.ownOf ++ rdOf (Bi ++ (Be ++ Bf))) y a iv ev fv Bi Be Bf v mp (slV tv) e X (X) ([])) (fun _ ns => ?_) hok
 simp only [bFence_R, Sy.Res.holds]
 have hm2 : ∀ x : Int, Ex.eqQ x 2 = true ↔ x = 2 := fun x => by rw [Ex.eqQ_eq]; simp
 refine ⟨fun h => ⟨⟨hX, by simp, by omega⟩, perm_first _ _ rfl, fun k2 => ?_⟩, fun h => ⟨⟨hX, by simp, by omega⟩, perm_first _ _ rfl, fun k2 => ?_⟩⟩
 ·have h2 : a.mode = 2 := (hm2 _).1 h
  exact act_leaf k2 (Sy.mS _) rfl hF (by simp) (by simp) (by simp [hp, tailI, tailL, h2]) (by simp [actE])
 ·have h2 : a.mode ≠ 2 := fun h2 => by
   have := (hm2 a.mode).2 h2
   simp_all
  exact act_leaf k2 (Sy.mS _) rfl hF (by simp) (by simp) (by simp [hp, tailI, tailL, h2]) (by simp [actE])
theorem bLoad_met : Sy.Meets Tryz.prog (actC rowQ fillQ y (setOp a 2) iv ev fv Bi Be Bf v tv mp e true X fs (tailL (setOp a 2))) := fun hok => by
 obtain ⟨hA, hX, hF, hl, hf⟩ := id hok
 have hp : preI (setOp a 2) = placeI a.base a.size a.ix 0 := by simp [preI]
 rw [hp] at hl
 refine Sy.meets_ofY (k := 1) (ctxAl_holds y (setOp a 2) iv ev fv Bi Be Bf mp (slV tv) true X (X ++ placeI a.base a.size a.ix 0) ([]) _) mixed act_ent (bLoad_run rowQ _ ((fillB y tv fs).map Sy.ownOf ++ rdOf (Bi ++ (Be ++ Bf))) y a iv ev fv Bi Be Bf v mp (slV tv) e X (X ++ placeI a.base a.size a.ix 0) ([])) (fun _ ns => ?_) hok
 simp only [bLoad_R, Sy.Res.holds]
 have hm1 : ∀ x : Int, Ex.eqQ x 1 = true ↔ x = 1 := fun x => by rw [Ex.eqQ_eq]; simp
 have hm2 : ∀ x : Int, Ex.eqQ x 2 = true ↔ x = 2 := fun x => by rw [Ex.eqQ_eq]; simp
 refine ⟨fun g => ⟨⟨hA.p0 rfl, hX, by omega⟩, perm_first _ _ rfl, got_i _ _ _ _, fun k1 => ⟨trivial, fun _ => ⟨⟨k1, by simp, by simp; omega⟩, perm_next _ _ rfl, fun k2 => ?_⟩⟩⟩, fun g => ⟨⟨hA.p0 rfl, hX, by omega⟩, perm_first _ _ rfl, got_i _ _ _ _, fun k1 => ⟨fun h => ⟨trivial, fun _ => ⟨⟨k1, by simp, by simp; omega⟩, perm_next _ _ rfl, fun k2 => ?_⟩⟩, fun h => ⟨trivial, fun _ => ⟨⟨k1, by simp, by simp; omega⟩, perm_next _ _ rfl, fun k2 => ?_⟩⟩⟩⟩⟩
 ·have h2 : a.mode = 2 := (hm2 _).1 g
  exact act_leaf k2 (Sy.mS _) rfl hF (by simp) (by simp) (by simp [hp, tailI, tailL, h2]) (by simp [actE])
 ·have h2 : a.mode = 1 := (hm1 _).1 h
  exact act_leaf k2 (Sy.mS _) rfl hF (by simp) (by simp) (by simp [hp, tailI, tailL, h2]) (by simp [actE])
 ·have h3 : a.mode ≠ 2 := fun h2 => by
   have := (hm2 a.mode).2 h2
   rw [this] at g
   cases g
  have h2 : a.mode ≠ 1 := fun h2 => by
   have := (hm1 a.mode).2 h2
   rw [this] at h
   cases h
  exact act_leaf k2 (Sy.mS _) rfl hF (by simp) (by simp) (by simp [hp, tailI, tailL, h2, h3]) (by simp [actE])
theorem bStore_met : Sy.Meets Tryz.prog (actC rowQ fillQ y (setOp a 3) iv ev fv Bi Be Bf v tv mp e true X fs (tailL (setOp a 3))) := fun hok => by
 obtain ⟨hA, hX, hF, hl, hf⟩ := id hok
 have hp : preI (setOp a 3) = exprI a.e 0 ++ placeI a.base a.size a.ix 1 := by simp [preI]
 rw [hp] at hl
 simp only [List.length_append] at hl
 refine Sy.meets_ofY (k := 1) (ctxAl_holds y (setOp a 3) iv ev fv Bi Be Bf mp (slV tv) true X (X ++ exprI a.e 0 ++ placeI a.base a.size a.ix 1) ([]) _) mixed act_ent (bStore_run rowQ _ ((fillB y tv fs).map Sy.ownOf ++ rdOf (Bi ++ (Be ++ Bf))) y a iv ev fv Bi Be Bf v mp (slV tv) e X (X ++ exprI a.e 0 ++ placeI a.base a.size a.ix 1) ([])) (fun _ ns => ?_) hok
 simp only [bStore_R, Sy.Res.holds]
 have hm1 : ∀ x : Int, Ex.eqQ x 1 = true ↔ x = 1 := fun x => by rw [Ex.eqQ_eq]; simp
 refine ⟨⟨(hA.e (by simp) (by simp) (by simp)), hX, by omega⟩, perm_first _ _ rfl, got_e _ _ _ _, fun k1 => ⟨⟨hA.p1 (by simp), k1, by simp; omega⟩, perm_next _ _ rfl, got_i _ _ _ _, fun k2 => ?_⟩⟩
 refine ⟨fun h => ⟨trivial, fun _ => ⟨⟨k2, by simp, by simp; omega⟩, perm_next _ _ rfl, fun k3 => ?_⟩⟩, fun h => ⟨trivial, fun _ => ⟨⟨k2, by simp, by simp; omega⟩, perm_next _ _ rfl, fun k3 => ?_⟩⟩⟩
 ·have h2 : a.mode = 1 := (hm1 _).1 h
  exact act_leaf k3 (Sy.mS _) rfl hF (by simp) (by simp) (by simp [hp, tailI, tailL, h2]) (by simp [actE])
 ·have h2 : a.mode ≠ 1 := fun h2 => by
   have := (hm1 a.mode).2 h2
   simp_all
  exact act_leaf k3 (Sy.mS _) rfl hF (by simp) (by simp) (by simp [hp, tailI, tailL, h2]) (by simp [actE])
theorem bXchg_met : Sy.Meets Tryz.prog (actC rowQ fillQ y (setOp a 4) iv ev fv Bi Be Bf v tv mp e true X fs (tailL (setOp a 4))) := fun hok => by
 obtain ⟨hA, hX, hF, hl, hf⟩ := id hok
 have hp : preI (setOp a 4) = exprI a.e 0 ++ placeI a.base a.size a.ix 1 := by simp [preI]
 rw [hp] at hl
 simp only [List.length_append] at hl
 refine Sy.meets_ofY (k := 1) (ctxAl_holds y (setOp a 4) iv ev fv Bi Be Bf mp (slV tv) true X ([]) (X ++ exprI a.e 0 ++ placeI a.base a.size a.ix 1) _) mixed act_ent (bXchg_run rowQ _ ((fillB y tv fs).map Sy.ownOf ++ rdOf (Bi ++ (Be ++ Bf))) y a iv ev fv Bi Be Bf v mp (slV tv) e X ([]) (X ++ exprI a.e 0 ++ placeI a.base a.size a.ix 1)) (fun _ ns => ?_) hok
 simp only [bXchg_R, Sy.Res.holds]
 refine ⟨⟨(hA.e (by simp) (by simp) (by simp)), hX, by omega⟩, perm_first _ _ rfl, got_e _ _ _ _, fun k1 => ⟨⟨hA.p1 (by simp), k1, by simp; omega⟩, perm_next _ _ rfl, got_i _ _ _ _, fun k2 => ?_⟩⟩
 refine ⟨⟨⟨k2, by simp; omega⟩, by omega, by omega⟩, perm_next _ _ rfl, fun k3 => ?_⟩
 exact act_leaf k3 (Sy.mS _) rfl hF (by simp) (by simp) (by simp [hp, tailI, tailL]) (by simp [actE])
theorem bFadd_met : Sy.Meets Tryz.prog (actC rowQ fillQ y (setOp a 5) iv ev fv Bi Be Bf v tv mp e true X fs (tailL (setOp a 5))) := fun hok => by
 obtain ⟨hA, hX, hF, hl, hf⟩ := id hok
 have hp : preI (setOp a 5) = exprI a.e 0 ++ placeI a.base a.size a.ix 1 := by simp [preI]
 rw [hp] at hl
 simp only [List.length_append] at hl
 refine Sy.meets_ofY (k := 1) (ctxAl_holds y (setOp a 5) iv ev fv Bi Be Bf mp (slV tv) true X ([]) (X ++ exprI a.e 0 ++ placeI a.base a.size a.ix 1) _) mixed act_ent (bFadd_run rowQ _ ((fillB y tv fs).map Sy.ownOf ++ rdOf (Bi ++ (Be ++ Bf))) y a iv ev fv Bi Be Bf v mp (slV tv) e X ([]) (X ++ exprI a.e 0 ++ placeI a.base a.size a.ix 1)) (fun _ ns => ?_) hok
 simp only [bFadd_R, Sy.Res.holds]
 refine ⟨⟨(hA.e (by simp) (by simp) (by simp)), hX, by omega⟩, perm_first _ _ rfl, got_e _ _ _ _, fun k1 => ⟨⟨hA.p1 (by simp), k1, by simp; omega⟩, perm_next _ _ rfl, got_i _ _ _ _, fun k2 => ?_⟩⟩
 refine ⟨⟨⟨k2, by simp; omega⟩, by omega, by omega⟩, perm_next _ _ rfl, fun k3 => ?_⟩
 exact act_leaf k3 (Sy.mS _) rfl hF (by simp) (by simp) (by simp [hp, tailI, tailL]) (by simp [actE])
theorem bCas_met : Sy.Meets Tryz.prog (actC rowQ fillQ y (setOp a 6) iv ev fv Bi Be Bf v tv mp e true X fs (tailL (setOp a 6))) := fun hok => by
 obtain ⟨hA, hX, hF, hl, hf⟩ := id hok
 have hp : preI (setOp a 6) = exprI a.e 0 ++ exprI a.f 1 ++ placeI a.base a.size a.ix 2 := by simp [preI]
 rw [hp] at hl
 simp only [List.length_append] at hl
 refine Sy.meets_ofY (k := 1) (ctxAl_holds y (setOp a 6) iv ev fv Bi Be Bf mp (slV tv) true X ([]) (X ++ exprI a.e 0 ++ exprI a.f 1 ++ placeI a.base a.size a.ix 2) _) mixed act_ent (bCas_run rowQ _ ((fillB y tv fs).map Sy.ownOf ++ rdOf (Bi ++ (Be ++ Bf))) y a iv ev fv Bi Be Bf v mp (slV tv) e X ([]) (X ++ exprI a.e 0 ++ exprI a.f 1 ++ placeI a.base a.size a.ix 2)) (fun _ ns => ?_) hok
 simp only [bCas_R, Sy.Res.holds]
 refine ⟨⟨(hA.e (by simp) (by simp) (by simp)), hX, by omega⟩, perm_first _ _ rfl, got_e _ _ _ _, fun k1 => ⟨⟨hA.f rfl, k1, by simp; omega⟩, perm_next _ _ rfl, got_f _ _ _ _, fun k2 => ⟨⟨hA.p2 rfl, k2, by simp; omega⟩, perm_next _ _ rfl, got_i _ _ _ _, fun k3 => ?_⟩⟩⟩
 refine ⟨⟨⟨k3, by simp; omega⟩, by omega, by omega⟩, perm_next _ _ rfl, fun k4 => ?_⟩
 exact act_leaf k4 (Sy.mS _) rfl hF (by simp) (by simp) (by simp [hp, tailI, tailL]) (by simp [actE])
theorem bJump_met : Sy.Meets Tryz.prog (actC rowQ fillQ y (setOp a 9) iv ev fv Bi Be Bf v tv mp e true X fs (tailL (setOp a 9))) := fun hok => by
 obtain ⟨hA, hX, hF, hl, hf⟩ := id hok
 have hp : preI (setOp a 9) = [] := by simp [preI]
 rw [hp] at hl
 simp only [List.length_nil] at hl
 refine Sy.meets_ofY (k := 1) (ctxJp_holds y (setOp a 9) ev fv Be Bf mp tv true X X fs 18 0 [] _) mixed act_ent (bJump_run rowQ fillQ _ [] (rdOf (Bi ++ (Be ++ Bf))) y a iv ev fv Be Bf v mp tv e X X fs) (fun _ ns => ?_) hok
 simp only [bJump_R, Sy.Res.holds]
 refine ⟨⟨hX, hF, by omega, hf⟩, ?_, fun k => ?_⟩
 ·show List.Perm _ ((rowB v X ++ fillB y tv fs).map Sy.ownOf ++ _)
  rw [List.map_append, List.append_assoc]
 ·exact jmp_leaf (a := setOp a 9) k (Sy.mS _) rfl (.inl rfl) (by simp [tailI, tailL]) (by simp [hp]) (by simp [actE]) rfl
theorem bZero_met : Sy.Meets Tryz.prog (actC rowQ fillQ y (setOp a 10) iv ev fv Bi Be Bf v tv mp e true X fs (tailL (setOp a 10))) := fun hok => by
 obtain ⟨hA, hX, hF, hl, hf⟩ := id hok
 have hp : preI (setOp a 10) = exprI a.e 0 := by simp [preI]
 rw [hp] at hl
 refine Sy.meets_ofY (k := 1) (ctxJp_holds y (setOp a 10) ev fv Be Bf mp tv true X (X ++ exprI a.e 0) fs 20 24 _ _) mixed act_ent (bZero_run rowQ fillQ _ ((fillB y tv fs).map Sy.ownOf ++ rdOf (Bi ++ (Be ++ Bf))) (rdOf (Bi ++ (Be ++ Bf))) y a iv ev fv Be Bf v mp tv e X (X ++ exprI a.e 0) fs) (fun _ ns => ?_) hok
 simp only [bZero_R, Sy.Res.holds]
 refine ⟨⟨hA.e (by simp) (by simp) (by simp), hX, by omega⟩, perm_first _ _ rfl, got_e _ _ _ _, fun k1 => ⟨⟨k1, hF, by simp; omega, hf⟩, ?_, fun k => ?_⟩⟩
 ·show List.Perm _ ((rowB (slV _) (X ++ exprI a.e 0) ++ fillB y tv fs).map Sy.ownOf ++ _)
  rw [List.map_append, List.append_assoc]
  exact List.perm_append_comm
 ·exact jmp_leaf (a := setOp a 10) k (Sy.mS _) rfl (.inr rfl) (by simp [tailI, tailL]) (by simp [hp]) (by simp [actE]) rfl
theorem actL_met : Sy.Meets Tryz.prog (actC rowQ fillQ y a iv ev fv Bi Be Bf v tv mp e true X fs (tailL a)) := fun hok => by
 have key : ∀ k : Int, a.op = k → a = setOp a k := fun k hk => by subst hk; rfl
 rcases hok.1.op with h | h | h | h | h | h | h | h | h | h
 ·have := bSet_met y a iv ev fv Bi Be Bf v tv mp e X fs
  rw [← key _ h] at this
  exact this hok
 ·have := bLoad_met y a iv ev fv Bi Be Bf v tv mp e X fs
  rw [← key _ h] at this
  exact this hok
 ·have := bStore_met y a iv ev fv Bi Be Bf v tv mp e X fs
  rw [← key _ h] at this
  exact this hok
 ·have := bXchg_met y a iv ev fv Bi Be Bf v tv mp e X fs
  rw [← key _ h] at this
  exact this hok
 ·have := bFadd_met y a iv ev fv Bi Be Bf v tv mp e X fs
  rw [← key _ h] at this
  exact this hok
 ·have := bCas_met y a iv ev fv Bi Be Bf v tv mp e X fs
  rw [← key _ h] at this
  exact this hok
 ·have := bFence_met y a iv ev fv Bi Be Bf v tv mp e X fs
  rw [← key _ h] at this
  exact this hok
 ·have := bPrint_met y a iv ev fv Bi Be Bf v tv mp e X fs
  rw [← key _ h] at this
  exact this hok
 ·have := bJump_met y a iv ev fv Bi Be Bf v tv mp e X fs
  rw [← key _ h] at this
  exact this hok
 ·have := bZero_met y a iv ev fv Bi Be Bf v tv mp e X fs
  rw [← key _ h] at this
  exact this hok
end Go.Proofs.YtlpcnaeknbmjdaaGreat.Gn
namespace Go.Proofs.YtlpcnaeknbmjdaaGreat.Gn
open Go Go.RowKit
open Go.Proofs.YtlpcnaeknbmjdaaGreat.Sy (Let Blk HasL)
open Lw (I insCells tI)
abbrev tMp : TypeId := 129
def begL : Nat → List Int → List MapEntry
 | _, [] => []
 | i, x :: r => ⟨.int .i64 (Int.ofNat i), .int .i64 x, i⟩ :: begL (i + 1) r
def begM (bs : List Int) : Obj := .map (begL 0 bs).toArray bs.length
theorem begL_snoc (bs : List Int) (x : Int) : ∀ i, begL i (bs ++ [x]) = begL i bs ++ [⟨.int .i64 (Int.ofNat (i + bs.length)), .int .i64 x, i + bs.length⟩] := by
 induction bs with
 | nil => intro i; rfl
 | cons y r ih =>
   intro i
   show _ :: begL (i + 1) (r ++ [x]) = _ :: (begL (i + 1) r ++ _)
   rw [ih]
   simp only [List.length_cons]
   rw [show i + 1 + r.length = i + (r.length + 1) by omega]
theorem find_none (k : IntKind) (n : Nat) (bs : List Int) : ∀ i j, i + bs.length ≤ n → Instr.findNow (.int k) (.int .i64 (Int.ofNat n)) (begL i bs) j = some none := by
 induction bs with
 | nil => intro i j _; rfl
 | cons y r ih =>
   intro i j h
   have hne : ¬ (n = i) := by simp only [List.length_cons] at h; omega
   simp only [begL, Instr.findNow, Instr.sameNow]
   have : ((Int.ofNat n : Int) == Int.ofNat i) = false := by simp only [Int.ofNat_eq_natCast, beq_eq_false_iff_ne, ne_eq, Int.natCast_inj]; exact hne
   rw [this]
   simp only [if_true]
   exact ih _ _ (by simp only [List.length_cons] at h; omega)
theorem find_some (k : IntKind) (n : Nat) (x : Int) (bs : List Int) : ∀ i j, bs[n]? = some x → Instr.findNow (.int k) (.int .i64 (Int.ofNat (i + n))) (begL i bs) j = some (some (j + n, .int .i64 x)) := by
 induction bs generalizing n with
 | nil => intro i j h; simp at h
 | cons y r ih =>
   intro i j h
   simp only [begL, Instr.findNow, Instr.sameNow, if_true]
   cases n with
   | zero =>
     simp only [List.getElem?_cons_zero, Option.some.injEq] at h
     subst h
     simp
   | succ n =>
     have : ((Int.ofNat (i + (n + 1)) : Int) == Int.ofNat i) = false := by simp only [Int.ofNat_eq_natCast, beq_eq_false_iff_ne, ne_eq, Int.natCast_inj]; omega
     rw [this]
     have := ih n (i + 1) (j + 1) (by simpa using h)
     rw [show i + 1 + n = i + (n + 1) by omega, show j + 1 + n = j + (n + 1) by omega] at this
     exact this
theorem und_mp : Tryz.prog.underlying tMp = some (.map 3 3) := by kernel_rfl
theorem und_int : Tryz.prog.underlying 3 = some (.int .i64) := by kernel_rfl
theorem ck_run (b : Bool) (k : Int) (W : World) : (Instr.checkKey b 10000 3 (.int .i64 k)).run Tryz.prog W = .ok () W := by
 show (Instr.checkKey b (9999 + 1) _ _).run _ W = _
 generalize 9999 = m
 simp [Instr.checkKey, run_underlying und_int]
theorem fk_run {k : Int} {es : List MapEntry} {r : Option (Nat × Value)} (h : Instr.findNow (.int .i64) (.int .i64 k) es 0 = some r) (W : World) : (Instr.findKey 3 (.int .i64 k) es).run Tryz.prog W = .ok r W := by
 simp [Instr.findKey, run_underlying und_int, h]
theorem gm_run {W : World} {r : Nat} {es : Array MapEntry} {c : Nat} (h : W.heap[r]? = some (.map es c)) : (getObj r).run Tryz.prog W = .ok (.map es c) W := by
 simp [getObj, Sem.run, h]
theorem sm_run {W : World} {r : Nat} {es : Array MapEntry} {c : Nat} (h : W.heap[r]? = some (.map es c)) (o : Obj) : (setObj r o).run Tryz.prog W = .ok () { W with heap := W.heap.setIfInBounds r o } := by
 simp [setObj, Sem.run, h]
theorem upd_aux {W : World} {r : Nat} {es es' : List MapEntry} {c : Nat} {k : Int} {v : Value} (h : W.heap[r]? = some (.map es.toArray c)) (hf : Instr.findNow (.int .i64) (.int .i64 k) es 0 = some none) (e : es ++ [⟨.int .i64 k, v, c⟩] = es') : (Instr.mapUpdate tMp (.map (some r)) (.int .i64 k) v).run Tryz.prog W = .ok () { W with heap := W.heap.setIfInBounds r (.map es'.toArray (c + 1)) } := by
 subst e
 simp [Instr.mapUpdate, run_underlying und_mp, gm_run h, ck_run, fk_run hf, sm_run h]
theorem upd_run {W : World} {r : Nat} {bs : List Int} (h : W.heap[r]? = some (begM bs)) (x : Int) : (Instr.mapUpdate tMp (.map (some r)) (.int .i64 (Int.ofNat bs.length)) (.int .i64 x)).run Tryz.prog W = .ok () { W with heap := W.heap.setIfInBounds r (begM (bs ++ [x])) } := by
 rw [upd_aux (es' := begL 0 (bs ++ [x])) h (find_none .i64 bs.length bs 0 0 (by omega)) (by rw [begL_snoc]; simp)]
 unfold begM
 rw [List.length_append]
 rfl
open Sy.O (bz fork nil pack step steps)
open Sy.Res (need hyp br leaf both)
open Go Go.RowKit
open Go.Proofs.YtlpcnaeknbmjdaaGreat.Sy (Let Blk HasL)
open Lw (I insCells tI)
abbrev fLaid : FuncId := 35
def bodyL : Code := Sy.loopBody Tryz.f35 0
def bodyF : Code := Sy.loopBody Tryz.f35 1
def upK (r : Nat) (bs : List Int) (x : Int) : Sy.OpK :=
 ⟨(do Instr.mapUpdate tMp (.map (some r)) (.int .i64 (Int.ofNat bs.length)) (.int .i64 x); pure .skip), True, ⟨⟨[], [(r, .obj (begM bs))], 0, []⟩, [(⟨fun _ => True, fun _ => [(r, .obj (begM (bs ++ [x])))], fun _ => []⟩, fun _ => none)]⟩⟩
def tailB (b : Bool) (a : ActD) : List I := match b with
 | true => tailL a
 | false => tailI a
def actBy (q : Rw) (w : Fw) (y : Nat) (a : ActD) (B : List (Nat × Sy.Cont)) (v tv mp : Value) (e : Int) (b : Bool) (X : List I) (fs : List Fl) (args : Array Value) : Sy.CallC :=
 ⟨fAct, args, ∃ iv ev fv, args = #[.pointer (some ⟨y, 0, none⟩), actV a iv ev fv] ∧ OkAct B B B a iv ev fv ∧ q.V v X ∧ w.V tv fs ∧ X.length + (preI a).length + 20 ≤ 2000000 ∧ fs.length ≤ 2000000,
  ⟨[], (y, layC (slV v) mp (slV tv) e b) :: (q.B v X ++ w.B y tv fs), 5, B⟩, [acO q w y mp e b X fs a (tailB b a)]⟩
def ctxLa (q : Rw) (w : Fw) (y mb : Nat) (a : ActD) (B : List (Nat × Sy.Cont)) (v tv : Value) (b : Bool) (X : List I) (fs : List Fl) (bs : List Int) (R : List Blk) : Sy.Ctx :=
 Sy.mkU (Sy.mkS [] [] [(fLaid, 900000, fun _ _ => upK mb bs (Int.ofNat (Sy.lenS v)))]) [(fAct, fun args _ => (actBy q w y a B v tv (.map (some mb)) 0 b X fs args).toU [(y, layC (slV v) (.map (some mb)) (slV tv) 0 b)] (q.B v X ++ w.B y tv fs) R)] []
def slL (y p2 p5 : Nat) (av : Value) (k : Nat) : List (Nat × Value) := [(2, .pointer (some ⟨p2, 0, none⟩)), (4, .slice none 0 0), (5, .pointer (some ⟨p5, 0, none⟩)), (6, .pointer (some ⟨y, 0, none⟩)), (16, av), (17, .int .i64 (Int.ofNat (Sy.lenS av))), (18, .int .i64 (Int.ofNat k))]
def faultC (c l o : Int) : Sy.Cont := .obj (.cells #[.int .i64 c, .int .i64 l, .int .i64 o] 31 (0, 0))
def ll_o : Sy.O := (fork (bz 134 0x3d1453b35d3000600f008081043c4b6b8a (fork (pack 9 0x0 (fork (bz 108 0x9d8c0010040360206c10f12cf7f nil) (bz 3 0x7 (fork (bz 101 0x13b1800200806c040d821e259e nil) nil)))) (pack 9 0x0 (fork (bz 101 0x13b1800200806c040d821e259e nil) nil)))) nil)
noncomputable def ll_R (q : Rw) (w : Fw) (TL R : List Blk) (y p2 p5 mb : Nat) (a : ActD) (B : List (Nat × Sy.Cont)) (av v tv : Value) (b : Bool) (X : List I) (fs : List Fl) (bs : List Int) (f : Nat → Value) (ns : Nat → Sy.Let) : Sy.Res (Exit × Nat × List Value × List Blk) :=
 let z0 := List.length bs
 let z1 := Int.ofNat z0
 let z2 := Int.ofNat (Sy.lenS av)
 let z3 := Sy.ptrS av
 let z4 := Sy.offS av + Int.toNat z1 * 11
 let z5 := Sy.offS av + Int.toNat z1 * 11 + 1
 let z6 := Sy.offS av + Int.toNat z1 * 11 + 1 + 1
 let z7 := Sy.offS av + Int.toNat z1 * 11 + 1 + 1 + 1
 let z8 := Sy.offS av + Int.toNat z1 * 11 + 1 + 1 + 1 + 1
 let z9 := Sy.offS av + Int.toNat z1 * 11 + 1 + 1 + 1 + 1 + 1
 let z10 := Sy.offS av + Int.toNat z1 * 11 + 1 + 1 + 1 + 1 + 1 + 1
 let z11 := Sy.offS av + Int.toNat z1 * 11 + 1 + 1 + 1 + 1 + 1 + 1 + 1
 let z12 := Sy.offS av + Int.toNat z1 * 11 + 1 + 1 + 1 + 1 + 1 + 1 + 1 + 1
 let z13 := Sy.offS av + Int.toNat z1 * 11 + 1 + 1 + 1 + 1 + 1 + 1 + 1 + 1 + 1
 let z14 := Sy.offS av + Int.toNat z1 * 11 + 1 + 1 + 1 + 1 + 1 + 1 + 1 + 1 + 1 + 1
 let z15 := Array.mk [Value.int .i64 (ns 0).i, Value.int .i64 (ns 1).i, Value.int .i64 (ns 2).i, Value.int .i64 (ns 3).i, (ns 4).v, (ns 5).v, (ns 6).v, Value.int .i64 (ns 7).i, Value.int .i64 (ns 8).i, Value.int .i64 (ns 9).i, Value.int .i64 (ns 10).i]
 let z16 := some (Addr.mk y 0 none)
 let z17 := fun (p : Nat × Sy.Cont) => Blk.mk (Prod.fst p) (Prod.snd p) true
 let z18 := [ns 12, ns 13, ns 14, ns 15, ns 16]
 let z19 := letW z18 0
 let z20 := X.append (preI a)
 let z21 := z20.append (tailB b a)
 let z22 := letW z18 1
 let z23 := fs.append (brF a z18 z20)
 let z24 := actE 0 a
 let z25 := Sy.lenS z19
 let z26 := some (Addr.mk p2 0 none)
 let z27 := some (Addr.mk p5 0 none)
 let z28 := [Value.pointer z26, Value.slice none 0 0, Value.pointer z27, Value.pointer z16, av, Value.int .i64 z2, Value.int .i64 z1]
 let z29 := Sy.Cont.obj (Obj.cells z15 46)
 let z30 := List.map z17 ((q.1 z19 z21).append (w.1 y z22 z23))
 let z31 := Sy.Cont.obj (Obj.cells (Array.mk [.slice (slP z19) z25 (slC z19), Value.map (some mb), .slice (slP z22) (Sy.lenS z22) (slC z22), .int .i64 z24, .bool b]) 132)
 let z32 := faultC 0 0 0
 br (Ex.ltQ z1 z2) (need ((∃ (n : Nat), ∃ (c : Nat), av = Value.slice (some (Addr.mk z3 (Sy.offS av) none)) n c) ∧ 0 ≤ Int.ofNat z0 ∧ Int.ofNat z0 < (↑(Sy.lenS av) : Int)) (need (∃ (i : Int), HasL TL z3 z4 (Value.int .i64 i)) (hyp (∀ (u : Value), HasL TL z3 z4 u → u = Value.int .i64 (ns 0).i) (need (∃ (i : Int), HasL TL z3 z5 (Value.int .i64 i)) (hyp (∀ (u : Value), HasL TL z3 z5 u → u = Value.int .i64 (ns 1).i) (need (∃ (i : Int), HasL TL z3 z6 (Value.int .i64 i)) (hyp (∀ (u : Value), HasL TL z3 z6 u → u = Value.int .i64 (ns 2).i) (need (∃ (i : Int), HasL TL z3 z7 (Value.int .i64 i)) (hyp (∀ (u : Value), HasL TL z3 z7 u → u = Value.int .i64 (ns 3).i) (need (∃ (v : Value), HasL TL z3 z8 v) (hyp (∀ (u : Value), HasL TL z3 z8 u → u = (ns 4).v) (need (∃ (v : Value), HasL TL z3 z9 v) (hyp (∀ (u : Value), HasL TL z3 z9 u → u = (ns 5).v) (need (∃ (v : Value), HasL TL z3 z10 v) (hyp (∀ (u : Value), HasL TL z3 z10 u → u = (ns 6).v) (need (∃ (i : Int), HasL TL z3 z11 (Value.int .i64 i)) (hyp (∀ (u : Value), HasL TL z3 z11 u → u = Value.int .i64 (ns 7).i) (need (∃ (i : Int), HasL TL z3 z12 (Value.int .i64 i)) (hyp (∀ (u : Value), HasL TL z3 z12 u → u = Value.int .i64 (ns 8).i) (need (∃ (i : Int), HasL TL z3 z13 (Value.int .i64 i)) (hyp (∀ (u : Value), HasL TL z3 z13 u → u = Value.int .i64 (ns 9).i) (need (∃ (i : Int), HasL TL z3 z14 (Value.int .i64 i)) (hyp (∀ (u : Value), HasL TL z3 z14 u → u = Value.int .i64 (ns 10).i) (need ((11 : Nat) = 11 ∧ (11 : Nat) = 11 ∧ Array.all z15 (fun (x :
 Value) => Value.oneCell' x) 0 11 = true) (need True (hyp True (need (∃ (iv : Value), ∃ (ev : Value), ∃ (fv : Value), Array.mk [Value.pointer z16, Value.agg z15] = Array.mk [Value.pointer z16, actV a iv ev fv] ∧ OkAct B B B a iv ev fv ∧ q.2 v X ∧ w.2 tv fs ∧ List.length X + List.length (preI a) + (20 : Nat) ≤ 2000000 ∧ List.length fs ≤ 2000000) (need (List.Perm TL (List.append (List.map z17 ((q.1 v X).append (w.1 y tv fs))) R)) (need (Sy.GotL R B) (hyp (q.2 z19 z21 ∧ w.2 z22 z23) (br (Ex.eqQ z24 0) (br (bif true then Ex.ltQ 16383 (Int.ofNat z25) else false) (leaf (Exit.ret, 100, z28, Blk.mk y (.obj (.cells (Array.mk [.slice (slP z19) z25 (slC z19), Value.map (some mb), .slice (slP z22) (Sy.lenS z22) (slC z22), .int .i64 31, .bool b]) 132)) true :: Blk.mk mb (Sy.Cont.obj (begM (bs.append [Int.ofNat (Sy.lenS v)]))) true :: Blk.mk (ns 11).n z29 true :: Blk.mk p5 (.obj (.cells (Array.mk [.int .i64 31, .int .i64 (ns 9).i, .int .i64 (ns 10).i]) 31)) true :: R.append z30)) (br (!Ex.eqQ z24 0) (leaf (Exit.ret, 100, z28, Blk.mk y z31 true :: Blk.mk mb (Sy.Cont.obj (begM (bs.append [Int.ofNat (Sy.lenS v)]))) true :: Blk.mk (ns 11).n z29 true :: Blk.mk p5 (.obj (.cells (Array.mk [.int .i64 z24, .int .i64 (ns 9).i, .int .i64 (ns 10).i]) 31)) true :: R.append z30)) (leaf (Exit.normal, 100, [Value.pointer z26, Value.slice none 0 0, Value.pointer z27, Value.pointer z16, av, Value.int .i64 z2, Value.int .i64 (Ex.wrapQ .i64 (Ex.addQ z1 1))], Blk.mk y z31 true :: Blk.mk mb (Sy.Cont.obj (begM
 (bs.append [Int.ofNat (Sy.lenS v)]))) true :: Blk.mk (ns 11).n z29 true :: Blk.mk p5 z32 true :: R.append z30)))) (br (!Ex.eqQ z24 0) (leaf (Exit.ret, 100, z28, Blk.mk y z31 true :: Blk.mk mb (Sy.Cont.obj (begM (bs.append [Int.ofNat (Sy.lenS v)]))) true :: Blk.mk (ns 11).n z29 true :: Blk.mk p5 (.obj (.cells (Array.mk [.int .i64 z24, .int .i64 (ns 9).i, .int .i64 (ns 10).i]) 31)) true :: R.append z30)) (leaf (Exit.normal, 100, [Value.pointer z26, Value.slice none 0 0, Value.pointer z27, Value.pointer z16, av, Value.int .i64 z2, Value.int .i64 (Ex.wrapQ .i64 (Ex.addQ z1 1))], Blk.mk y z31 true :: Blk.mk mb (Sy.Cont.obj (begM (bs.append [Int.ofNat (Sy.lenS v)]))) true :: Blk.mk (ns 11).n z29 true :: Blk.mk p5 z32 true :: R.append z30)))))))))))))))))))))))))))))))))) (leaf (Exit.exit 0, 100, z28, Blk.mk y (layC (Value.slice (slP v) (Sy.lenS v) (slC v)) (Value.map (some mb)) (Value.slice (slP tv) (Sy.lenS tv) (slC tv)) 0 b) true :: Blk.mk mb (Sy.Cont.obj (begM bs)) true :: Blk.mk p5 z32 true :: TL))
theorem ll_run (q : Rw) (w : Fw) (TL R : List Blk) (y p2 p5 mb : Nat) (a : ActD) (B : List (Nat × Sy.Cont)) (av v tv : Value) (b : Bool) (X : List I) (fs : List Fl) (bs : List Int) (f : Nat → Value) : Sy.Ran (Sy.pieceT Tryz.prog (ctxLa q w y mb a B v tv b X fs bs R) 50 fLaid bodyL 100 (slL y p2 p5 av bs.length) ((List.range 100).map f) (⟨y, layC (slV v) (.map (some mb)) (slV tv) 0 b, true⟩ :: ⟨mb, .obj (begM bs), true⟩ :: ⟨p5, faultC 0 0 0, true⟩ :: TL) [2, 4, 5, 6, 16, 17, 18]) ll_o (ll_R q w TL R y p2 p5 mb a B av v tv b X fs bs f) := ⟨fun _ => by kernel_rfl, fun _ => by kernel_rfl⟩
theorem upK_met (r : Nat) (bs : List Int) (x : Int) : (upK r bs x).meets Tryz.prog := fun _ W hpre => by
 have hat : W.heap[r]? = some (begM bs) := hpre.use (r, .obj (begM bs)) (Sy.mS _)
 have hlt : r < W.heap.size := (Array.getElem?_eq_some_iff.1 hat).1
 refine ⟨_, Sy.mS _, [], { W with heap := W.heap.setIfInBounds r (begM (bs ++ [x])) }, ?_, ?_⟩
 ·show (do Instr.mapUpdate tMp (.map (some r)) (.int .i64 (Int.ofNat bs.length)) (.int .i64 x); pure Next.skip : Sem Next).run _ W = _
  simp only [Sem.run_bind, upd_run hat x]
  rfl
 ·refine ⟨rfl, trivial, rfl, rfl, rfl, by simp, fun k hk hu => ?_, fun p hp => ?_, by simp, fun p hp => (by cases hp), by simp, fun p hp q hq => (by cases hq)⟩
  ·have : r ≠ k := hu (r, .obj (begM bs)) (Sy.mS _)
   simp only [Array.getElem?_setIfInBounds]
   rw [if_neg this]
  ·rcases List.mem_singleton.1 hp with rfl
   refine ⟨.inr ⟨_, Sy.mS _, rfl⟩, ?_⟩
   show (W.heap.setIfInBounds r _)[r]? = some _
   simp [hlt]
theorem actBy_met (y : Nat) (a : ActD) (B : List (Nat × Sy.Cont)) (v tv mp : Value) (e : Int) (b : Bool) (X : List I) (fs : List Fl) (args : Array Value) : Sy.Meets Tryz.prog (actBy rowQ fillQ y a B v tv mp e b X fs args) := by
 rintro ⟨iv, ev, fv, rfl, hA, h⟩ W hpre
 have hm : Sy.Meets Tryz.prog (actC rowQ fillQ y a iv ev fv B B B v tv mp e b X fs (tailB b a)) := by
  cases b
  ·exact act_met _ _ _ _ _ _ _ _ _ _ _ _ _ _
  ·exact actL_met _ _ _ _ _ _ _ _ _ _ _ _ _ _
 refine Calls.mono (hm ⟨hA, h⟩ W ⟨hpre.rd, hpre.use, hpre.nodup, hpre.apart, fun p hp => ?_, fun p hp q hq => ?_⟩) ?_
 ·simp only [actC, List.mem_append, or_self] at hp
  exact hpre.rb p hp
 ·simp only [actC, List.mem_append, or_self] at hp
  exact hpre.apartB p hp q hq
 ·rintro en W' ⟨o, ho, ns, he, h⟩
  exact ⟨o, ho, ns, he, ⟨h.len, h.hyp, h.os, h.tape, h.output, h.size, h.old, h.nw, h.nodup, h.nb, h.nodupB, h.apartB⟩⟩
theorem ctxLa_holds (y mb : Nat) (a : ActD) (B : List (Nat × Sy.Cont)) (v tv : Value) (b : Bool) (X : List I) (fs : List Fl) (bs : List Int) (R : List Blk) : (ctxLa rowQ fillQ y mb a B v tv b X fs bs R).holds Tryz.prog := Sy.mkU_holds (Sy.mkS_holds (fun _ h => (by cases h)) (fun _ h => (by cases h)) (fun p hp a L => by
 rcases List.mem_singleton.1 hp with rfl
 exact upK_met _ _ _)) (fun p hp args L => by
 rcases List.mem_singleton.1 hp with rfl
 exact actBy_met _ _ _ _ _ _ _ _ _ _ _) (fun _ h => (by cases h))
def insA (b : Bool) (a : ActD) : List I := preI a ++ tailB b a
def layL (b : Bool) : List ActD → List I
 | [] => []
 | a :: r => insA b a ++ layL b r
def begF (b : Bool) : Nat → List ActD → List Int
 | _, [] => []
 | n, a :: r => Int.ofNat n :: begF b (n + (insA b a).length) r
def posA (n : Nat) (a : ActD) : List (Int × Int) := if a.op = 9 ∨ a.op = 10 then [(a.to, Int.ofNat (n + (preI a).length))] else []
def posF (b : Bool) : Nat → List ActD → List (Int × Int)
 | _, [] => []
 | n, a :: r => posA n a ++ posF b (n + (insA b a).length) r
def faultF (b : Bool) : Nat → List ActD → Option (Int × Int × Int)
 | _, [] => none
 | n, a :: r => if actE 0 a ≠ 0 then some (actE 0 a, a.line, a.col) else if 16383 < n + (insA b a).length then some (31, a.line, a.col) else faultF b (n + (insA b a).length) r
def nameV (n : Nat) : Value := .map (some n)
def nameN (v : Value) : Nat := match v with
 | .map (some n) => n
 | _ => 0
def mkFs : List Value → List (Int × Int) → List Fl
 | x :: y :: z :: r, p :: q => ⟨nameN x, nameN y, nameN z, p.1, p.2⟩ :: mkFs r q
 | _, _ => []
def namesF : List Fl → List Value
 | [] => []
 | f :: r => nameV f.yb :: nameV f.tb :: nameV f.ab :: namesF r
def posOf (f : Fl) : Int × Int := (f.to, f.at')
theorem mkFs_of (fs : List Fl) : mkFs (namesF fs) (fs.map posOf) = fs := by
 induction fs with
 | nil => rfl
 | cons f r ih =>
   show _ :: mkFs (namesF r) (r.map posOf) = _
   rw [ih]
   rfl
def letL (ns : List Let) (i : Nat) : List Value := (ns.getD i Let.none).l
structure OkL (B : List (Nat × Sy.Cont)) (av : Value) (acts : List ActD) : Prop where
 at_ : ActsR B av acts
 ok : ∀ (i : Nat) (a : ActD), acts[i]? = some a → ∀ iv ev fv, OkX B iv a.ix → OkX B ev a.e → OkX B fv a.f → OkAct B B B a iv ev fv
 len : ∀ (i : Nat) (a : ActD), acts[i]? = some a → (preI a).length ≤ 1900000
def fltV (b : Bool) (acts : List ActD) : Int × Int × Int := (faultF b 0 acts).getD (0, 0, 0)
def fsL (b : Bool) (acts : List ActD) (ns : List Let) : List Fl := mkFs (letL ns 2) (posF b 0 acts)
def laidC (y p2 p5 mb : Nat) (av : Value) (b : Bool) (acts : List ActD) (B : List (Nat × Sy.Cont)) : Sy.LoopC :=
 ⟨.loop bodyL, 100, slL y p2 p5 av 0, OkL B av acts, ⟨[], [(y, layC (.slice none 0 0) (.map (some mb)) (.slice none 0 0) 0 b), (mb, .obj (begM [])), (p5, faultC 0 0 0)], 3, B⟩,
  [(⟨fun _ => faultF b 0 acts ≠ none, fun _ => [(p5, faultC (fltV b acts).1 (fltV b acts).2.1 (fltV b acts).2.2)], fun _ => []⟩, .ret, fun _ => [(4, .slice none 0 0), (5, .pointer (some ⟨p5, 0, none⟩))]),
   (⟨fun ns => faultF b 0 acts = none ∧ RowV (letW ns 0) (layL b acts) ∧ FillV (letW ns 1) (fsL b acts ns) ∧ (fsL b acts ns).map posOf = posF b 0 acts ∧ (layL b acts).length ≤ 16383,
    fun ns => [(y, layC (slV (letW ns 0)) (.map (some mb)) (slV (letW ns 1)) 0 b), (mb, .obj (begM (begF b 0 acts))), (p5, faultC 0 0 0)],
    fun ns => rowB (letW ns 0) (layL b acts) ++ fillB y (letW ns 1) (fsL b acts ns)⟩, .exit 0, fun _ => [(2, .pointer (some ⟨p2, 0, none⟩)), (5, .pointer (some ⟨p5, 0, none⟩)), (6, .pointer (some ⟨y, 0, none⟩))])]⟩
structure StL where
 a : ActD
 v : Value
 tv : Value
 X : List I
 fs : List Fl
 bs : List Int
structure OkS (b : Bool) (B : List (Nat × Sy.Cont)) (av : Value) (acts : List ActD) (s : StL) : Prop where
 L : OkL B av acts
 k : s.bs.length ≤ acts.length
 X : layL b acts = s.X ++ layL b (acts.drop s.bs.length)
 bs : begF b 0 acts = s.bs ++ begF b s.X.length (acts.drop s.bs.length)
 fs : posF b 0 acts = s.fs.map posOf ++ posF b s.X.length (acts.drop s.bs.length)
 flt : faultF b 0 acts = faultF b s.X.length (acts.drop s.bs.length)
 V : RowV s.v s.X
 W : FillV s.tv s.fs
 n : s.X.length ≤ 16383
 m : s.fs.length ≤ s.X.length
 a : ∀ a, acts[s.bs.length]? = some a → s.a = a
def memL (y p5 mb : Nat) (b : Bool) (B : List (Nat × Sy.Cont)) (s : StL) : List Blk :=
 ⟨y, layC (slV s.v) (.map (some mb)) (slV s.tv) 0 b, true⟩ :: ⟨mb, .obj (begM s.bs), true⟩ :: ⟨p5, faultC 0 0 0, true⟩ :: ((rowB s.v s.X ++ fillB y s.tv s.fs).map Sy.ownOf ++ rdOf B)
theorem drop_cons {acts : List ActD} {k : Nat} {a : ActD} (h : acts[k]? = some a) : acts.drop k = a :: acts.drop (k + 1) := by
 have hlt := (List.getElem?_eq_some_iff.1 h).1
 rw [List.drop_eq_getElem_cons hlt, (List.getElem?_eq_some_iff.1 h).2]
theorem laidC_met (y p2 p5 mb : Nat) (av : Value) (b : Bool) (acts : List ActD) (B : List (Nat × Sy.Cont)) : Sy.MeetsL Tryz.prog (laidC y p2 p5 mb av b acts B) := by
 refine Sy.loop_ofB (σ := StL) (S := fun s => ctxLa rowQ fillQ y mb s.a B s.v s.tv b s.X s.fs s.bs (rdOf B)) (n := 50) (fn := fLaid) (fun _ => ctxLa_holds _ _ _ _ _ _ _ _ _ _ _) mixed (body := bodyL) rfl [2, 4, 5, 6, 16, 17, 18] (fun s => slL y p2 p5 av s.bs.length)
  (fun s => memL y p5 mb b B s) (fun s => OkS b B av acts s) (fun s => acts.length - s.bs.length)
  ⟨acts.headD ⟨0, 0, 0, 0, [], [], [], 0, 0, 0, 0⟩, .slice none 0 0, .slice none 0 0, [], [], []⟩ (fun h => ⟨h, Nat.zero_le _, rfl, rfl, rfl, rfl, rowV_nil, fillV_nil, by simp, by simp, fun a ha => by cases acts <;> simp_all⟩) (fun p hp => hp) (Sy.Ent.refl _) (o := fun _ => ll_o)
  (R := fun s f => ll_R rowQ fillQ ((rowB s.v s.X ++ fillB y s.tv s.fs).map Sy.ownOf ++ rdOf B) (rdOf B) y p2 p5 mb s.a B av s.v s.tv b s.X s.fs s.bs f) (fun s f _ => ll_run rowQ fillQ _ (rdOf B) y p2 p5 mb s.a B av s.v s.tv b s.X s.fs s.bs f) ?_
 rintro - ⟨a, v, tv, X, fs, bs⟩ f hs ns
 obtain ⟨hL, hk, hX, hbs, hfs, hflt, hV, hW, hn, hm, ha⟩ := hs
 simp only at hk hX hbs hfs hflt hV hW hn hm ha
 have hR := hL.at_
 simp only [ll_R, Sy.Res.holds]
 refine ⟨fun hlt => ?_, fun hge => ?_⟩
 ·have hlt : bs.length < acts.length := by rw [Ex.ltQ_eq, hR.len] at hlt; simpa using hlt
  obtain ⟨a', hg⟩ : ∃ n, acts[bs.length]? = some n := ⟨_, List.getElem?_eq_getElem hlt⟩
  obtain rfl : a = a' := ha a' hg
  obtain ⟨iv, ev, fv, hA⟩ := hR.act bs.length a hg
  have hd := drop_cons hg
  rw [hd] at hX hbs hfs hflt
  simp only [layL, begF, posF, faultF] at hX hbs hfs hflt
  have hl20 := hL.len _ _ hg
  have up : ∀ {x : Nat} {u : Value}, HasL (rdOf B) (Sy.ptrS av) x u → HasL ((rowB v X ++ fillB y tv fs).map Sy.ownOf ++ rdOf B) (Sy.ptrS av) x u := fun ⟨p, hp, h⟩ => ⟨p, Sy.mR _ hp, h⟩
  refine ⟨⟨hR.at_ (fun h => by rw [h] at hlt; simp at hlt), by simp, by rw [hR.len]; simpa using hlt⟩, ⟨_, up hA.op⟩, fun e0 => ⟨⟨_, up hA.dst⟩, fun e1 => ⟨⟨_, up hA.base⟩, fun e2 => ⟨⟨_, up hA.size⟩, fun e3 => ⟨⟨_, up hA.ivc⟩, fun e4 => ⟨⟨_, up hA.evc⟩, fun e5 => ⟨⟨_, up hA.fvc⟩, fun e6 => ⟨⟨_, up hA.mode⟩, fun e7 => ⟨⟨_, up hA.to⟩, fun e8 => ⟨⟨_, up hA.line⟩, fun e9 => ⟨⟨_, up hA.col⟩, fun e10 => ?_⟩⟩⟩⟩⟩⟩⟩⟩⟩⟩⟩
  have e0 := e0 _ (up hA.op)
  have e1 := e1 _ (up hA.dst)
  have e2 := e2 _ (up hA.base)
  have e3 := e3 _ (up hA.size)
  have e4 := e4 _ (up hA.ivc)
  have e5 := e5 _ (up hA.evc)
  have e6 := e6 _ (up hA.fvc)
  have e7 := e7 _ (up hA.mode)
  have e8 := e8 _ (up hA.to)
  have e9 := e9 _ (up hA.line)
  have e10 := e10 _ (up hA.col)
  simp only [Value.int.injEq, true_and] at e0 e1 e2 e3 e7 e8 e9 e10
  rw [← e0, ← e1, ← e2, ← e3, ← e4, ← e5, ← e6, ← e7, ← e8, ← e9, ← e10]
  refine ⟨⟨trivial, trivial, ?_⟩, trivial, fun _ => ⟨⟨iv, ev, fv, rfl, hL.ok _ _ hg iv ev fv hA.i hA.e hA.f, hV, hW, by omega, by omega⟩, List.Perm.refl _, gotL_of (fun p hp => hp), fun hk2 => ?_⟩⟩
  ·obtain ⟨_, _, _, h1⟩ := hA.i.1.sl
   obtain ⟨_, _, _, h2⟩ := hA.e.1.sl
   obtain ⟨_, _, _, h3⟩ := hA.f.1.sl
   simp [h1, h2, h3, Value.oneCell']
  ·obtain ⟨kV, kW⟩ := hk2
   have hlen : (X ++ preI a ++ tailB b a).length = X.length + (insA b a).length := by simp [insA]
   have hlv : Sy.lenS (letW [ns 12, ns 13, ns 14, ns 15, ns 16] 0) = X.length + (insA b a).length := by
    rw [RowV.len kV]
    exact hlen
   have hz : ∀ x : Int, Ex.eqQ x 0 = true ↔ x = 0 := fun x => by rw [Ex.eqQ_eq]; simp
   have hbig : ∀ n : Nat, Ex.ltQ 16383 (Int.ofNat n) = true ↔ 16383 < n := fun n => by rw [Ex.ltQ_eq]; simp; omega
   refine ⟨fun h0 => ?_, fun h0 => ?_⟩
   ·have h0 := (hz _).1 h0
    rw [if_neg (by simp [h0])] at hflt
    refine ⟨fun hB => ?_, fun hB => ⟨fun hN => ?_, fun _ => ?_⟩⟩
    ·simp only [cond_true] at hB
     rw [hlv] at hB
     rw [if_pos ((hbig _).1 hB)] at hflt
     have hf : fltV b acts = (31, a.line, a.col) := by rw [fltV, hflt]; rfl
     refine ⟨rfl, .inr ⟨by simp, _, Sy.mH, rfl, [Let.none, Let.none, Let.none], rfl, ⟨[1, 2], rfl⟩, ?_, by rw [hflt]; simp⟩⟩
     show Sy.Ent _ [⟨p5, faultC (fltV b acts).1 (fltV b acts).2.1 (fltV b acts).2.2, true⟩]
     rw [hf]
     exact Sy.Ent.sub (.cons _ (.cons _ (.cons _ (.cons_cons _ (List.nil_sublist _)))))
    ·rw [h0] at hN
     exact absurd hN (by rw [Ex.eqQ_eq]; simp)
    ·simp only [cond_true] at hB
     rw [hlv] at hB
     have hB : ¬ 16383 < X.length + (insA b a).length := fun h => by
      rw [(hbig _).2 h] at hB
      cases hB
     rw [if_neg hB] at hflt
     have hbl : (bs ++ [Int.ofNat (Sy.lenS v)]).length = bs.length + 1 := by simp
     refine ⟨rfl, .inl ⟨rfl, ⟨acts.getD (bs.length + 1) a, letW [ns 12, ns 13, ns 14, ns 15, ns 16] 0, letW [ns 12, ns 13, ns 14, ns 15, ns 16] 1, X ++ preI a ++ tailB b a, fs ++ brF a [ns 12, ns 13, ns 14, ns 15, ns 16] (X ++ preI a), bs ++ [Int.ofNat (Sy.lenS v)]⟩, ?_, ?_, ?_, ?_⟩⟩
     ·refine ⟨hL, by rw [hbl]; exact hlt, ?_, ?_, ?_, ?_, kV, kW, ?_, ?_, fun x hx => ?_⟩
      ·rw [hbl, hX]
       simp [insA]
      ·rw [hbl, hbs, hlen, hV.len]
       simp
      ·rw [hbl, hfs, hlen, List.map_append]
       have : (brF a [ns 12, ns 13, ns 14, ns 15, ns 16] (X ++ preI a)).map posOf = posA X.length a := by
        unfold brF posA
        split
        ·simp [posOf, newF]
        ·rfl
       rw [this, List.append_assoc]
      ·rw [hbl, hflt, hlen]
      ·show (X ++ preI a ++ tailB b a).length ≤ 16383
       omega
      ·show (fs ++ brF a _ (X ++ preI a)).length ≤ (X ++ preI a ++ tailB b a).length
       have : (brF a [ns 12, ns 13, ns 14, ns 15, ns 16] (X ++ preI a)).length ≤ (tailB b a).length := by
        unfold brF
        split
        ·rename_i hop
         rcases hop with hop | hop <;> cases b <;> simp [tailB, tailL, tailI, hop]
        ·simp
       simp only [List.length_append] at this ⊢
       omega
      ·show acts.getD (bs.length + 1) a = x
       rw [List.getD_eq_getElem?_getD]
       simp only [hbl] at hx
       rw [hx]
       rfl
     ·show acts.length - (bs ++ [_]).length < acts.length - bs.length
      rw [hbl]
      omega
     ·show _ = slL y p2 p5 av (bs ++ [_]).length
      rw [hbl, w_succ (by have := hR.lt; omega)]
      rfl
     ·show Sy.Ent _ (memL y p5 mb b B _)
      unfold memL
      rw [h0]
      refine Sy.Ent.trans (Sy.Ent.sub (.cons_cons _ (.cons_cons _ (.cons _ (.cons_cons _ (.refl _)))))) (Sy.Ent.perm (.cons _ (.cons _ (.cons _ ?_))))
      exact List.perm_append_comm
   ·have h0 : actE 0 a ≠ 0 := fun h => by
     rw [(hz _).2 h] at h0
     cases h0
    rw [if_pos h0] at hflt
    refine ⟨fun _ => ?_, fun hN => ?_⟩
    ·have hf : fltV b acts = (actE 0 a, a.line, a.col) := by rw [fltV, hflt]; rfl
     refine ⟨rfl, .inr ⟨by simp, _, Sy.mH, rfl, [Let.none, Let.none, Let.none], rfl, ⟨[1, 2], rfl⟩, ?_, by rw [hflt]; simp⟩⟩
     show Sy.Ent _ [⟨p5, faultC (fltV b acts).1 (fltV b acts).2.1 (fltV b acts).2.2, true⟩]
     rw [hf]
     exact Sy.Ent.sub (.cons _ (.cons _ (.cons _ (.cons_cons _ (List.nil_sublist _)))))
    ·have : Ex.eqQ (actE 0 a) 0 = true := by simpa using hN
     exact absurd ((hz _).1 this) h0
 ·have hge : bs.length = acts.length := by rw [Ex.ltQ_eq, hR.len] at hge; simp at hge; omega
  rw [hge, List.drop_length] at hX hbs hfs hflt
  simp only [layL, begF, posF, faultF, List.append_nil] at hX hbs hfs hflt
  have hfl : fsL b acts [letV v, letV tv, ⟨0, 0, false, undef, namesF fs⟩] = fs := by
   show mkFs (namesF fs) (posF b 0 acts) = fs
   rw [hfs]
   exact mkFs_of fs
  refine ⟨rfl, .inr ⟨by simp, _, Sy.mC _ (Sy.mS _), rfl, [letV v, letV tv, ⟨0, 0, false, undef, namesF fs⟩], rfl, ⟨[0, 2, 3], rfl⟩, ?_, ?_⟩⟩
  ·show Sy.Ent _ (([(y, layC (slV v) (.map (some mb)) (slV tv) 0 b), (mb, .obj (begM (begF b 0 acts))), (p5, faultC 0 0 0)] ++ (rowB v (layL b acts) ++ fillB y tv (fsL b acts [letV v, letV tv, ⟨0, 0, false, undef, namesF fs⟩]))).map Sy.ownOf)
   rw [hfl, hX, hbs]
   exact Sy.Ent.sub (.cons_cons _ (.cons_cons _ (.cons_cons _ (List.sublist_append_left _ _))))
  ·refine ⟨hflt, ?_, ?_, ?_, ?_⟩
   ·rw [hX]
    exact hV
   ·rw [hfl]
    exact hW
   ·rw [hfl, hfs]
   ·rw [hX]
    exact hn
open Go Go.RowKit
open Go.Proofs.YtlpcnaeknbmjdaaGreat.Sy (Let Blk HasL)
open Lw (I insCells tI)
theorem lk_aux {W : World} {r : Nat} {es : List MapEntry} {c i : Nat} {k : Int} {v : Value} (h : W.heap[r]? = some (.map es.toArray c)) (hf : Instr.findNow (.int .i64) (.int .i64 k) es 0 = some (some (i, v))) : (Instr.lookup tMp (.map (some r)) (.int .i64 k) false).run Tryz.prog W = .ok v W := by
 simp [Instr.lookup, run_underlying und_mp, gm_run h, ck_run, fk_run hf]
theorem lk_run {W : World} {r : Nat} {bs : List Int} (h : W.heap[r]? = some (begM bs)) {n : Nat} {x : Int} (hx : bs[n]? = some x) : (Instr.lookup tMp (.map (some r)) (.int .i64 (Int.ofNat n)) false).run Tryz.prog W = .ok (.int .i64 x) W := by
 have := find_some .i64 n x bs 0 0 hx
 rw [Nat.zero_add] at this
 exact lk_aux h this
def lkK (r : Nat) (bs : List Int) (n : Nat) (x : Int) : Sy.OpK :=
 ⟨Sy.opV (Instr.lookup tMp (.map (some r)) (.int .i64 (Int.ofNat n)) false), bs[n]? = some x, ⟨⟨[(r, .obj (begM bs))], [], 0, []⟩, [(⟨fun _ => True, fun _ => [], fun _ => []⟩, fun _ => some (.int .i64 x))]⟩⟩
theorem lkK_met (r : Nat) (bs : List Int) (n : Nat) (x : Int) : (lkK r bs n x).meets Tryz.prog := fun hx W hpre => by
 have hat : W.heap[r]? = some (begM bs) := hpre.rd (r, .obj (begM bs)) (Sy.mS _)
 refine ⟨_, Sy.mS _, [], W, Sy.opV_run (lk_run hat hx), ⟨rfl, trivial, rfl, rfl, rfl, Nat.le_refl _, fun k hk hu => rfl, fun p hp => (by cases hp), by simp, fun p hp => (by cases hp), by simp, fun p hp q hq => (by cases hq)⟩⟩
def ctxFi (mb : Nat) (bs : List Int) (n : Nat) (x : Int) : Sy.Ctx := Sy.mkS [] [] [(fFill, 13, fun _ _ => lkK mb bs n x)]
theorem ctxFi_holds (mb : Nat) (bs : List Int) (n : Nat) (x : Int) : (ctxFi mb bs n x).holds Tryz.prog := Sy.mkS_holds (fun _ h => (by cases h)) (fun _ h => (by cases h)) (fun p hp a L => by
 rcases List.mem_singleton.1 hp with rfl
 exact lkK_met _ _ _ _)
def fi_o : Sy.O := (bz 104 0x800019800d8020207833097cde (fork (bz 175 0x44b58200004000b000400225be1800012ec600004bb1 nil) (bz 34 0x200004bb1 (fork (bz 141 0x112d60800010002c001000896f8600004bb1 nil) (bz 145 0x112d60800010002c00112d860000400225be1 nil)))))
noncomputable def fi_R (y yb tb ab mb g cap len : Nat) (at' to : Nat) (tv : Value) (b : Bool) (bs : List Int) (x : Int) (xs : List Value) (ns : Nat → Sy.Let) : Sy.Res (Value × List Blk) :=
 let z0 := Int.ofNat at'
 let z1 := Nat.succ (Nat.succ (Nat.succ (0 + Int.toNat z0 * 6)))
 let z2 := need (bs[to]? = some x) (hyp True (need (0 ≤ Int.ofNat at' ∧ Int.ofNat at' < (↑len : Int)) (need (Nat.succ z1 < List.length xs) (leaf (Value.tuple (Array.mk []), [Blk.mk mb (Sy.Cont.obj (begM bs)) false, Blk.mk yb (.obj (.cells (Array.mk [.pointer (some ⟨y, 0, none⟩)]) 128)) false, Blk.mk tb (.obj (.cells (Array.mk [.int .i64 (Int.ofNat to)]) 3)) false, Blk.mk ab (.obj (.cells (Array.mk [.int .i64 z0]) 3)) false, Blk.mk y (layC (Value.slice (some ⟨g, 0, none⟩) len cap) (Value.map (some mb)) (Value.slice (slP tv) (Sy.lenS tv) (slC tv)) 0 b) false, Blk.mk g (Sy.Cont.row 49 6 len cap (List.set xs (Nat.succ z1) (Value.int .i64 (Ex.wrapQ .i64 (Ex.subQ' x z0))))) true])))))
 both z2 (both z2 z2)
theorem fi_run (y yb tb ab mb g cap len at' to : Nat) (tv : Value) (b : Bool) (bs : List Int) (x : Int) (xs : List Value) : Sy.Ran (Sy.inB Tryz.prog (ctxFi mb bs to x) 50 fFill #[.pointer (some ⟨yb, 0, none⟩), .pointer (some ⟨tb, 0, none⟩), .pointer (some ⟨ab, 0, none⟩)] [⟨yb, .obj (.cells #[.pointer (some ⟨y, 0, none⟩)] 128 (0, 0)), false⟩, ⟨tb, .obj (.cells #[.int .i64 (Int.ofNat to)] 3 (0, 0)), false⟩, ⟨ab, .obj (.cells #[.int .i64 (Int.ofNat at')] 3 (0, 0)), false⟩, ⟨y, layC (.slice (some ⟨g, 0, none⟩) len cap) (.map (some mb)) (slV tv) 0 b, false⟩, ⟨mb, .obj (begM bs), false⟩, ⟨g, .row tI 6 len cap xs, true⟩]) fi_o (fi_R y yb tb ab mb g cap len at' to tv b bs x xs) := ⟨fun _ => by kernel_rfl, fun _ => by kernel_rfl⟩
def setImm : List I → Nat → Int → List I
 | [], _, _ => []
 | i :: r, 0, v => { i with imm := v } :: r
 | i :: r, n + 1, v => i :: setImm r n v
theorem setImm_len (X : List I) (n : Nat) (v : Int) : (setImm X n v).length = X.length := by
 induction X generalizing n with
 | nil => rfl
 | cons i r ih => cases n <;> simp [setImm, ih]
theorem insCells_cons (i : I) (r : List I) : insCells (i :: r) = .int .i64 i.op :: .int .i64 i.rd :: .int .i64 i.rn :: .int .i64 i.rm :: .int .i64 i.imm :: .int .i64 i.cond :: insCells r := rfl
theorem setImm_cells (X : List I) (n : Nat) (v : Int) : insCells (setImm X n v) = (insCells X).set (n * 6 + 4) (.int .i64 v) := by
 induction X generalizing n with
 | nil => simp [setImm, insCells]
 | cons i r ih =>
   cases n with
   | zero => simp [setImm, insCells_cons]
   | succ n =>
     simp only [setImm, insCells_cons]
     rw [ih, show (n + 1) * 6 + 4 = (n * 6 + 4) + 6 by omega]
     rfl
def fiC (y yb tb ab mb g cap at' to : Nat) (tv : Value) (b : Bool) (bs : List Int) (x : Int) (X : List I) : Sy.CallC :=
 ⟨fFill, #[.pointer (some ⟨yb, 0, none⟩), .pointer (some ⟨tb, 0, none⟩), .pointer (some ⟨ab, 0, none⟩)], bs[to]? = some x ∧ at' < X.length ∧ X.length ≤ 2000000 ∧ 0 ≤ x ∧ x ≤ 2000000,
  ⟨[(yb, .obj (.cells #[.pointer (some ⟨y, 0, none⟩)] 128 (0, 0))), (tb, .obj (.cells #[.int .i64 (Int.ofNat to)] 3 (0, 0))), (ab, .obj (.cells #[.int .i64 (Int.ofNat at')] 3 (0, 0))), (y, layC (.slice (some ⟨g, 0, none⟩) X.length cap) (.map (some mb)) (slV tv) 0 b), (mb, .obj (begM bs))],
   [(g, .row tI 6 X.length cap (insCells X))], 0, []⟩, [(⟨fun _ => True, fun _ => [(g, .row tI 6 X.length cap (insCells (setImm X at' (x - at'))))], fun _ => []⟩, fun _ => .tuple #[])]⟩
theorem fiC_met (y yb tb ab mb g cap at' to : Nat) (tv : Value) (b : Bool) (bs : List Int) (x : Int) (X : List I) : Sy.Meets Tryz.prog (fiC y yb tb ab mb g cap at' to tv b bs x X) := by
 refine Sy.meets_ofB (ctxFi_holds mb bs to x) mixed (L := [⟨yb, .obj (.cells #[.pointer (some ⟨y, 0, none⟩)] 128 (0, 0)), false⟩, ⟨tb, .obj (.cells #[.int .i64 (Int.ofNat to)] 3 (0, 0)), false⟩, ⟨ab, .obj (.cells #[.int .i64 (Int.ofNat at')] 3 (0, 0)), false⟩, ⟨y, layC (.slice (some ⟨g, 0, none⟩) X.length cap) (.map (some mb)) (slV tv) 0 b, false⟩, ⟨mb, .obj (begM bs), false⟩, ⟨g, .row tI 6 X.length cap (insCells X), true⟩]) (Sy.Ent.refl _) (fi_run y yb tb ab mb g cap X.length at' to tv b bs x (insCells X)) fun hok ns => ?_
 obtain ⟨hx, hat, hl, h0, h1⟩ := hok
 have hw : Ex.wrapQ .i64 (Ex.subQ' x (Int.ofNat at')) = x - at' := by
  rw [Ex.wrapQ_eq, Ex.subQ_eq]
  simp [IntKind.wrap, IntKind.signed, IntKind.bits]
  omega
 have hi : Nat.succ (Nat.succ (Nat.succ (Nat.succ (0 + Int.toNat (Int.ofNat at') * 6)))) = at' * 6 + 4 := by
  simp only [Int.ofNat_eq_natCast, Int.toNat_natCast]
  omega
 simp only [fi_R, Sy.Res.holds]
 rw [hw, hi, ← setImm_cells]
 have key : ∀ A : List Blk, Sy.leafB (fiC y yb tb ab mb g cap at' to tv b bs x X) (.tuple #[], A ++ [⟨g, .row tI 6 X.length cap (insCells (setImm X at' (x - at'))), true⟩]) := fun A =>
  ⟨_, Sy.mS _, [], rfl, rfl, Sy.Ent.sub (List.sublist_append_right _ _), trivial⟩
 have hlt : at' * 6 + 4 < (insCells X).length := by
  rw [ins_len]
  omega
 have hb : (0 : Int) ≤ Int.ofNat at' ∧ Int.ofNat at' < (X.length : Int) := ⟨by simp, by simpa using hat⟩
 exact ⟨⟨hx, fun _ => ⟨hb, hlt, key [_, _, _, _, _]⟩⟩, ⟨hx, fun _ => ⟨hb, hlt, key [_, _, _, _, _]⟩⟩, ⟨hx, fun _ => ⟨hb, hlt, key [_, _, _, _, _]⟩⟩⟩
open Go Go.RowKit
open Go.Proofs.YtlpcnaeknbmjdaaGreat.Sy (Let Blk HasL)
open Lw (I insCells tI)
def Sy.adr (v : Value) : Addr := match v with
 | .pointer (some a) => a
 | _ => ⟨0, 0, none⟩
def ldK (w : Fw) (y : Nat) (tv : Value) (fs : List Fl) (j : Nat) (f : Fl) (a : Sy.F) : Sy.OpK :=
 ⟨Sy.opV (loadVar tFn (Sy.adr (a.get 90))), w.V tv fs ∧ Sy.adr (a.get 90) = ⟨Sy.ptrS (slV tv), j, none⟩ ∧ fs[j]? = some f, ⟨⟨[], [], 0, w.B y tv fs⟩, [(⟨fun _ => True, fun _ => [], fun _ => []⟩, fun _ => some (flV f))]⟩⟩
def fiB (q : Rw) (y mb : Nat) (v tv : Value) (b : Bool) (bs : List Int) (x : Int) (X : List I) (f : Fl) (args : Array Value) : Sy.CallC :=
 ⟨fFill, args, args = #[.pointer (some ⟨f.yb, 0, none⟩), .pointer (some ⟨f.tb, 0, none⟩), .pointer (some ⟨f.ab, 0, none⟩)] ∧ q.V v X ∧ 0 ≤ f.to ∧ 0 ≤ f.at' ∧ bs[f.to.toNat]? = some x ∧ f.at'.toNat < X.length ∧ X.length ≤ 2000000 ∧ 0 ≤ x ∧ x ≤ 2000000,
  ⟨[(y, layC (slV v) (.map (some mb)) (slV tv) 0 b), (mb, .obj (begM bs))], q.B v X, 0, flB y f⟩, [(⟨fun _ => True, fun _ => [], fun _ => q.B v (setImm X f.at'.toNat (x - f.at'))⟩, fun _ => .tuple #[])]⟩
def ctxFl (q : Rw) (w : Fw) (y mb : Nat) (v tv : Value) (b : Bool) (bs : List Int) (x : Int) (X : List I) (fs : List Fl) (j : Nat) (f : Fl) (R : List Blk) : Sy.Ctx :=
 Sy.mkU (Sy.mkS [] [] [(fLaid, 91, fun a _ => ldK w y tv fs j f a)]) [(fFill, fun args _ => (fiB q y mb v tv b bs x X f args).toU [] (q.B v X) R)] []
def slF (y p5 : Nat) (tv : Value) (j : Nat) : List (Nat × Value) := [(5, .pointer (some ⟨p5, 0, none⟩)), (6, .pointer (some ⟨y, 0, none⟩)), (86, slV tv), (87, .int .i64 (Int.ofNat (Sy.lenS tv))), (88, .int .i64 (Int.ofNat j))]
def lf_o : Sy.O := (fork (bz 26 0x296dd96 nil) nil)
noncomputable def lf_R (q : Rw) (w : Fw) (TL R : List Blk) (y p5 mb : Nat) (v tv : Value) (b : Bool) (bs : List Int) (x : Int) (X : List I) (fs : List Fl) (j : Nat) (f : Fl) (h : Nat → Value) (ns : Nat → Sy.Let) : Sy.Res (Exit × Nat × List Value × List Blk) :=
 let z0 := Int.ofNat j
 let z1 := Sy.lenS tv
 let z2 := Int.ofNat z1
 let z3 := Value.slice (slP tv) z1 (slC tv)
 let z4 := Sy.ptrS z3
 let z5 := [Value.pointer (some (Addr.mk (Fl.yb f) 0 none)), Value.pointer (some (Addr.mk (Fl.tb f) 0 none)), Value.pointer (some (Addr.mk (Fl.ab f) 0 none))]
 let z6 := some (Addr.mk y 0 none)
 let z7 := some (Addr.mk p5 0 none)
 let z8 := layC (Value.slice (slP v) (Sy.lenS v) (slC v)) (Value.map (some mb)) z3 0 b
 let z9 := Sy.Cont.obj (begM bs)
 br (Ex.ltQ z0 z2) (need ((∃ (n : Nat), ∃ (c : Nat), Value.slice (slP tv) z1 (slC tv) = Value.slice (some (Addr.mk z4 (Sy.offS z3) none)) n c) ∧ 0 ≤ Int.ofNat j ∧ Int.ofNat j < (↑z1 : Int)) (need (w.2 tv fs ∧ Addr.mk z4 (Sy.offS z3 + Int.toNat z0 * 1) none = Addr.mk z4 j none ∧ fs[j]? = some f) (need (Sy.GotL TL (w.1 y tv fs)) (hyp True (need (Array.mk z5 = Array.mk z5 ∧ q.2 v X ∧ 0 ≤ Fl.to f ∧ 0 ≤ Fl.at' f ∧ bs[Int.toNat (Fl.to f)]? = some x ∧ Int.toNat (Fl.at' f) < List.length X ∧ List.length X ≤ 2000000 ∧ 0 ≤ x ∧ x ≤ 2000000) (need (List.Perm TL ((List.map Sy.ownOf (q.1 v X)).append R)) (need (Sy.GotL R [(Fl.ab f, Sy.Cont.obj (Obj.cells (Array.mk [.int .i64 (Fl.at' f)]) 3)), (Fl.tb f, Sy.Cont.obj (Obj.cells (Array.mk [.int .i64 (Fl.to f)]) 3)), (Fl.yb f, Sy.Cont.obj (Obj.cells (Array.mk [.pointer z6]) 128))]) (hyp True (leaf (Exit.normal, 100, [Value.pointer z7, Value.pointer z6, Value.slice (slP tv) z1 (slC tv), Value.int .i64 z2, Value.int .i64 (Ex.wrapQ .i64 (Ex.addQ z0 1))], Blk.mk y z8 true :: Blk.mk mb z9 true :: R.append (List.map Sy.ownOf (q.1 v (setImm X (Int.toNat (Fl.at' f)) (x - Fl.at' f)))))))))))))) (leaf (Exit.exit 2, 100, [Value.pointer z7, Value.pointer z6, Value.slice (slP tv) z1 (slC tv), Value.int .i64 z2, Value.int .i64 z0], Blk.mk y z8 true :: Blk.mk mb z9 true :: TL))
theorem lf_run (q : Rw) (w : Fw) (TL R : List Blk) (y p5 mb : Nat) (v tv : Value) (b : Bool) (bs : List Int) (x : Int) (X : List I) (fs : List Fl) (j : Nat) (f : Fl) (h : Nat → Value) : Sy.Ran (Sy.pieceT Tryz.prog (ctxFl q w y mb v tv b bs x X fs j f R) 50 fLaid bodyF 100 (slF y p5 tv j) ((List.range 100).map h) (⟨y, layC (slV v) (.map (some mb)) (slV tv) 0 b, true⟩ :: ⟨mb, .obj (begM bs), true⟩ :: TL) [5, 6, 86, 87, 88]) lf_o (lf_R q w TL R y p5 mb v tv b bs x X fs j f h) := ⟨fun _ => by kernel_rfl, fun _ => by kernel_rfl⟩
theorem agg_fn : Sy.aggOf Tryz.prog tFn = some false := by kernel_rfl
theorem ldK_met (y : Nat) (tv : Value) (fs : List Fl) (j : Nat) (f : Fl) (a : Sy.F) : (ldK fillQ y tv fs j f a).meets Tryz.prog := by
 rintro ⟨hF, hadr, hj⟩ W hpre
 rcases hF with ⟨rfl, -⟩ | ⟨g, hg, hn, hc, hne⟩
 ·simp at hj
 have hrow : frowB tv fs = [(g, .row tFn 1 fs.length (slC tv) (fs.map flV))] := by
  unfold frowB
  rw [hg]
  rfl
 have hat := hpre.rb (g, .row tFn 1 fs.length (slC tv) (fs.map flV)) (by
  show _ ∈ fillB y tv fs
  rw [fillB, hrow]
  exact Sy.mH)
 have hp : Sy.ptrS (slV tv) = g := by
  show Sy.ptrS (.slice (slP tv) _ _) = g
  rw [hg]
  rfl
 rw [hp] at hadr
 have hct : (Sy.Cont.row tFn 1 fs.length (slC tv) (fs.map flV)).at j = some (flV f) := by
  show (fs.map flV)[j]? = some (flV f)
  rw [List.getElem?_map, hj]
  rfl
 refine ⟨_, Sy.mS _, [], W, ?_, ⟨rfl, trivial, rfl, rfl, rfl, Nat.le_refl _, fun k hk hu => rfl, fun p hp => (by cases hp), by simp, fun p hp => (by cases hp), by simp, fun p hp q hq => (by cases hq)⟩⟩
 show (Sy.opV (loadVar tFn (Sy.adr (a.get 90)))).run _ W = .ok (.value (flV f)) W
 rw [hadr]
 refine Sy.opV_run ?_
 have h0 : W.cell? ⟨g, j, none⟩ = some (flV f) := Sy.cell_at rfl hat rfl hct
 unfold loadVar
 simp [Sy.run_isAgg agg_fn, h0]
theorem fiB_met (y mb : Nat) (v tv : Value) (b : Bool) (bs : List Int) (x : Int) (X : List I) (f : Fl) (args : Array Value) : Sy.Meets Tryz.prog (fiB rowQ y mb v tv b bs x X f args) := by
 rintro ⟨rfl, hX, hto, hat, hx, hlt, hl, h0, h1⟩ W hpre
 rcases hX with ⟨rfl, -⟩ | ⟨g, hg, hn, hc, hne⟩
 ·simp at hlt
 have hrow : ∀ Z : List I, rowB v Z = [(g, .row tI 6 Z.length (slC v) (insCells Z))] := fun Z => by
  unfold rowB
  rw [hg]
  rfl
 have hv : slV v = .slice (some ⟨g, 0, none⟩) X.length (slC v) := by rw [slV, hg, hn]
 have e1 : f.to = Int.ofNat f.to.toNat := by simp only [Int.ofNat_eq_natCast]; omega
 have e2 : f.at' = Int.ofNat f.at'.toNat := by simp only [Int.ofNat_eq_natCast]; omega
 have hu : (fiB rowQ y mb v tv b bs x X f #[.pointer (some ⟨f.yb, 0, none⟩), .pointer (some ⟨f.tb, 0, none⟩), .pointer (some ⟨f.ab, 0, none⟩)]).mem.use = [(g, .row tI 6 X.length (slC v) (insCells X))] := hrow X
 have hL : (y, layC (slV v) (.map (some mb)) (slV tv) 0 b) ∈ (fiB rowQ y mb v tv b bs x X f #[.pointer (some ⟨f.yb, 0, none⟩), .pointer (some ⟨f.tb, 0, none⟩), .pointer (some ⟨f.ab, 0, none⟩)]).mem.rd := Sy.mH
 have hM : (mb, Sy.Cont.obj (begM bs)) ∈ (fiB rowQ y mb v tv b bs x X f #[.pointer (some ⟨f.yb, 0, none⟩), .pointer (some ⟨f.tb, 0, none⟩), .pointer (some ⟨f.ab, 0, none⟩)]).mem.rd := Sy.mC _ Sy.mH
 have hB : ∀ p ∈ flB y f, p ∈ (fiB rowQ y mb v tv b bs x X f #[.pointer (some ⟨f.yb, 0, none⟩), .pointer (some ⟨f.tb, 0, none⟩), .pointer (some ⟨f.ab, 0, none⟩)]).mem.rb := fun p hp => hp
 have hmem : ∀ p ∈ (fiC y f.yb f.tb f.ab mb g (slC v) f.at'.toNat f.to.toNat tv b bs x X).mem.rd, p ∈ [(y, layC (slV v) (.map (some mb)) (slV tv) 0 b), (mb, Sy.Cont.obj (begM bs))] ∨ p ∈ flB y f := fun p hp => by
  simp only [fiC, List.mem_cons, List.not_mem_nil, or_false] at hp
  rcases hp with rfl | rfl | rfl | rfl | rfl
  ·exact .inr (Sy.mC _ (Sy.mC _ Sy.mH))
  ·rw [← e1]
   exact .inr (Sy.mC _ Sy.mH)
  ·rw [← e2]
   exact .inr Sy.mH
  ·rw [← hv]
   exact .inl Sy.mH
  ·exact .inl (Sy.mC _ Sy.mH)
 refine Calls.mono (fiC_met y f.yb f.tb f.ab mb g (slC v) f.at'.toNat f.to.toNat tv b bs x X ⟨hx, hlt, hl, h0, h1⟩ W ⟨fun p hp => ?_, fun p hp => ?_, List.nodup_cons.2 ⟨by simp, List.nodup_nil⟩, fun p hp q hq => ?_, fun p hp => (by cases hp), fun p hp => (by cases hp)⟩) ?_
 ·rcases hmem p hp with h | h
  ·exact hpre.rd p h
  ·exact hpre.rb p h
 ·exact hpre.use p (by rw [hu]; exact hp)
 ·have hq : q ∈ (fiB rowQ y mb v tv b bs x X f #[.pointer (some ⟨f.yb, 0, none⟩), .pointer (some ⟨f.tb, 0, none⟩), .pointer (some ⟨f.ab, 0, none⟩)]).mem.use := by rw [hu]; exact hq
  rcases hmem p hp with h | h
  ·exact hpre.apart p h q hq
  ·exact hpre.apartB p h q hq
 ·rintro en W' ⟨o, ho, ns, he, h⟩
  rcases List.mem_singleton.1 ho with rfl
  have hnb : rowB v (setImm X f.at'.toNat (x - f.at')) = [(g, .row tI 6 X.length (slC v) (insCells (setImm X f.at'.toNat (x - f.at'.toNat))))] := by
   rw [hrow, setImm_len, Int.toNat_of_nonneg hat]
  refine ⟨_, Sy.mS _, ns, he, ⟨h.len, trivial, h.os, h.tape, h.output, h.size, fun k hk hq => h.old k hk (fun p hp => hq p (by rw [hu]; exact hp)), fun p hp => (by cases hp), List.nodup_nil, fun p hp => ?_, ?_, fun p hp => (by cases hp)⟩⟩
  ·have hp : p ∈ rowB v (setImm X f.at'.toNat (x - f.at')) := hp
   rw [hnb] at hp
   have := h.nw p hp
   refine ⟨?_, this.2⟩
   rw [hu]
   exact this.1
  ·show ((rowB v (setImm X f.at'.toNat (x - f.at'))).map (·.1)).Nodup
   rw [hnb]
   exact h.nodup
def begAt (bs : List Int) (f : Fl) : Int := bs.getD f.to.toNat 0
def fill1 (bs : List Int) (X : List I) (f : Fl) : List I := setImm X f.at'.toNat (begAt bs f - f.at')
def fillAll (bs : List Int) (X : List I) (fs : List Fl) : List I := fs.foldl (fill1 bs) X
theorem fillAll_len (bs : List Int) (X : List I) (fs : List Fl) : (fillAll bs X fs).length = X.length := by
 induction fs generalizing X with
 | nil => rfl
 | cons f r ih =>
   show (fillAll bs (fill1 bs X f) r).length = _
   rw [ih, fill1, setImm_len]
structure OkF (bs : List Int) (X : List I) (fs : List Fl) : Prop where
 f : ∀ (j : Nat) (f : Fl), fs[j]? = some f → 0 ≤ f.to ∧ 0 ≤ f.at' ∧ f.to.toNat < bs.length ∧ f.at'.toNat < X.length
 b : ∀ (i : Nat) (x : Int), bs[i]? = some x → 0 ≤ x ∧ x ≤ 2000000
 n : X.length ≤ 2000000
 m : fs.length ≤ 2000000
def fillsC (q : Rw) (w : Fw) (y p5 mb : Nat) (v tv : Value) (b : Bool) (bs : List Int) (X : List I) (fs : List Fl) : Sy.LoopC :=
 ⟨.loop bodyF, 100, slF y p5 tv 0, q.V v X ∧ w.V tv fs ∧ OkF bs X fs, ⟨[], [(y, layC (slV v) (.map (some mb)) (slV tv) 0 b), (mb, .obj (begM bs))] ++ q.B v X, 0, w.B y tv fs⟩,
  [(⟨fun _ => True, fun _ => [(y, layC (slV v) (.map (some mb)) (slV tv) 0 b), (mb, .obj (begM bs))], fun _ => q.B v (fillAll bs X fs)⟩, .exit 2, fun _ => [(5, .pointer (some ⟨p5, 0, none⟩)), (6, .pointer (some ⟨y, 0, none⟩))])]⟩
theorem ctxFl_holds (y mb : Nat) (v tv : Value) (b : Bool) (bs : List Int) (x : Int) (X : List I) (fs : List Fl) (j : Nat) (f : Fl) (R : List Blk) : (ctxFl rowQ fillQ y mb v tv b bs x X fs j f R).holds Tryz.prog := Sy.mkU_holds (Sy.mkS_holds (fun _ h => (by cases h)) (fun _ h => (by cases h)) (fun p hp a L => by
 rcases List.mem_singleton.1 hp with rfl
 exact ldK_met _ _ _ _ _ _)) (fun p hp args L => by
 rcases List.mem_singleton.1 hp with rfl
 exact fiB_met _ _ _ _ _ _ _ _ _ _) (fun _ h => (by cases h))
theorem RowV.to {v : Value} {X Z : List I} (h : RowV v X) (hl : Z.length = X.length) : RowV v Z := by
 rcases h with ⟨rfl, h⟩ | ⟨g, h1, h2, h3, h4⟩
 ·exact .inl ⟨List.eq_nil_of_length_eq_zero (by simpa using hl), h⟩
 ·exact .inr ⟨g, h1, by rw [h2, hl], by rw [hl]; exact h3, fun he => h4 (List.eq_nil_of_length_eq_zero (by rw [← hl, he]; rfl))⟩
theorem fillsC_met (y p5 mb : Nat) (v tv : Value) (b : Bool) (bs : List Int) (X : List I) (fs : List Fl) : Sy.MeetsL Tryz.prog (fillsC rowQ fillQ y p5 mb v tv b bs X fs) := by
 refine Sy.loop_ofB (σ := Nat × Fl × List I) (S := fun s => ctxFl rowQ fillQ y mb v tv b bs (begAt bs s.2.1) s.2.2 fs s.1 s.2.1 (rdOf (fillB y tv fs))) (n := 50) (fn := fLaid) (fun _ => ctxFl_holds _ _ _ _ _ _ _ _ _ _ _ _) mixed (body := bodyF) rfl [5, 6, 86, 87, 88] (fun s => slF y p5 tv s.1)
  (fun s => ⟨y, layC (slV v) (.map (some mb)) (slV tv) 0 b, true⟩ :: ⟨mb, .obj (begM bs), true⟩ :: ((rowB v s.2.2).map Sy.ownOf ++ rdOf (fillB y tv fs)))
  (fun s => s.1 ≤ fs.length ∧ (RowV v X ∧ FillV tv fs ∧ OkF bs X fs) ∧ s.2.2.length = X.length ∧ fillAll bs X fs = fillAll bs s.2.2 (fs.drop s.1) ∧ ∀ f, fs[s.1]? = some f → s.2.1 = f) (fun s => fs.length - s.1)
  (0, fs.headD ⟨0, 0, 0, 0, 0⟩, X) (fun h => ⟨Nat.zero_le _, h, rfl, rfl, fun a ha => by cases fs <;> simp_all⟩) (fun p hp => hp) (Sy.Ent.refl _) (o := fun _ => lf_o)
  (R := fun s h => lf_R rowQ fillQ ((rowB v s.2.2).map Sy.ownOf ++ rdOf (fillB y tv fs)) (rdOf (fillB y tv fs)) y p5 mb v tv b bs (begAt bs s.2.1) s.2.2 fs s.1 s.2.1 h) (fun s h _ => lf_run rowQ fillQ _ (rdOf (fillB y tv fs)) y p5 mb v tv b bs (begAt bs s.2.1) s.2.2 fs s.1 s.2.1 h) ?_
 rintro - ⟨j, f, Z⟩ h ⟨hj, ⟨hV, hF, hO⟩, hZ, hall, hf⟩ ns
 simp only at hj hZ hall hf
 have hlen : Sy.lenS tv = fs.length := by
  rcases hF with ⟨rfl, -, h, -⟩ | ⟨_, -, h, -⟩
  ·simpa using h
  ·exact h
 simp only [lf_R, Sy.Res.holds]
 refine ⟨fun hlt => ?_, fun hge => ?_⟩
 ·have hlt : j < fs.length := by rw [Ex.ltQ_eq, hlen] at hlt; simpa using hlt
  obtain ⟨f', hg⟩ : ∃ n, fs[j]? = some n := ⟨_, List.getElem?_eq_getElem hlt⟩
  obtain rfl : f = f' := hf f' hg
  obtain ⟨o1, o2, o3, o4⟩ := hO.f _ _ hg
  have hd : fs.drop j = f :: fs.drop (j + 1) := by
   rw [List.drop_eq_getElem_cons hlt, (List.getElem?_eq_some_iff.1 hg).2]
  have hx : bs[f.to.toNat]? = some (begAt bs f) := by
   rw [begAt, List.getD_eq_getElem?_getD, List.getElem?_eq_getElem o3]
   rfl
  obtain ⟨x0, x1⟩ := hO.b _ _ hx
  have hslit : ∃ g, slP tv = some ⟨g, 0, none⟩ := by
   rcases hF with ⟨rfl, -⟩ | ⟨g, h, -⟩
   ·simp at hlt
   ·exact ⟨g, h⟩
  obtain ⟨g, hg'⟩ := hslit
  refine ⟨⟨⟨_, _, by rw [hg']; rfl⟩, by simp, by rw [hlen]; simpa using hlt⟩, ⟨hF, ?_, hg⟩, gotL_of (fun p hp => Sy.mR _ hp), fun _ => ⟨⟨trivial, hV.to hZ, o1, o2, hx, by rw [hZ]; exact o4, by rw [hZ]; exact hO.n, x0, x1⟩, List.Perm.refl _, gotL_of (fun p hp => ?_), fun _ => ?_⟩⟩
  ·rw [hg']
   simp [Sy.offS]
  ·refine List.mem_map.2 ?_
   obtain ⟨p', hp', rfl⟩ := List.mem_map.1 hp
   refine ⟨p', Sy.mR _ ?_, rfl⟩
   have hbox : ∀ (l : List Fl), f ∈ l → ∀ p ∈ flB y f, p ∈ boxB y l := fun l => by
    induction l with
    | nil => intro h; cases h
    | cons g r ih =>
      intro h p hp
      rcases List.mem_cons.1 h with rfl | h
      ·exact Sy.mR _ hp
      ·exact Sy.mL _ (ih h p hp)
   exact hbox fs (List.mem_of_getElem? hg) p' hp'
  ·refine ⟨rfl, .inl ⟨rfl, (j + 1, fs.getD (j + 1) f, fill1 bs Z f), ⟨hlt, ⟨hV, hF, hO⟩, by rw [fill1, setImm_len, hZ], ?_, fun x hx => ?_⟩, ?_, ?_, ?_⟩⟩
   ·rw [hall, hd]
    rfl
   ·simp only at hx
    show fs.getD (j + 1) f = x
    rw [List.getD_eq_getElem?_getD, hx]
    rfl
   ·show fs.length - (j + 1) < fs.length - j
    omega
   ·rw [w_succ (by have := hO.m; omega)]
    rfl
   ·exact Sy.Ent.perm (.cons _ (.cons _ List.perm_append_comm))
 ·have hge : j = fs.length := by rw [Ex.ltQ_eq, hlen] at hge; simp at hge; omega
  subst hge
  rw [List.drop_length] at hall
  refine ⟨rfl, .inr ⟨by simp, _, Sy.mS _, rfl, [], rfl, ⟨[0, 1], rfl⟩, ?_, trivial⟩⟩
  show Sy.Ent _ (([(y, layC (slV v) (.map (some mb)) (slV tv) 0 b), (mb, .obj (begM bs))] ++ rowB v (fillAll bs X fs)).map Sy.ownOf)
  rw [hall]
  exact Sy.Ent.sub (.cons_cons _ (.cons_cons _ (List.sublist_append_left _ _)))
open Go Go.RowKit
open Go.Proofs.YtlpcnaeknbmjdaaGreat.Sy (Let Blk HasL)
open Lw (I insCells tI)
def others (T U : List Blk) : List Blk := @Classical.epsilon (List Blk) ⟨[]⟩ fun R => T.Perm (U ++ R)
theorem others_spec {T U R : List Blk} (h : T.Perm (U ++ R)) : T.Perm (U ++ others T U) ∧ (others T U).Perm R := by
 have h1 : T.Perm (U ++ others T U) := @Classical.epsilon_spec _ (fun R => T.Perm (U ++ R)) ⟨R, h⟩
 exact ⟨h1, (List.perm_append_left_iff U).1 (h1.symm.trans h)⟩
def fsIn (y : Nat) (tv : Value) (pos : List (Int × Int)) (L : List Blk) : List Fl := @Classical.epsilon (List Fl) ⟨[]⟩ fun fs => Sy.GotL L (fillB y tv fs) ∧ FillV tv fs ∧ fs.map posOf = pos
theorem fsIn_spec {y : Nat} {tv : Value} {pos : List (Int × Int)} {L : List Blk} {fs : List Fl} (h : Sy.GotL L (fillB y tv fs) ∧ FillV tv fs ∧ fs.map posOf = pos) : Sy.GotL L (fillB y tv (fsIn y tv pos L)) ∧ FillV tv (fsIn y tv pos L) ∧ (fsIn y tv pos L).map posOf = pos :=
 @Classical.epsilon_spec _ (fun fs => Sy.GotL L (fillB y tv fs) ∧ FillV tv fs ∧ fs.map posOf = pos) ⟨fs, h⟩
def Sy.tvY (L : List Blk) : Value := Sy.nthV (Sy.newest tY L) 2
def Sy.mbY (L : List Blk) : Nat := match Sy.nthV (Sy.newest tY L) 1 with
 | .map (some r) => r
 | _ => 0
def Sy.dropB (n : Nat) (L : List Blk) : List Blk := @Nat.rec (fun _ => List Blk → List Blk) (fun l => l) (fun _ ih l => match l with
 | _ :: r => ih r
 | [] => []) n L
def upN (r : Nat) (bs : List Int) (n : Nat) (x z : Int) : Sy.OpK :=
 ⟨(do Instr.mapUpdate tMp (.map (some r)) (.int .i64 (Int.ofNat n)) (.int .i64 x); pure .skip), n = bs.length ∧ x = z, (upK r bs z).c⟩
theorem upN_met (r : Nat) (bs : List Int) (n : Nat) (x z : Int) : (upN r bs n x z).meets Tryz.prog := fun h => by
 obtain ⟨h, h2⟩ : n = bs.length ∧ x = z := h
 subst h h2
 exact upK_met r bs x trivial
abbrev hltI : I := ⟨34, 0, 0, 0, 0, 0⟩
def begAll (b : Bool) (acts : List ActD) : List Int := begF b 0 acts ++ [Int.ofNat (layL b acts).length]
def hltL (b : Bool) (acts : List ActD) : List I := layL b acts ++ [hltI]
def fillU (q : Rw) (w : Fw) (b : Bool) (acts : List ActD) (k : Nat) (bs : List Int) (a : Sy.F) (L : List Blk) : Sy.LoopU :=
 (fillsC q w (Sy.ptrN (a.get 6)) (Sy.ptrN (a.get 5)) (Sy.mbY L) (Sy.vY L) (Sy.tvY L) b bs (hltL b acts) (fsIn (Sy.ptrN (a.get 6)) (Sy.tvY L) (posF b 0 acts) (others (Sy.dropB k L) ((q.B (Sy.vY L) (hltL b acts)).map Sy.ownOf)))).toU
  [(Sy.ptrN (a.get 6), layC (slV (Sy.vY L)) (.map (some (Sy.mbY L))) (slV (Sy.tvY L)) 0 b), (Sy.mbY L, .obj (begM bs))] (q.B (Sy.vY L) (hltL b acts)) (others (Sy.dropB k L) ((q.B (Sy.vY L) (hltL b acts)).map Sy.ownOf))
def ctxLd (q : Rw) (w : Fw) (b : Bool) (acts : List ActD) (av : Value) (B : List (Nat × Sy.Cont)) (k1 k2 : Nat) : Sy.Ctx :=
 Sy.mkU (Sy.mkS [] [(fLaid, fun a L => laidC (Sy.ptrN (a.get 6)) (Sy.ptrN (a.get 2)) (Sy.ptrN (a.get 5)) (Sy.mbY L) av b acts B)] [(fLaid, 900000, fun a L => upN (Sy.mbY L) (begF b 0 acts) (Sy.lenS av) (Int.ofNat (Sy.lenS (Sy.vY L))) (Int.ofNat (layL b acts).length))])
  [(fPut, fun a L => (putL q (Sy.ptrN (Sy.argV a 0)) (Sy.ptrN (Sy.argV a 1)) (Sy.capN (Sy.argV a 1)) (Sy.vY L) (.map (some (Sy.mbY L))) (slV (Sy.tvY L)) 0 b (layL b acts) [hltI]).toU [(Sy.ptrN (Sy.argV a 0), layC (slV (Sy.vY L)) (.map (some (Sy.mbY L))) (slV (Sy.tvY L)) 0 b)] (q.B (Sy.vY L) (layL b acts)) (others (Sy.dropB k1 L) ((q.B (Sy.vY L) (layL b acts)).map Sy.ownOf)))]
  [(fLaid, fillU q w b acts k2 (begAll b acts))]
def ld0_o : Sy.O := (bz 24 0xab6eb1 (fork (bz 9 0x13d nil) (bz 201 0x10638fa28abfb15746bac00060036004010080a81e086c4bc6a nil)))
noncomputable def ld0_R (q : Rw) (w : Fw) (TL : List Blk) (b : Bool) (acts : List ActD) (loc : Int) (av : Value) (B : List (Nat × Sy.Cont)) (ns : Nat → Sy.Let) : Sy.Res (Value × List Blk) :=
 let z0 := (∃ (p : Option Addr), ∃ (n : Nat), ∃ (c : Nat), av = Value.slice p n c)
 let z1 := Prod.snd (fltV b acts)
 let z2 := [ns 4, ns 5, ns 6]
 let z3 := letW z2 0
 let z4 := layL b acts
 let z5 := letW z2 1
 let z6 := fsL b acts z2
 let z7 := begF b 0 acts
 let z8 := Value.slice (slP z3) (Sy.lenS z3) (slC z3)
 let z9 := [I.mk 34 0 0 0 0 0]
 let z10 := ns 3
 let z11 := (rowB z3 z4).append ((frowB z5 z6).append (boxB z10.n z6))
 let z12 := TL.append (List.map Sy.ownOf z11)
 let z13 := List.map Sy.ownOf (q.1 z8 z4)
 let z14 := lv0 [ns 9]
 let z15 := z4.append z9
 let z16 := Value.slice (slP z14) (Sy.lenS z14) (slC z14)
 let z17 := Sy.lenS z5
 let z18 := Value.slice (slP z5) z17 (slC z5)
 let z19 := posF b 0 acts
 let z20 := List.map Sy.ownOf (q.1 z14 z15)
 let z21 := (others z12 z13).append z20
 let z22 := q.1 z16 z15
 let z23 := List.map Sy.ownOf z22
 let z24 := others z21 z23
 let z25 := fsIn z10.n z18 z19 z24
 let z26 := z7.append [Int.ofNat (List.length z4)]
 let z27 := q.2 z16 z15 ∧ w.2 z18 z25 ∧ OkF z26 z15 z25
 let z28 := (5, Value.pointer (some ⟨(ns 1).n, 0, none⟩))
 let z29 := (6, Value.pointer (some (Addr.mk z10.n 0 none)))
 let z30 := [z28, z29, (86, Value.slice (slP z5) z17 (slC z5)), (87, Value.int .i64 (Int.ofNat z17)), (88, Value.int .i64 0)]
 let z31 := w.1 z10.n z18 z25
 let z32 := fun (x : List Let) => True
 let z33 := [(z10.n, layC z16 (Value.map (some (ns 2).n)) z18 0 b), ((ns 2).n, Sy.Cont.obj (begM z26))]
 let z34 := fun (x : List Let) => z33
 let z35 := fun (p : Nat × Sy.Cont) => Blk.mk (Prod.fst p) (Prod.snd p) true
 let z36 := TL.append (List.map z35 z11)
 let z37 := Sy.LoopU.rest (Sy.LoopU.mk (Code.loop bodyF) 100 z30 z27 [] 0 z31 [(Sy.OutM.mk z32 z34 fun (x : List Let) => q.1 z16 (fillAll z26 z15 (fsIn z10.n z18 z19 (others ((others z36 z13).append z20) z23))), Exit.exit 2, fun (x : List Let) => [z28, z29])] z33 z22 z24)
 let z38 := others z36 (List.map z35 (q.1 z8 z4))
 let z39 := fsIn z10.n z18 z19 (others (z38.append z20) z23)
 need z0 (need (OkL B av acts) (need (Sy.GotL TL B) (both (hyp (faultF b 0 acts = none → False) (leaf (Value.tuple (Array.mk [.slice none 0 0, Value.agg (Array.mk [.int .i64 (Prod.fst (fltV b acts)), .int .i64 (Prod.fst z1), .int .i64 (Prod.snd z1)])]), TL))) (hyp (faultF b 0 acts = none ∧ RowV z3 z4 ∧ FillV z5 z6 ∧ List.map posOf z6 = posF b 0 acts ∧ List.length z4 ≤ 16383) (need z0 (need (Sy.lenS av = List.length z7 ∧ Int.ofNat (Sy.lenS z3) = Int.ofNat (List.length z4)) (hyp True (need (q.2 z8 z4 ∧ z9 ≠ [] ∧ List.length z4 + (1 : Nat) ≤ 2000000) (need (List.Perm z12 (z13.append (others z12 z13))) (hyp (q.2 z14 z15) (need z27 (need (List.Perm z21 (z23.append z37)) (need (Sy.GotL z37 z31) (hyp True (leaf (Value.tuple (Array.mk [.slice (slP z14) (Sy.lenS z14) (slC z14), Value.agg (Array.mk [.int .i64 0, .int .i64 0, .int .i64 0])]), List.append (Sy.LoopU.rest (Sy.LoopU.mk (Code.loop bodyF) 100 z30 (q.2 z16 z15 ∧ w.2 z18 z39 ∧ OkF z26 z15 z39) [] 0 z31 [(Sy.OutM.mk z32 z34 fun (x : List Let) => q.1 z16 (fillAll z26 z15 (fsIn z10.n z18 z19 (others (z38.append (List.map z35 (q.1 z14 z15))) (List.map z35 z22)))), Exit.exit 2, fun (x : List Let) => [z28, z29])] z33 z22 z24)) (List.map Sy.ownOf (q.1 z16 (fillAll z26 z15 z25)))))))))))))))))))
theorem ld0_run (q : Rw) (w : Fw) (TL : List Blk) (b : Bool) (acts : List ActD) (loc : Int) (av : Value) (B : List (Nat × Sy.Cont)) : Sy.Ran (Sy.inY Tryz.prog (ctxLd q w b acts av B 5 5) 50 fLaid #[thrV loc av, .bool b] TL 0) ld0_o (ld0_R q w TL b acts loc av B) := ⟨fun _ => by kernel_rfl, fun _ => by kernel_rfl⟩
end Go.Proofs.YtlpcnaeknbmjdaaGreat.Gn
end
