/-
  LowerValues: the call, explored.
-/
import Derived.Test.YtgaejhhipnpopaaLwVd
namespace Go.Proofs.Ytgaejhhipnpopaa
set_option linter.unusedVariables false
set_option linter.unusedSimpArgs false
open Go Go.RowKit
open Sy (Let Blk)

noncomputable def xNo (g o c : Nat) (l : List Nd) (k : Int) (q : Nat) : Sy.CallC := ⟨fTX, txArgs g o c l k, lenOk l ∧ (badX l k ∧ q = 0 ∨ regX l k ∧ q = 29), ⟨[(g, .seg o (ndCells l))], [], 0⟩, [Sy.plainO (.tuple #[.slice none 0 0, .int .i64 (.ofNat (.succ q))])]⟩
theorem xNo_met (g o c : Nat) (l : List Nd) (k : Int) (q : Nat) : Sy.Meets Try.prog (xNo g o c l k q) := by
  rintro ⟨hl, ⟨h, rfl⟩ | ⟨h, rfl⟩⟩
  · exact txBad_met g o c l k ⟨hl, h⟩
  · exact txReg_met g o c l k ⟨hl, h⟩
noncomputable def adNo (g o c : Nat) (l : List Nd) (b s k : Int) (q : Nat) : Sy.CallC := ⟨fAd, adArgs g o c l b s k, lenOk l ∧ (aBad b s l k ∧ q = 0 ∨ aReg b s l k ∧ q = 29), ⟨[(g, .seg o (ndCells l))], [], 0⟩, [Sy.plainO (.tuple #[.slice none 0 0, .int .i64 (.ofNat (.succ q))])]⟩
theorem adNo_met (g o c : Nat) (l : List Nd) (b s k : Int) (q : Nat) : Sy.Meets Try.prog (adNo g o c l b s k q) := by
  rintro ⟨hl, ⟨h, rfl⟩ | ⟨h, rfl⟩⟩
  · exact adW_met .bad g o c l b s k ⟨hl, h⟩
  · exact adW_met .reg g o c l b s k ⟨hl, h⟩
noncomputable def xE0 (A : Option Addr) (c : Nat) (k : Int) : Sy.CallC := ⟨fTX, #[.slice A 0 c, .int .i64 k], True, ⟨[], [], 0⟩, [Sy.plainO (.tuple #[.slice none 0 0, .int .i64 1])]⟩
def xe0_o : Sy.O := (Sy.O.steps [0, 0, 0, 0, 0, 0, 0, 0, 0, 0, 0] Sy.O.nil)
noncomputable def xe0_R (A : Option Addr) (c : Nat) (k : Int) (ns : Nat → Sy.Let) : Sy.Res (Value × List Blk) := Sy.Res.need True
 (Sy.Res.hyp True
 (Sy.Res.leaf (Value.tuple (Array.mk [Value.slice none (0 : Nat) (0 : Nat), Value.int IntKind.i64 (1 : Int)]), [])))
theorem xe0_run (A : Option Addr) (c : Nat) (k : Int) : Sy.Ran (Sy.inT Try.prog (ctxE A c) 60 fTX (xE0 A c k).args [] Sy.noB) xe0_o (xe0_R A c k) := ⟨fun ns => by kernel_rfl, fun ns => by kernel_rfl⟩

abbrev fVals : FuncId := 7
def valsArgs (e : Value) (k b s : Int) (u : Value) : Array Value := #[e, .int .i64 k, .int .i64 b, .int .i64 s, u]
noncomputable def Sy.xW (w : Bool) (g o c : Nat) (l : List Nd) (k : Int) (q : Nat) : Sy.CallC := match w with
  | true => xOk fTX (txArgs g o c l k) g o l k
  | false => xNo g o c l k q
noncomputable def Sy.adV (w : Bool) (g o c : Nat) (l : List Nd) (b s k : Int) (q : Nat) : Sy.CallC := match w with
  | true => adOk fAd (adArgs g o c l b s k) g o l b s k
  | false => adNo g o c l b s k q
/-- What is called with a row of nodes. -/
noncomputable def ctxV (w w' : Bool) (r : Sy.CallC) (g o c : Nat) (l : List Nd) (k b s : Int) (q q' : Nat) (xs ys zs : List Int) : Sy.Ctx := Sy.mkS [(fAwake, fun _ _ => awC), (fRegs, fun _ _ => r), (fTX, fun _ _ => Sy.xW w g o c l k q), (fAd, fun _ _ => Sy.adV w' g o c l b s k q'),
  (fRun, fun a _ => runC (Sy.ptrN (Sy.argV a 1)) 0 (Sy.capN (Sy.argV a 1)) (outL l k) xs ys), (fRun, fun a _ => runC (Sy.ptrN (Sy.argV a 1)) 0 (Sy.capN (Sy.argV a 1)) (addrL b s l k) xs zs),
  (fAt, fun a _ => atC g o c l l.length (Sy.ptrN (Sy.argV a 2)) (Sy.capN (Sy.argV a 2)) xs (Sy.argI a 1)), (fLoc, fun a _ => locC g o c l (Sy.ptrN (Sy.argV a 1)) (Sy.capN (Sy.argV a 1)) xs b s),
  (fKept, fun a _ => keptC k 29 xs ys), (fKept, fun a _ => keptC k 30 xs zs)] [] []
/-- What is called with no nodes. -/
noncomputable def ctxW (w : WayE) (r : Sy.CallC) (A : Option Addr) (c : Nat) (k b s : Int) (xs zs : List Int) : Sy.Ctx := Sy.mkS [(fAwake, fun _ _ => awC), (fRegs, fun _ _ => r), (fTX, fun _ _ => xE0 A c k), (fAd, fun _ _ => Sy.aeW w fAd (aeArgs A c b s k) b s k),
  (fRun, fun a _ => runC (Sy.ptrN (Sy.argV a 1)) 0 (Sy.capN (Sy.argV a 1)) (numL 29 (65536 + 8 * b)) xs zs), (fKept, fun a _ => keptC k 30 xs zs)] [] []
def vRtt_o : Sy.O := (Sy.O.steps [0, 0, 0, 1, 0, 0, 1, 0, 2, 0, 2, 1, 0, 0, 0, 0, 0, 1, 0, 0, 1, 2, 3, 0, 4, 0, 5, 0, 6, 0, 1, 7, 0, 0, 1, 1, 1, 8, 0, 9, 0, 10, 0, 23, 0, 0, 2, 2, 1, 2, 3, 0, 1, 4, 12, 0, 13, 14, 15] (Sy.O.fork (Sy.O.steps [16, 0, 17, 0, 18, 0, 19, 0, 20, 0] Sy.O.nil) (Sy.O.steps [3, 1, 0, 16, 0, 0, 1, 0, 17, 0, 23, 0, 0, 1, 2, 3, 0, 1, 4, 19, 0, 20] (Sy.O.fork Sy.O.nil (Sy.O.steps [0, 0, 0, 2, 1, 0, 1, 0, 0, 0, 1, 0, 0, 0, 0, 0, 1, 2, 3, 0, 4, 0, 0, 5, 0, 1, 1, 1, 1, 6, 0, 0, 0, 7, 0, 8, 0, 24, 0, 0, 3, 3, 1, 2, 3, 4, 0, 1, 5, 6, 7, 10, 0, 11, 0, 12, 0, 13, 0, 14] (Sy.O.steps [15, 16] (Sy.O.fork (Sy.O.steps [17, 0, 18, 0, 19, 0, 20, 0, 21, 0] Sy.O.nil) (Sy.O.steps [4, 1, 0, 17, 0, 1, 1, 0, 18, 0, 24, 0, 1, 1, 2, 3, 4, 0, 1, 5, 6, 7, 20, 0, 21] (Sy.O.fork Sy.O.nil Sy.O.nil)))))))))
noncomputable def vRtt_R (gu : Nat) (ou : Nat) (cu : Nat) (mu : Nat) (ul : List Int) (g : Nat) (o : Nat) (c : Nat) (l : List Nd) (k : Int) (b : Int) (s : Int) (q : Nat) (q' : Nat) (xs : List Int) (ys : List Int) (zs : List Int) (ns : Nat → Sy.Let) : Sy.Res (Value × List Blk) := Sy.Res.need True
 (Sy.Res.hyp True
 (Sy.Res.need (List.length ul = mu + (1 : Nat) ∧ xs = regsAt ul mu (31 : Nat))
 (Sy.Res.hyp True
 (Sy.Res.need
 ((34 : Nat) = Array.size (Array.mk (regC xs)) ∧
 (34 : Nat) = Array.size (Array.mk (regC xs)) ∧
 (Array.all (Array.mk (regC xs)) fun (x : Value) => Value.oneCell' x) = true)
 (Sy.Res.need (lenOk l ∧ okX l k)
 (Sy.Res.hyp (Nat.le (List.length (outL l k)) (Let.n (ns (2 : Nat))))
 (Sy.Res.need (Array.size (Array.mk (regC xs)) = (34 : Nat))
 (Sy.Res.need
 (List.length xs = (34 : Nat) ∧
 List.length ys = (34 : Nat) ∧
 List.length (outL l k) ≤ (1000000000 : Nat) ∧ runL xs (outL l k) = some ys)
 (Sy.Res.hyp True
 (Sy.Res.need
 ((34 : Nat) = Array.size (Array.mk (regC ys)) ∧
 (34 : Nat) = Array.size (Array.mk (regC ys)) ∧
 (Array.all (Array.mk (regC ys)) fun (x : Value) => Value.oneCell' x) = true)
 (Sy.Res.need
 ((0 : Int) ≤ Ex.wrapQ IntKind.i64 (Ex.addQ (24 : Int) k) ∧
 Ex.wrapQ IntKind.i64 (Ex.addQ (24 : Int) k) < (32 : Int))
 (Sy.Res.need
 (∃ (i : Int),
 Sy.Cont.at (Sy.Cont.obj (Obj.cells (Array.mk (regC ys)) (42 : Nat)))
 ((0 : Nat) + Int.toNat (Ex.wrapQ IntKind.i64 (Ex.addQ (24 : Int) k)) * (1 : Nat)) =
 some (Value.int IntKind.u64 i))
 (Sy.Res.hyp
 (Sy.Cont.at (Sy.Cont.obj (Obj.cells (Array.mk (regC ys)) (42 : Nat)))
 ((0 : Nat) + Int.toNat (Ex.wrapQ IntKind.i64 (Ex.addQ (24 : Int) k)) * (1 : Nat)) =
 some (Value.int IntKind.u64 (Let.i (ns (4 : Nat)))))
 (Sy.Res.need
 (((isExpr (24 : Int) l ∧ goodN l) ∧ List.length xs = (34 : Nat) ∧ goodLoc xs) ∧
 (0 : Int) ≤ Ex.wrapQ IntKind.i64 (Ex.subQ' (↑(List.length l) : Int) (1 : Int)) ∧
 Ex.wrapQ IntKind.i64 (Ex.subQ' (↑(List.length l) : Int) (1 : Int)) <
 (↑(List.length l) : Int) ∧
 Ex.wrapQ IntKind.i64 (Ex.subQ' (↑(List.length l) : Int) (1 : Int)) <
 (↑(List.length l) : Int))
 (Sy.Res.hyp True
 (Sy.Res.br
 (bif false then true
 else
 !Ex.eqQ (Let.i (ns (4 : Nat)))
 (evalE xs
 (tr l
 (Int.toNat
 (Ex.wrapQ IntKind.i64 (Ex.subQ' (↑(List.length l) : Int) (1 : Int)))))))
 (Sy.Res.leaf (Value.bool false, []))
 (Sy.Res.need (Array.size (Array.mk (regC xs)) = (34 : Nat))
 (Sy.Res.need (Array.size (Array.mk (regC ys)) = (34 : Nat))
 (Sy.Res.need
 ((List.length xs = (34 : Nat) ∧ List.length ys = (34 : Nat)) ∧
 (0 : Int) ≤ k ∧ k < (5 : Int))
 (Sy.Res.hyp True
 (Sy.Res.br (bif false then true else !tru (keptP xs ys k (29 : Int)))
 (Sy.Res.leaf (Value.bool false, []))
 (Sy.Res.need (lenOk l ∧ aOk b s l k)
 (Sy.Res.hyp (Nat.le (List.length (addrL b s l k)) (Let.n (ns (6 : Nat))))
 (Sy.Res.need (Array.size (Array.mk (regC xs)) = (34 : Nat))
 (Sy.Res.need
 (List.length xs = (34 : Nat) ∧
 List.length zs = (34 : Nat) ∧
 List.length (addrL b s l k) ≤ (1000000000 : Nat) ∧
 runL xs (addrL b s l k) = some zs)
 (Sy.Res.hyp True
 (Sy.Res.need
 ((34 : Nat) = Array.size (Array.mk (regC zs)) ∧
 (34 : Nat) = Array.size (Array.mk (regC zs)) ∧
 (Array.all (Array.mk (regC zs)) fun (x : Value) =>
 Value.oneCell' x) =
 true)
 (Sy.Res.need
 (∃ (i : Int),
 Sy.Cont.at
 (Sy.Cont.obj
 (Obj.cells (Array.mk (regC zs)) (42 : Nat)))
 (29 : Nat) =
 some (Value.int IntKind.u64 i))
 (Sy.Res.hyp
 (Sy.Cont.at
 (Sy.Cont.obj
 (Obj.cells (Array.mk (regC zs)) (42 : Nat)))
 (29 : Nat) =
 some (Value.int IntKind.u64 (Let.i (ns (9 : Nat)))))
 (Sy.Res.need
 ((lenOk l ∧ isExpr (24 : Int) l) ∧
 (List.length xs = (34 : Nat) ∧ goodLoc xs) ∧
 isPow s ∧ (0 : Int) ≤ b ∧ b ≤ (4096 : Int) - s)
 (Sy.Res.hyp True
 (Sy.Res.br
 (bif false then true
 else
 !Ex.eqQ (Let.i (ns (9 : Nat)))
 (Ex.wrapQ IntKind.u64
 (Ex.wrapQ IntKind.i64
 (Ex.addQ (65536 : Int)
 (Ex.wrapQ IntKind.i64
 (Ex.mulQ (8 : Int) (locV xs l b s)))))))
 (Sy.Res.leaf (Value.bool false, []))
 (Sy.Res.need
 (Array.size (Array.mk (regC xs)) = (34 : Nat))
 (Sy.Res.need
 (Array.size (Array.mk (regC zs)) = (34 : Nat))
 (Sy.Res.need
 ((List.length xs = (34 : Nat) ∧
 List.length zs = (34 : Nat)) ∧
 (0 : Int) ≤ k ∧ k < (5 : Int))
 (Sy.Res.hyp True
 (Sy.Res.br
 (bif false then true
 else !tru (keptP xs zs k (30 : Int)))
 (Sy.Res.leaf (Value.bool false, []))
 (Sy.Res.leaf
 (Value.bool true,
 [])))))))))))))))))))))))))))))))))))))))
theorem vRtt_run (gu ou cu mu : Nat) (ul : List Int) (g o c : Nat) (l : List Nd) (k b s : Int) (q q' : Nat) (xs ys zs : List Int) : Sy.Ran (Sy.inT Try.prog (ctxV true true (regsC gu ou cu mu ul xs) g o c l k b s q q' xs ys zs) 60 fVals (valsArgs (.slice (some ⟨g, o, none⟩) l.length c) k b s (.slice (some ⟨gu, ou, none⟩) (.succ mu) cu)) [⟨g, .seg o (ndCells l), false⟩, ⟨gu, .seg ou (numC8 ul), false⟩] Sy.noB) vRtt_o (vRtt_R gu ou cu mu ul g o c l k b s q q' xs ys zs) := ⟨fun ns => by kernel_rfl, fun ns => by kernel_rfl⟩
def vRtf_o : Sy.O := (Sy.O.steps [0, 0, 0, 1, 0, 0, 1, 0, 2, 0, 2, 1, 0, 0, 0, 0, 0, 1, 0, 0, 1, 2, 3, 0, 4, 0, 5, 0, 6, 0, 1, 7, 0, 0, 1, 1, 1, 8, 0, 9, 0, 10, 0, 23, 0, 0, 2, 2, 1, 2, 3, 0, 1, 4, 12, 0, 13, 14, 15] (Sy.O.fork (Sy.O.steps [16, 0, 17, 0, 18, 0, 19, 0, 20, 0] Sy.O.nil) (Sy.O.steps [3, 1, 0, 16, 0, 0, 1, 0, 17, 0, 23, 0, 0, 1, 2, 3, 0, 1, 4, 19, 0, 20] (Sy.O.fork Sy.O.nil (Sy.O.steps [0, 0, 0] Sy.O.nil)))))
noncomputable def vRtf_R (gu : Nat) (ou : Nat) (cu : Nat) (mu : Nat) (ul : List Int) (g : Nat) (o : Nat) (c : Nat) (l : List Nd) (k : Int) (b : Int) (s : Int) (q : Nat) (q' : Nat) (xs : List Int) (ys : List Int) (zs : List Int) (ns : Nat → Sy.Let) : Sy.Res (Value × List Blk) := Sy.Res.need True
 (Sy.Res.hyp True
 (Sy.Res.need (List.length ul = mu + (1 : Nat) ∧ xs = regsAt ul mu (31 : Nat))
 (Sy.Res.hyp True
 (Sy.Res.need
 ((34 : Nat) = Array.size (Array.mk (regC xs)) ∧
 (34 : Nat) = Array.size (Array.mk (regC xs)) ∧
 (Array.all (Array.mk (regC xs)) fun (x : Value) => Value.oneCell' x) = true)
 (Sy.Res.need (lenOk l ∧ okX l k)
 (Sy.Res.hyp (Nat.le (List.length (outL l k)) (Let.n (ns (2 : Nat))))
 (Sy.Res.need (Array.size (Array.mk (regC xs)) = (34 : Nat))
 (Sy.Res.need
 (List.length xs = (34 : Nat) ∧
 List.length ys = (34 : Nat) ∧
 List.length (outL l k) ≤ (1000000000 : Nat) ∧ runL xs (outL l k) = some ys)
 (Sy.Res.hyp True
 (Sy.Res.need
 ((34 : Nat) = Array.size (Array.mk (regC ys)) ∧
 (34 : Nat) = Array.size (Array.mk (regC ys)) ∧
 (Array.all (Array.mk (regC ys)) fun (x : Value) => Value.oneCell' x) = true)
 (Sy.Res.need
 ((0 : Int) ≤ Ex.wrapQ IntKind.i64 (Ex.addQ (24 : Int) k) ∧
 Ex.wrapQ IntKind.i64 (Ex.addQ (24 : Int) k) < (32 : Int))
 (Sy.Res.need
 (∃ (i : Int),
 Sy.Cont.at (Sy.Cont.obj (Obj.cells (Array.mk (regC ys)) (42 : Nat)))
 ((0 : Nat) + Int.toNat (Ex.wrapQ IntKind.i64 (Ex.addQ (24 : Int) k)) * (1 : Nat)) =
 some (Value.int IntKind.u64 i))
 (Sy.Res.hyp
 (Sy.Cont.at (Sy.Cont.obj (Obj.cells (Array.mk (regC ys)) (42 : Nat)))
 ((0 : Nat) + Int.toNat (Ex.wrapQ IntKind.i64 (Ex.addQ (24 : Int) k)) * (1 : Nat)) =
 some (Value.int IntKind.u64 (Let.i (ns (4 : Nat)))))
 (Sy.Res.need
 (((isExpr (24 : Int) l ∧ goodN l) ∧ List.length xs = (34 : Nat) ∧ goodLoc xs) ∧
 (0 : Int) ≤ Ex.wrapQ IntKind.i64 (Ex.subQ' (↑(List.length l) : Int) (1 : Int)) ∧
 Ex.wrapQ IntKind.i64 (Ex.subQ' (↑(List.length l) : Int) (1 : Int)) <
 (↑(List.length l) : Int) ∧
 Ex.wrapQ IntKind.i64 (Ex.subQ' (↑(List.length l) : Int) (1 : Int)) <
 (↑(List.length l) : Int))
 (Sy.Res.hyp True
 (Sy.Res.br
 (bif false then true
 else
 !Ex.eqQ (Let.i (ns (4 : Nat)))
 (evalE xs
 (tr l
 (Int.toNat
 (Ex.wrapQ IntKind.i64 (Ex.subQ' (↑(List.length l) : Int) (1 : Int)))))))
 (Sy.Res.leaf (Value.bool false, []))
 (Sy.Res.need (Array.size (Array.mk (regC xs)) = (34 : Nat))
 (Sy.Res.need (Array.size (Array.mk (regC ys)) = (34 : Nat))
 (Sy.Res.need
 ((List.length xs = (34 : Nat) ∧ List.length ys = (34 : Nat)) ∧
 (0 : Int) ≤ k ∧ k < (5 : Int))
 (Sy.Res.hyp True
 (Sy.Res.br (bif false then true else !tru (keptP xs ys k (29 : Int)))
 (Sy.Res.leaf (Value.bool false, []))
 (Sy.Res.need
 (lenOk l ∧
 (aBad b s l k ∧ q' = (0 : Nat) ∨ aReg b s l k ∧ q' = (29 : Nat)))
 (Sy.Res.hyp True
 (Sy.Res.leaf (Value.bool true, [])))))))))))))))))))))))))
theorem vRtf_run (gu ou cu mu : Nat) (ul : List Int) (g o c : Nat) (l : List Nd) (k b s : Int) (q q' : Nat) (xs ys zs : List Int) : Sy.Ran (Sy.inT Try.prog (ctxV true false (regsC gu ou cu mu ul xs) g o c l k b s q q' xs ys zs) 60 fVals (valsArgs (.slice (some ⟨g, o, none⟩) l.length c) k b s (.slice (some ⟨gu, ou, none⟩) (.succ mu) cu)) [⟨g, .seg o (ndCells l), false⟩, ⟨gu, .seg ou (numC8 ul), false⟩] Sy.noB) vRtf_o (vRtf_R gu ou cu mu ul g o c l k b s q q' xs ys zs) := ⟨fun ns => by kernel_rfl, fun ns => by kernel_rfl⟩
def vRft_o : Sy.O := (Sy.O.steps [0, 0, 0, 1, 0, 0, 1, 0, 2, 0, 0, 0, 0, 2, 1, 0, 1, 0, 0, 0, 1, 0, 0, 0, 0, 0, 1, 2, 3, 0, 4, 0, 0, 5, 0, 1, 1, 1, 1, 6, 0, 0, 0, 7, 0, 8, 0, 24, 0, 0, 3, 3, 1, 2, 3, 4, 0, 1, 5, 10] (Sy.O.steps [0, 11, 0, 12, 0, 13, 0, 14, 15, 16] (Sy.O.fork (Sy.O.steps [17, 0, 18, 0, 19, 0, 20, 0, 21, 0] Sy.O.nil) (Sy.O.steps [4, 1, 0, 17, 0, 1, 1, 0, 18, 0, 24, 0, 1, 1, 2, 3, 4, 0, 1, 5, 20, 0, 21] (Sy.O.fork Sy.O.nil Sy.O.nil)))))
noncomputable def vRft_R (gu : Nat) (ou : Nat) (cu : Nat) (mu : Nat) (ul : List Int) (g : Nat) (o : Nat) (c : Nat) (l : List Nd) (k : Int) (b : Int) (s : Int) (q : Nat) (q' : Nat) (xs : List Int) (ys : List Int) (zs : List Int) (ns : Nat → Sy.Let) : Sy.Res (Value × List Blk) := Sy.Res.need True
 (Sy.Res.hyp True
 (Sy.Res.need (List.length ul = mu + (1 : Nat) ∧ xs = regsAt ul mu (31 : Nat))
 (Sy.Res.hyp True
 (Sy.Res.need
 ((34 : Nat) = Array.size (Array.mk (regC xs)) ∧
 (34 : Nat) = Array.size (Array.mk (regC xs)) ∧
 (Array.all (Array.mk (regC xs)) fun (x : Value) => Value.oneCell' x) = true)
 (Sy.Res.need (lenOk l ∧ (badX l k ∧ q = (0 : Nat) ∨ regX l k ∧ q = (29 : Nat)))
 (Sy.Res.hyp True
 (Sy.Res.need (lenOk l ∧ aOk b s l k)
 (Sy.Res.hyp (Nat.le (List.length (addrL b s l k)) (Let.n (ns (2 : Nat))))
 (Sy.Res.need (Array.size (Array.mk (regC xs)) = (34 : Nat))
 (Sy.Res.need
 (List.length xs = (34 : Nat) ∧
 List.length zs = (34 : Nat) ∧
 List.length (addrL b s l k) ≤ (1000000000 : Nat) ∧ runL xs (addrL b s l k) = some zs)
 (Sy.Res.hyp True
 (Sy.Res.need
 ((34 : Nat) = Array.size (Array.mk (regC zs)) ∧
 (34 : Nat) = Array.size (Array.mk (regC zs)) ∧
 (Array.all (Array.mk (regC zs)) fun (x : Value) => Value.oneCell' x) = true)
 (Sy.Res.need
 (∃ (i : Int),
 Sy.Cont.at (Sy.Cont.obj (Obj.cells (Array.mk (regC zs)) (42 : Nat))) (29 : Nat) =
 some (Value.int IntKind.u64 i))
 (Sy.Res.hyp
 (Sy.Cont.at (Sy.Cont.obj (Obj.cells (Array.mk (regC zs)) (42 : Nat))) (29 : Nat) =
 some (Value.int IntKind.u64 (Let.i (ns (5 : Nat)))))
 (Sy.Res.need
 ((lenOk l ∧ isExpr (24 : Int) l) ∧
 (List.length xs = (34 : Nat) ∧ goodLoc xs) ∧
 isPow s ∧ (0 : Int) ≤ b ∧ b ≤ (4096 : Int) - s)
 (Sy.Res.hyp True
 (Sy.Res.br
 (bif false then true
 else
 !Ex.eqQ (Let.i (ns (5 : Nat)))
 (Ex.wrapQ IntKind.u64
 (Ex.wrapQ IntKind.i64
 (Ex.addQ (65536 : Int)
 (Ex.wrapQ IntKind.i64 (Ex.mulQ (8 : Int) (locV xs l b s)))))))
 (Sy.Res.leaf (Value.bool false, []))
 (Sy.Res.need (Array.size (Array.mk (regC xs)) = (34 : Nat))
 (Sy.Res.need (Array.size (Array.mk (regC zs)) = (34 : Nat))
 (Sy.Res.need
 ((List.length xs = (34 : Nat) ∧ List.length zs = (34 : Nat)) ∧
 (0 : Int) ≤ k ∧ k < (5 : Int))
 (Sy.Res.hyp True
 (Sy.Res.br (bif false then true else !tru (keptP xs zs k (30 : Int)))
 (Sy.Res.leaf (Value.bool false, []))
 (Sy.Res.leaf (Value.bool true, []))))))))))))))))))))))))
theorem vRft_run (gu ou cu mu : Nat) (ul : List Int) (g o c : Nat) (l : List Nd) (k b s : Int) (q q' : Nat) (xs ys zs : List Int) : Sy.Ran (Sy.inT Try.prog (ctxV false true (regsC gu ou cu mu ul xs) g o c l k b s q q' xs ys zs) 60 fVals (valsArgs (.slice (some ⟨g, o, none⟩) l.length c) k b s (.slice (some ⟨gu, ou, none⟩) (.succ mu) cu)) [⟨g, .seg o (ndCells l), false⟩, ⟨gu, .seg ou (numC8 ul), false⟩] Sy.noB) vRft_o (vRft_R gu ou cu mu ul g o c l k b s q q' xs ys zs) := ⟨fun ns => by kernel_rfl, fun ns => by kernel_rfl⟩
def vRff_o : Sy.O := (Sy.O.steps [0, 0, 0, 1, 0, 0, 1, 0, 2, 0, 0, 0, 0] Sy.O.nil)
noncomputable def vRff_R (gu : Nat) (ou : Nat) (cu : Nat) (mu : Nat) (ul : List Int) (g : Nat) (o : Nat) (c : Nat) (l : List Nd) (k : Int) (b : Int) (s : Int) (q : Nat) (q' : Nat) (xs : List Int) (ys : List Int) (zs : List Int) (ns : Nat → Sy.Let) : Sy.Res (Value × List Blk) := Sy.Res.need True
 (Sy.Res.hyp True
 (Sy.Res.need (List.length ul = mu + (1 : Nat) ∧ xs = regsAt ul mu (31 : Nat))
 (Sy.Res.hyp True
 (Sy.Res.need
 ((34 : Nat) = Array.size (Array.mk (regC xs)) ∧
 (34 : Nat) = Array.size (Array.mk (regC xs)) ∧
 (Array.all (Array.mk (regC xs)) fun (x : Value) => Value.oneCell' x) = true)
 (Sy.Res.need (lenOk l ∧ (badX l k ∧ q = (0 : Nat) ∨ regX l k ∧ q = (29 : Nat)))
 (Sy.Res.hyp True
 (Sy.Res.need (lenOk l ∧ (aBad b s l k ∧ q' = (0 : Nat) ∨ aReg b s l k ∧ q' = (29 : Nat)))
 (Sy.Res.hyp True (Sy.Res.leaf (Value.bool true, []))))))))))
theorem vRff_run (gu ou cu mu : Nat) (ul : List Int) (g o c : Nat) (l : List Nd) (k b s : Int) (q q' : Nat) (xs ys zs : List Int) : Sy.Ran (Sy.inT Try.prog (ctxV false false (regsC gu ou cu mu ul xs) g o c l k b s q q' xs ys zs) 60 fVals (valsArgs (.slice (some ⟨g, o, none⟩) l.length c) k b s (.slice (some ⟨gu, ou, none⟩) (.succ mu) cu)) [⟨g, .seg o (ndCells l), false⟩, ⟨gu, .seg ou (numC8 ul), false⟩] Sy.noB) vRff_o (vRff_R gu ou cu mu ul g o c l k b s q q' xs ys zs) := ⟨fun ns => by kernel_rfl, fun ns => by kernel_rfl⟩
def wRb_o : Sy.O := (Sy.O.steps [0, 0, 0, 0, 0, 0, 1, 0, 0, 0, 0] Sy.O.nil)
noncomputable def wRb_R (gu : Nat) (ou : Nat) (cu : Nat) (mu : Nat) (ul : List Int) (A : Option Addr) (c : Nat) (k : Int) (b : Int) (s : Int) (xs : List Int) (zs : List Int) (ns : Nat → Sy.Let) : Sy.Res (Value × List Blk) := Sy.Res.need True
 (Sy.Res.hyp True
 (Sy.Res.need (List.length ul = mu + (1 : Nat) ∧ xs = regsAt ul mu (31 : Nat))
 (Sy.Res.hyp True
 (Sy.Res.need
 ((34 : Nat) = Array.size (Array.mk (regC xs)) ∧
 (34 : Nat) = Array.size (Array.mk (regC xs)) ∧
 (Array.all (Array.mk (regC xs)) fun (x : Value) => Value.oneCell' x) = true)
 (Sy.Res.need True
 (Sy.Res.hyp True
 (Sy.Res.need (zeroOk b s k → False) (Sy.Res.hyp True (Sy.Res.leaf (Value.bool true, []))))))))))
theorem wRb_run (gu ou cu mu : Nat) (ul : List Int) (A : Option Addr) (c : Nat) (k b s : Int) (xs zs : List Int) : Sy.Ran (Sy.inT Try.prog (ctxW .bad (regsC gu ou cu mu ul xs) A c k b s xs zs) 60 fVals (valsArgs (.slice A 0 c) k b s (.slice (some ⟨gu, ou, none⟩) (.succ mu) cu)) [⟨gu, .seg ou (numC8 ul), false⟩] Sy.noB) wRb_o (wRb_R gu ou cu mu ul A c k b s xs zs) := ⟨fun ns => by kernel_rfl, fun ns => by kernel_rfl⟩
def wRo_o : Sy.O := (Sy.O.steps [0, 0, 0, 0, 0, 0, 1, 0, 0, 0, 0, 1, 1, 0, 0, 0, 0, 0, 1, 0, 0, 0, 0, 0, 1, 2, 3, 0, 4, 0, 0, 5, 0, 1, 1, 1, 1, 6, 0, 0, 0, 7, 0, 8, 0, 24, 0, 0, 0, 0, 0, 0, 0, 10, 0, 11, 0, 12, 0, 13] (Sy.O.steps [0, 14, 15, 16] (Sy.O.fork (Sy.O.steps [17, 0, 18, 0, 19, 0, 20, 0, 21, 0] Sy.O.nil) (Sy.O.steps [3, 1, 0, 17, 0, 1, 1, 0, 18, 0, 24, 0, 0, 0, 20, 0, 21] (Sy.O.fork Sy.O.nil Sy.O.nil)))))
noncomputable def wRo_R (gu : Nat) (ou : Nat) (cu : Nat) (mu : Nat) (ul : List Int) (A : Option Addr) (c : Nat) (k : Int) (b : Int) (xs : List Int) (zs : List Int) (ns : Nat → Sy.Let) : Sy.Res (Value × List Blk) := Sy.Res.need True
 (Sy.Res.hyp True
 (Sy.Res.need (List.length ul = mu + (1 : Nat) ∧ xs = regsAt ul mu (31 : Nat))
 (Sy.Res.hyp True
 (Sy.Res.need
 ((34 : Nat) = Array.size (Array.mk (regC xs)) ∧
 (34 : Nat) = Array.size (Array.mk (regC xs)) ∧
 (Array.all (Array.mk (regC xs)) fun (x : Value) => Value.oneCell' x) = true)
 (Sy.Res.need True
 (Sy.Res.hyp True
 (Sy.Res.need ((0 : Int) = (0 : Int) ∧ ((0 : Int) ≤ b ∧ b ≤ (4095 : Int)) ∧ (0 : Int) ≤ k ∧ k < (5 : Int))
 (Sy.Res.hyp
 (Nat.le (List.length (numL (29 : Int) ((65536 : Int) + (8 : Int) * b))) (Let.n (ns (2 : Nat))))
 (Sy.Res.need (Array.size (Array.mk (regC xs)) = (34 : Nat))
 (Sy.Res.need
 (List.length xs = (34 : Nat) ∧
 List.length zs = (34 : Nat) ∧
 List.length (numL (29 : Int) ((65536 : Int) + (8 : Int) * b)) ≤ (1000000000 : Nat) ∧
 runL xs (numL (29 : Int) ((65536 : Int) + (8 : Int) * b)) = some zs)
 (Sy.Res.hyp True
 (Sy.Res.need
 ((34 : Nat) = Array.size (Array.mk (regC zs)) ∧
 (34 : Nat) = Array.size (Array.mk (regC zs)) ∧
 (Array.all (Array.mk (regC zs)) fun (x : Value) => Value.oneCell' x) = true)
 (Sy.Res.need
 (∃ (i : Int),
 Sy.Cont.at (Sy.Cont.obj (Obj.cells (Array.mk (regC zs)) (42 : Nat))) (29 : Nat) =
 some (Value.int IntKind.u64 i))
 (Sy.Res.hyp
 (Sy.Cont.at (Sy.Cont.obj (Obj.cells (Array.mk (regC zs)) (42 : Nat))) (29 : Nat) =
 some (Value.int IntKind.u64 (Let.i (ns (5 : Nat)))))
 (Sy.Res.br
 (bif false then true
 else
 !Ex.eqQ (Let.i (ns (5 : Nat)))
 (Ex.wrapQ IntKind.u64
 (Ex.wrapQ IntKind.i64
 (Ex.addQ (65536 : Int) (Ex.wrapQ IntKind.i64 (Ex.mulQ (8 : Int) b))))))
 (Sy.Res.leaf (Value.bool false, []))
 (Sy.Res.need (Array.size (Array.mk (regC xs)) = (34 : Nat))
 (Sy.Res.need (Array.size (Array.mk (regC zs)) = (34 : Nat))
 (Sy.Res.need
 ((List.length xs = (34 : Nat) ∧ List.length zs = (34 : Nat)) ∧
 (0 : Int) ≤ k ∧ k < (5 : Int))
 (Sy.Res.hyp True
 (Sy.Res.br (bif false then true else !tru (keptP xs zs k (30 : Int)))
 (Sy.Res.leaf (Value.bool false, []))
 (Sy.Res.leaf (Value.bool true, []))))))))))))))))))))))
theorem wRo_run (gu ou cu mu : Nat) (ul : List Int) (A : Option Addr) (c : Nat) (k b : Int) (xs zs : List Int) : Sy.Ran (Sy.inT Try.prog (ctxW .ok (regsC gu ou cu mu ul xs) A c k b 0 xs zs) 60 fVals (valsArgs (.slice A 0 c) k b 0 (.slice (some ⟨gu, ou, none⟩) (.succ mu) cu)) [⟨gu, .seg ou (numC8 ul), false⟩] Sy.noB) wRo_o (wRo_R gu ou cu mu ul A c k b xs zs) := ⟨fun ns => by kernel_rfl, fun ns => by kernel_rfl⟩
def vNtt_o : Sy.O := (Sy.O.steps [0, 0, 0, 0, 0, 1, 0, 1, 0, 2, 1, 0, 0, 0, 0, 0, 1, 0, 0, 1, 2, 3, 0, 4, 0, 5, 0, 6, 0, 1, 7, 0, 0, 1, 1, 1, 8, 0, 9, 0, 10, 0, 23, 0, 0, 2, 2, 1, 2, 3, 0, 1, 12, 0, 13, 14, 15] (Sy.O.fork (Sy.O.steps [16, 0, 17, 0, 18, 0, 19, 0, 20, 0] Sy.O.nil) (Sy.O.steps [3, 1, 0, 16, 0, 0, 1, 0, 17, 0, 23, 0, 0, 1, 2, 3, 0, 1, 19, 0, 20] (Sy.O.fork Sy.O.nil (Sy.O.steps [0, 0, 0, 2, 1, 0, 1, 0, 0, 0, 1, 0, 0, 0, 0, 0, 1, 2, 3, 0, 4, 0, 0, 5, 0, 1, 1, 1, 1, 6, 0, 0, 0, 7, 0, 8, 0, 24, 0, 0, 3, 3, 1, 2, 3, 4, 0, 1, 5, 6, 10, 0, 11, 0, 12, 0, 13, 0, 14, 15] (Sy.O.steps [16] (Sy.O.fork (Sy.O.steps [17, 0, 18, 0, 19, 0, 20, 0, 21, 0] Sy.O.nil) (Sy.O.steps [4, 1, 0, 17, 0, 1, 1, 0, 18, 0, 24, 0, 1, 1, 2, 3, 4, 0, 1, 5, 6, 20, 0, 21] (Sy.O.fork Sy.O.nil Sy.O.nil)))))))))
noncomputable def vNtt_R (B : Option Addr) (cu : Nat) (g : Nat) (o : Nat) (c : Nat) (l : List Nd) (k : Int) (b : Int) (s : Int) (q : Nat) (q' : Nat) (xs : List Int) (ys : List Int) (zs : List Int) (ns : Nat → Sy.Let) : Sy.Res (Value × List Blk) := Sy.Res.need True
 (Sy.Res.hyp True
 (Sy.Res.need (xs = zerosR)
 (Sy.Res.hyp True
 (Sy.Res.need
 ((34 : Nat) = Array.size (Array.mk (regC xs)) ∧
 (34 : Nat) = Array.size (Array.mk (regC xs)) ∧
 (Array.all (Array.mk (regC xs)) fun (x : Value) => Value.oneCell' x) = true)
 (Sy.Res.need (lenOk l ∧ okX l k)
 (Sy.Res.hyp (Nat.le (List.length (outL l k)) (Let.n (ns (2 : Nat))))
 (Sy.Res.need (Array.size (Array.mk (regC xs)) = (34 : Nat))
 (Sy.Res.need
 (List.length xs = (34 : Nat) ∧
 List.length ys = (34 : Nat) ∧
 List.length (outL l k) ≤ (1000000000 : Nat) ∧ runL xs (outL l k) = some ys)
 (Sy.Res.hyp True
 (Sy.Res.need
 ((34 : Nat) = Array.size (Array.mk (regC ys)) ∧
 (34 : Nat) = Array.size (Array.mk (regC ys)) ∧
 (Array.all (Array.mk (regC ys)) fun (x : Value) => Value.oneCell' x) = true)
 (Sy.Res.need
 ((0 : Int) ≤ Ex.wrapQ IntKind.i64 (Ex.addQ (24 : Int) k) ∧
 Ex.wrapQ IntKind.i64 (Ex.addQ (24 : Int) k) < (32 : Int))
 (Sy.Res.need
 (∃ (i : Int),
 Sy.Cont.at (Sy.Cont.obj (Obj.cells (Array.mk (regC ys)) (42 : Nat)))
 ((0 : Nat) + Int.toNat (Ex.wrapQ IntKind.i64 (Ex.addQ (24 : Int) k)) * (1 : Nat)) =
 some (Value.int IntKind.u64 i))
 (Sy.Res.hyp
 (Sy.Cont.at (Sy.Cont.obj (Obj.cells (Array.mk (regC ys)) (42 : Nat)))
 ((0 : Nat) + Int.toNat (Ex.wrapQ IntKind.i64 (Ex.addQ (24 : Int) k)) * (1 : Nat)) =
 some (Value.int IntKind.u64 (Let.i (ns (4 : Nat)))))
 (Sy.Res.need
 (((isExpr (24 : Int) l ∧ goodN l) ∧ List.length xs = (34 : Nat) ∧ goodLoc xs) ∧
 (0 : Int) ≤ Ex.wrapQ IntKind.i64 (Ex.subQ' (↑(List.length l) : Int) (1 : Int)) ∧
 Ex.wrapQ IntKind.i64 (Ex.subQ' (↑(List.length l) : Int) (1 : Int)) <
 (↑(List.length l) : Int) ∧
 Ex.wrapQ IntKind.i64 (Ex.subQ' (↑(List.length l) : Int) (1 : Int)) <
 (↑(List.length l) : Int))
 (Sy.Res.hyp True
 (Sy.Res.br
 (bif false then true
 else
 !Ex.eqQ (Let.i (ns (4 : Nat)))
 (evalE xs
 (tr l
 (Int.toNat
 (Ex.wrapQ IntKind.i64 (Ex.subQ' (↑(List.length l) : Int) (1 : Int)))))))
 (Sy.Res.leaf (Value.bool false, []))
 (Sy.Res.need (Array.size (Array.mk (regC xs)) = (34 : Nat))
 (Sy.Res.need (Array.size (Array.mk (regC ys)) = (34 : Nat))
 (Sy.Res.need
 ((List.length xs = (34 : Nat) ∧ List.length ys = (34 : Nat)) ∧
 (0 : Int) ≤ k ∧ k < (5 : Int))
 (Sy.Res.hyp True
 (Sy.Res.br (bif false then true else !tru (keptP xs ys k (29 : Int)))
 (Sy.Res.leaf (Value.bool false, []))
 (Sy.Res.need (lenOk l ∧ aOk b s l k)
 (Sy.Res.hyp (Nat.le (List.length (addrL b s l k)) (Let.n (ns (6 : Nat))))
 (Sy.Res.need (Array.size (Array.mk (regC xs)) = (34 : Nat))
 (Sy.Res.need
 (List.length xs = (34 : Nat) ∧
 List.length zs = (34 : Nat) ∧
 List.length (addrL b s l k) ≤ (1000000000 : Nat) ∧
 runL xs (addrL b s l k) = some zs)
 (Sy.Res.hyp True
 (Sy.Res.need
 ((34 : Nat) = Array.size (Array.mk (regC zs)) ∧
 (34 : Nat) = Array.size (Array.mk (regC zs)) ∧
 (Array.all (Array.mk (regC zs)) fun (x : Value) =>
 Value.oneCell' x) =
 true)
 (Sy.Res.need
 (∃ (i : Int),
 Sy.Cont.at
 (Sy.Cont.obj
 (Obj.cells (Array.mk (regC zs)) (42 : Nat)))
 (29 : Nat) =
 some (Value.int IntKind.u64 i))
 (Sy.Res.hyp
 (Sy.Cont.at
 (Sy.Cont.obj
 (Obj.cells (Array.mk (regC zs)) (42 : Nat)))
 (29 : Nat) =
 some (Value.int IntKind.u64 (Let.i (ns (9 : Nat)))))
 (Sy.Res.need
 ((lenOk l ∧ isExpr (24 : Int) l) ∧
 (List.length xs = (34 : Nat) ∧ goodLoc xs) ∧
 isPow s ∧ (0 : Int) ≤ b ∧ b ≤ (4096 : Int) - s)
 (Sy.Res.hyp True
 (Sy.Res.br
 (bif false then true
 else
 !Ex.eqQ (Let.i (ns (9 : Nat)))
 (Ex.wrapQ IntKind.u64
 (Ex.wrapQ IntKind.i64
 (Ex.addQ (65536 : Int)
 (Ex.wrapQ IntKind.i64
 (Ex.mulQ (8 : Int) (locV xs l b s)))))))
 (Sy.Res.leaf (Value.bool false, []))
 (Sy.Res.need
 (Array.size (Array.mk (regC xs)) = (34 : Nat))
 (Sy.Res.need
 (Array.size (Array.mk (regC zs)) = (34 : Nat))
 (Sy.Res.need
 ((List.length xs = (34 : Nat) ∧
 List.length zs = (34 : Nat)) ∧
 (0 : Int) ≤ k ∧ k < (5 : Int))
 (Sy.Res.hyp True
 (Sy.Res.br
 (bif false then true
 else !tru (keptP xs zs k (30 : Int)))
 (Sy.Res.leaf (Value.bool false, []))
 (Sy.Res.leaf
 (Value.bool true,
 [])))))))))))))))))))))))))))))))))))))))
theorem vNtt_run (B : Option Addr) (cu : Nat) (g o c : Nat) (l : List Nd) (k b s : Int) (q q' : Nat) (xs ys zs : List Int) : Sy.Ran (Sy.inT Try.prog (ctxV true true (regs0C B cu xs) g o c l k b s q q' xs ys zs) 60 fVals (valsArgs (.slice (some ⟨g, o, none⟩) l.length c) k b s (.slice B 0 cu)) [⟨g, .seg o (ndCells l), false⟩] Sy.noB) vNtt_o (vNtt_R B cu g o c l k b s q q' xs ys zs) := ⟨fun ns => by kernel_rfl, fun ns => by kernel_rfl⟩
def vNtf_o : Sy.O := (Sy.O.steps [0, 0, 0, 0, 0, 1, 0, 1, 0, 2, 1, 0, 0, 0, 0, 0, 1, 0, 0, 1, 2, 3, 0, 4, 0, 5, 0, 6, 0, 1, 7, 0, 0, 1, 1, 1, 8, 0, 9, 0, 10, 0, 23, 0, 0, 2, 2, 1, 2, 3, 0, 1, 12, 0, 13, 14, 15] (Sy.O.fork (Sy.O.steps [16, 0, 17, 0, 18, 0, 19, 0, 20, 0] Sy.O.nil) (Sy.O.steps [3, 1, 0, 16, 0, 0, 1, 0, 17, 0, 23, 0, 0, 1, 2, 3, 0, 1, 19, 0, 20] (Sy.O.fork Sy.O.nil (Sy.O.steps [0, 0, 0] Sy.O.nil)))))
noncomputable def vNtf_R (B : Option Addr) (cu : Nat) (g : Nat) (o : Nat) (c : Nat) (l : List Nd) (k : Int) (b : Int) (s : Int) (q : Nat) (q' : Nat) (xs : List Int) (ys : List Int) (zs : List Int) (ns : Nat → Sy.Let) : Sy.Res (Value × List Blk) := Sy.Res.need True
 (Sy.Res.hyp True
 (Sy.Res.need (xs = zerosR)
 (Sy.Res.hyp True
 (Sy.Res.need
 ((34 : Nat) = Array.size (Array.mk (regC xs)) ∧
 (34 : Nat) = Array.size (Array.mk (regC xs)) ∧
 (Array.all (Array.mk (regC xs)) fun (x : Value) => Value.oneCell' x) = true)
 (Sy.Res.need (lenOk l ∧ okX l k)
 (Sy.Res.hyp (Nat.le (List.length (outL l k)) (Let.n (ns (2 : Nat))))
 (Sy.Res.need (Array.size (Array.mk (regC xs)) = (34 : Nat))
 (Sy.Res.need
 (List.length xs = (34 : Nat) ∧
 List.length ys = (34 : Nat) ∧
 List.length (outL l k) ≤ (1000000000 : Nat) ∧ runL xs (outL l k) = some ys)
 (Sy.Res.hyp True
 (Sy.Res.need
 ((34 : Nat) = Array.size (Array.mk (regC ys)) ∧
 (34 : Nat) = Array.size (Array.mk (regC ys)) ∧
 (Array.all (Array.mk (regC ys)) fun (x : Value) => Value.oneCell' x) = true)
 (Sy.Res.need
 ((0 : Int) ≤ Ex.wrapQ IntKind.i64 (Ex.addQ (24 : Int) k) ∧
 Ex.wrapQ IntKind.i64 (Ex.addQ (24 : Int) k) < (32 : Int))
 (Sy.Res.need
 (∃ (i : Int),
 Sy.Cont.at (Sy.Cont.obj (Obj.cells (Array.mk (regC ys)) (42 : Nat)))
 ((0 : Nat) + Int.toNat (Ex.wrapQ IntKind.i64 (Ex.addQ (24 : Int) k)) * (1 : Nat)) =
 some (Value.int IntKind.u64 i))
 (Sy.Res.hyp
 (Sy.Cont.at (Sy.Cont.obj (Obj.cells (Array.mk (regC ys)) (42 : Nat)))
 ((0 : Nat) + Int.toNat (Ex.wrapQ IntKind.i64 (Ex.addQ (24 : Int) k)) * (1 : Nat)) =
 some (Value.int IntKind.u64 (Let.i (ns (4 : Nat)))))
 (Sy.Res.need
 (((isExpr (24 : Int) l ∧ goodN l) ∧ List.length xs = (34 : Nat) ∧ goodLoc xs) ∧
 (0 : Int) ≤ Ex.wrapQ IntKind.i64 (Ex.subQ' (↑(List.length l) : Int) (1 : Int)) ∧
 Ex.wrapQ IntKind.i64 (Ex.subQ' (↑(List.length l) : Int) (1 : Int)) <
 (↑(List.length l) : Int) ∧
 Ex.wrapQ IntKind.i64 (Ex.subQ' (↑(List.length l) : Int) (1 : Int)) <
 (↑(List.length l) : Int))
 (Sy.Res.hyp True
 (Sy.Res.br
 (bif false then true
 else
 !Ex.eqQ (Let.i (ns (4 : Nat)))
 (evalE xs
 (tr l
 (Int.toNat
 (Ex.wrapQ IntKind.i64 (Ex.subQ' (↑(List.length l) : Int) (1 : Int)))))))
 (Sy.Res.leaf (Value.bool false, []))
 (Sy.Res.need (Array.size (Array.mk (regC xs)) = (34 : Nat))
 (Sy.Res.need (Array.size (Array.mk (regC ys)) = (34 : Nat))
 (Sy.Res.need
 ((List.length xs = (34 : Nat) ∧ List.length ys = (34 : Nat)) ∧
 (0 : Int) ≤ k ∧ k < (5 : Int))
 (Sy.Res.hyp True
 (Sy.Res.br (bif false then true else !tru (keptP xs ys k (29 : Int)))
 (Sy.Res.leaf (Value.bool false, []))
 (Sy.Res.need
 (lenOk l ∧
 (aBad b s l k ∧ q' = (0 : Nat) ∨ aReg b s l k ∧ q' = (29 : Nat)))
 (Sy.Res.hyp True
 (Sy.Res.leaf (Value.bool true, [])))))))))))))))))))))))))
theorem vNtf_run (B : Option Addr) (cu : Nat) (g o c : Nat) (l : List Nd) (k b s : Int) (q q' : Nat) (xs ys zs : List Int) : Sy.Ran (Sy.inT Try.prog (ctxV true false (regs0C B cu xs) g o c l k b s q q' xs ys zs) 60 fVals (valsArgs (.slice (some ⟨g, o, none⟩) l.length c) k b s (.slice B 0 cu)) [⟨g, .seg o (ndCells l), false⟩] Sy.noB) vNtf_o (vNtf_R B cu g o c l k b s q q' xs ys zs) := ⟨fun ns => by kernel_rfl, fun ns => by kernel_rfl⟩
def vNft_o : Sy.O := (Sy.O.steps [0, 0, 0, 0, 0, 1, 0, 1, 0, 0, 0, 0, 2, 1, 0, 1, 0, 0, 0, 1, 0, 0, 0, 0, 0, 1, 2, 3, 0, 4, 0, 0, 5, 0, 1, 1, 1, 1, 6, 0, 0, 0, 7, 0, 8, 0, 24, 0, 0, 3, 3, 1, 2, 3, 4, 0, 1, 10, 0, 11] (Sy.O.steps [0, 12, 0, 13, 0, 14, 15, 16] (Sy.O.fork (Sy.O.steps [17, 0, 18, 0, 19, 0, 20, 0, 21, 0] Sy.O.nil) (Sy.O.steps [4, 1, 0, 17, 0, 1, 1, 0, 18, 0, 24, 0, 1, 1, 2, 3, 4, 0, 1, 20, 0, 21] (Sy.O.fork Sy.O.nil Sy.O.nil)))))
noncomputable def vNft_R (B : Option Addr) (cu : Nat) (g : Nat) (o : Nat) (c : Nat) (l : List Nd) (k : Int) (b : Int) (s : Int) (q : Nat) (q' : Nat) (xs : List Int) (ys : List Int) (zs : List Int) (ns : Nat → Sy.Let) : Sy.Res (Value × List Blk) := Sy.Res.need True
 (Sy.Res.hyp True
 (Sy.Res.need (xs = zerosR)
 (Sy.Res.hyp True
 (Sy.Res.need
 ((34 : Nat) = Array.size (Array.mk (regC xs)) ∧
 (34 : Nat) = Array.size (Array.mk (regC xs)) ∧
 (Array.all (Array.mk (regC xs)) fun (x : Value) => Value.oneCell' x) = true)
 (Sy.Res.need (lenOk l ∧ (badX l k ∧ q = (0 : Nat) ∨ regX l k ∧ q = (29 : Nat)))
 (Sy.Res.hyp True
 (Sy.Res.need (lenOk l ∧ aOk b s l k)
 (Sy.Res.hyp (Nat.le (List.length (addrL b s l k)) (Let.n (ns (2 : Nat))))
 (Sy.Res.need (Array.size (Array.mk (regC xs)) = (34 : Nat))
 (Sy.Res.need
 (List.length xs = (34 : Nat) ∧
 List.length zs = (34 : Nat) ∧
 List.length (addrL b s l k) ≤ (1000000000 : Nat) ∧ runL xs (addrL b s l k) = some zs)
 (Sy.Res.hyp True
 (Sy.Res.need
 ((34 : Nat) = Array.size (Array.mk (regC zs)) ∧
 (34 : Nat) = Array.size (Array.mk (regC zs)) ∧
 (Array.all (Array.mk (regC zs)) fun (x : Value) => Value.oneCell' x) = true)
 (Sy.Res.need
 (∃ (i : Int),
 Sy.Cont.at (Sy.Cont.obj (Obj.cells (Array.mk (regC zs)) (42 : Nat))) (29 : Nat) =
 some (Value.int IntKind.u64 i))
 (Sy.Res.hyp
 (Sy.Cont.at (Sy.Cont.obj (Obj.cells (Array.mk (regC zs)) (42 : Nat))) (29 : Nat) =
 some (Value.int IntKind.u64 (Let.i (ns (5 : Nat)))))
 (Sy.Res.need
 ((lenOk l ∧ isExpr (24 : Int) l) ∧
 (List.length xs = (34 : Nat) ∧ goodLoc xs) ∧
 isPow s ∧ (0 : Int) ≤ b ∧ b ≤ (4096 : Int) - s)
 (Sy.Res.hyp True
 (Sy.Res.br
 (bif false then true
 else
 !Ex.eqQ (Let.i (ns (5 : Nat)))
 (Ex.wrapQ IntKind.u64
 (Ex.wrapQ IntKind.i64
 (Ex.addQ (65536 : Int)
 (Ex.wrapQ IntKind.i64 (Ex.mulQ (8 : Int) (locV xs l b s)))))))
 (Sy.Res.leaf (Value.bool false, []))
 (Sy.Res.need (Array.size (Array.mk (regC xs)) = (34 : Nat))
 (Sy.Res.need (Array.size (Array.mk (regC zs)) = (34 : Nat))
 (Sy.Res.need
 ((List.length xs = (34 : Nat) ∧ List.length zs = (34 : Nat)) ∧
 (0 : Int) ≤ k ∧ k < (5 : Int))
 (Sy.Res.hyp True
 (Sy.Res.br (bif false then true else !tru (keptP xs zs k (30 : Int)))
 (Sy.Res.leaf (Value.bool false, []))
 (Sy.Res.leaf (Value.bool true, []))))))))))))))))))))))))
theorem vNft_run (B : Option Addr) (cu : Nat) (g o c : Nat) (l : List Nd) (k b s : Int) (q q' : Nat) (xs ys zs : List Int) : Sy.Ran (Sy.inT Try.prog (ctxV false true (regs0C B cu xs) g o c l k b s q q' xs ys zs) 60 fVals (valsArgs (.slice (some ⟨g, o, none⟩) l.length c) k b s (.slice B 0 cu)) [⟨g, .seg o (ndCells l), false⟩] Sy.noB) vNft_o (vNft_R B cu g o c l k b s q q' xs ys zs) := ⟨fun ns => by kernel_rfl, fun ns => by kernel_rfl⟩
def vNff_o : Sy.O := (Sy.O.steps [0, 0, 0, 0, 0, 1, 0, 1, 0, 0, 0, 0] Sy.O.nil)
noncomputable def vNff_R (B : Option Addr) (cu : Nat) (g : Nat) (o : Nat) (c : Nat) (l : List Nd) (k : Int) (b : Int) (s : Int) (q : Nat) (q' : Nat) (xs : List Int) (ys : List Int) (zs : List Int) (ns : Nat → Sy.Let) : Sy.Res (Value × List Blk) := Sy.Res.need True
 (Sy.Res.hyp True
 (Sy.Res.need (xs = zerosR)
 (Sy.Res.hyp True
 (Sy.Res.need
 ((34 : Nat) = Array.size (Array.mk (regC xs)) ∧
 (34 : Nat) = Array.size (Array.mk (regC xs)) ∧
 (Array.all (Array.mk (regC xs)) fun (x : Value) => Value.oneCell' x) = true)
 (Sy.Res.need (lenOk l ∧ (badX l k ∧ q = (0 : Nat) ∨ regX l k ∧ q = (29 : Nat)))
 (Sy.Res.hyp True
 (Sy.Res.need (lenOk l ∧ (aBad b s l k ∧ q' = (0 : Nat) ∨ aReg b s l k ∧ q' = (29 : Nat)))
 (Sy.Res.hyp True (Sy.Res.leaf (Value.bool true, []))))))))))
theorem vNff_run (B : Option Addr) (cu : Nat) (g o c : Nat) (l : List Nd) (k b s : Int) (q q' : Nat) (xs ys zs : List Int) : Sy.Ran (Sy.inT Try.prog (ctxV false false (regs0C B cu xs) g o c l k b s q q' xs ys zs) 60 fVals (valsArgs (.slice (some ⟨g, o, none⟩) l.length c) k b s (.slice B 0 cu)) [⟨g, .seg o (ndCells l), false⟩] Sy.noB) vNff_o (vNff_R B cu g o c l k b s q q' xs ys zs) := ⟨fun ns => by kernel_rfl, fun ns => by kernel_rfl⟩
def wNb_o : Sy.O := (Sy.O.steps [0, 0, 0, 0, 0, 1, 0, 0, 0, 0] Sy.O.nil)
noncomputable def wNb_R (B : Option Addr) (cu : Nat) (A : Option Addr) (c : Nat) (k : Int) (b : Int) (s : Int) (xs : List Int) (zs : List Int) (ns : Nat → Sy.Let) : Sy.Res (Value × List Blk) := Sy.Res.need True
 (Sy.Res.hyp True
 (Sy.Res.need (xs = zerosR)
 (Sy.Res.hyp True
 (Sy.Res.need
 ((34 : Nat) = Array.size (Array.mk (regC xs)) ∧
 (34 : Nat) = Array.size (Array.mk (regC xs)) ∧
 (Array.all (Array.mk (regC xs)) fun (x : Value) => Value.oneCell' x) = true)
 (Sy.Res.need True
 (Sy.Res.hyp True
 (Sy.Res.need (zeroOk b s k → False) (Sy.Res.hyp True (Sy.Res.leaf (Value.bool true, []))))))))))
theorem wNb_run (B : Option Addr) (cu : Nat) (A : Option Addr) (c : Nat) (k b s : Int) (xs zs : List Int) : Sy.Ran (Sy.inT Try.prog (ctxW .bad (regs0C B cu xs) A c k b s xs zs) 60 fVals (valsArgs (.slice A 0 c) k b s (.slice B 0 cu)) [] Sy.noB) wNb_o (wNb_R B cu A c k b s xs zs) := ⟨fun ns => by kernel_rfl, fun ns => by kernel_rfl⟩
def wNo_o : Sy.O := (Sy.O.steps [0, 0, 0, 0, 0, 1, 0, 0, 0, 0, 1, 1, 0, 0, 0, 0, 0, 1, 0, 0, 0, 0, 0, 1, 2, 3, 0, 4, 0, 0, 5, 0, 1, 1, 1, 1, 6, 0, 0, 0, 7, 0, 8, 0, 24, 0, 0, 0, 0, 0, 0, 0, 10, 0, 11, 0, 12, 0, 13, 0] (Sy.O.steps [14, 15, 16] (Sy.O.fork (Sy.O.steps [17, 0, 18, 0, 19, 0, 20, 0, 21, 0] Sy.O.nil) (Sy.O.steps [3, 1, 0, 17, 0, 1, 1, 0, 18, 0, 24, 0, 0, 0, 20, 0, 21] (Sy.O.fork Sy.O.nil Sy.O.nil)))))
noncomputable def wNo_R (B : Option Addr) (cu : Nat) (A : Option Addr) (c : Nat) (k : Int) (b : Int) (xs : List Int) (zs : List Int) (ns : Nat → Sy.Let) : Sy.Res (Value × List Blk) := Sy.Res.need True
 (Sy.Res.hyp True
 (Sy.Res.need (xs = zerosR)
 (Sy.Res.hyp True
 (Sy.Res.need
 ((34 : Nat) = Array.size (Array.mk (regC xs)) ∧
 (34 : Nat) = Array.size (Array.mk (regC xs)) ∧
 (Array.all (Array.mk (regC xs)) fun (x : Value) => Value.oneCell' x) = true)
 (Sy.Res.need True
 (Sy.Res.hyp True
 (Sy.Res.need ((0 : Int) = (0 : Int) ∧ ((0 : Int) ≤ b ∧ b ≤ (4095 : Int)) ∧ (0 : Int) ≤ k ∧ k < (5 : Int))
 (Sy.Res.hyp
 (Nat.le (List.length (numL (29 : Int) ((65536 : Int) + (8 : Int) * b))) (Let.n (ns (2 : Nat))))
 (Sy.Res.need (Array.size (Array.mk (regC xs)) = (34 : Nat))
 (Sy.Res.need
 (List.length xs = (34 : Nat) ∧
 List.length zs = (34 : Nat) ∧
 List.length (numL (29 : Int) ((65536 : Int) + (8 : Int) * b)) ≤ (1000000000 : Nat) ∧
 runL xs (numL (29 : Int) ((65536 : Int) + (8 : Int) * b)) = some zs)
 (Sy.Res.hyp True
 (Sy.Res.need
 ((34 : Nat) = Array.size (Array.mk (regC zs)) ∧
 (34 : Nat) = Array.size (Array.mk (regC zs)) ∧
 (Array.all (Array.mk (regC zs)) fun (x : Value) => Value.oneCell' x) = true)
 (Sy.Res.need
 (∃ (i : Int),
 Sy.Cont.at (Sy.Cont.obj (Obj.cells (Array.mk (regC zs)) (42 : Nat))) (29 : Nat) =
 some (Value.int IntKind.u64 i))
 (Sy.Res.hyp
 (Sy.Cont.at (Sy.Cont.obj (Obj.cells (Array.mk (regC zs)) (42 : Nat))) (29 : Nat) =
 some (Value.int IntKind.u64 (Let.i (ns (5 : Nat)))))
 (Sy.Res.br
 (bif false then true
 else
 !Ex.eqQ (Let.i (ns (5 : Nat)))
 (Ex.wrapQ IntKind.u64
 (Ex.wrapQ IntKind.i64
 (Ex.addQ (65536 : Int) (Ex.wrapQ IntKind.i64 (Ex.mulQ (8 : Int) b))))))
 (Sy.Res.leaf (Value.bool false, []))
 (Sy.Res.need (Array.size (Array.mk (regC xs)) = (34 : Nat))
 (Sy.Res.need (Array.size (Array.mk (regC zs)) = (34 : Nat))
 (Sy.Res.need
 ((List.length xs = (34 : Nat) ∧ List.length zs = (34 : Nat)) ∧
 (0 : Int) ≤ k ∧ k < (5 : Int))
 (Sy.Res.hyp True
 (Sy.Res.br (bif false then true else !tru (keptP xs zs k (30 : Int)))
 (Sy.Res.leaf (Value.bool false, []))
 (Sy.Res.leaf (Value.bool true, []))))))))))))))))))))))
theorem wNo_run (B : Option Addr) (cu : Nat) (A : Option Addr) (c : Nat) (k b : Int) (xs zs : List Int) : Sy.Ran (Sy.inT Try.prog (ctxW .ok (regs0C B cu xs) A c k b 0 xs zs) 60 fVals (valsArgs (.slice A 0 c) k b 0 (.slice B 0 cu)) [] Sy.noB) wNo_o (wNo_R B cu A c k b xs zs) := ⟨fun ns => by kernel_rfl, fun ns => by kernel_rfl⟩

theorem xE0_met (A : Option Addr) (c : Nat) (k : Int) : Sy.Meets Try.prog (xE0 A c k) := by
  refine Sy.meets_of (ctxE_holds A c) mixed (xe0_run A c k) fun hok ns => ?_
  simp only [xe0_R, Sy.Res.holds]
  exact ⟨trivial, fun _ => Sy.plainO_leaf (List.mem_singleton_self _) rfl rfl⟩

end Go.Proofs.Ytgaejhhipnpopaa
