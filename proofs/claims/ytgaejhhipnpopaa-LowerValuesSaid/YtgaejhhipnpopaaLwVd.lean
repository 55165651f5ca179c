/-
  LowerValues: a cell's place; what the calls tell where they tell nothing.
-/
import Derived.Test.YtgaejhhipnpopaaLwVc
namespace Go.Proofs.Ytgaejhhipnpopaa
set_option linter.unusedVariables false
set_option linter.unusedSimpArgs false
open Go Go.RowKit
open Sy (Let Blk)

abbrev fLoc : FuncId := 25
def Sy.actV (b s : Int) (e : Value) : Value := .agg #[.int .i64 0, .int .i64 0, .int .i64 b, .int .i64 s, e, .slice none 0 0, .slice none 0 0, .int .i64 0, .int .i64 0, .int .i64 0, .int .i64 0]
noncomputable def locV (xs : List Int) (l : List Nd) (b s : Int) : Int := b + evalE xs (tr l (l.length - 1)) % s
noncomputable def locC (g o c : Nat) (l : List Nd) (gx cx : Nat) (xs : List Int) (b s : Int) : Sy.CallC :=
  ⟨fLoc, #[Sy.actV b s (.slice (some ⟨g, o, none⟩) l.length c), .slice (some ⟨gx, 0, none⟩) 24 cx], (lenOk l ∧ isExpr 24 l) ∧ (xs.length = 34 ∧ goodLoc xs) ∧ isPow s ∧ 0 ≤ b ∧ b ≤ 4096 - s,
   ⟨[(g, .seg o (ndCells l)), (gx, .seg 0 (regC xs))], [], 0⟩, [Sy.plainO (.int .i64 (locV xs l b s))]⟩
noncomputable def ctxLc (g o c : Nat) (l : List Nd) (gx cx : Nat) (xs : List Int) : Sy.Ctx := Sy.mkS [(fAt, fun a _ => atC g o c l l.length gx cx xs (Sy.argI a 1))] [] []
theorem ctxLc_holds (g o c : Nat) (l : List Nd) (gx cx : Nat) (xs : List Int) : (ctxLc g o c l gx cx xs).holds Try.prog := Sy.mkS_holds (fun p hp a L => by
  rcases List.mem_singleton.1 hp with rfl
  exact atC_met _ _ _ _ _ _ _ _ _) (fun _ h => (by cases h)) (fun _ h => (by cases h))
def lc1_o : Sy.O := (Sy.O.steps [0, 0, 0, 0, 0, 1, 0, 0, 2, 3, 0, 0, 4, 6, 7, 0, 0, 8, 15, 0, 1, 1, 1, 2, 0, 1, 9, 10, 11, 12] Sy.O.nil)
noncomputable def lc1_R (g : Nat) (o : Nat) (c : Nat) (l : List Nd) (gx : Nat) (cx : Nat) (xs : List Int) (b : Int) (ns : Nat → Sy.Let) : Sy.Res (Value × List Blk) := Sy.Res.need
 (((isExpr (24 : Int) l ∧ goodN l) ∧ List.length xs = (34 : Nat) ∧ goodLoc xs) ∧
 (0 : Int) ≤ Ex.wrapQ IntKind.i64 (Ex.subQ' (↑(List.length l) : Int) (1 : Int)) ∧
 Ex.wrapQ IntKind.i64 (Ex.subQ' (↑(List.length l) : Int) (1 : Int)) < (↑(List.length l) : Int) ∧
 Ex.wrapQ IntKind.i64 (Ex.subQ' (↑(List.length l) : Int) (1 : Int)) < (↑(List.length l) : Int))
 (Sy.Res.hyp True
 (Sy.Res.leaf
 (Value.int IntKind.i64
 (Ex.wrapQ IntKind.i64
 (Ex.addQ b
 (Ex.wrapQ IntKind.i64
 (Ex.remQ
 (evalE xs (tr l (Int.toNat (Ex.wrapQ IntKind.i64 (Ex.subQ' (↑(List.length l) : Int) (1 : Int))))))
 (1 : Nat))))),
 [])))
theorem lc1_run (g o c : Nat) (l : List Nd) (gx cx : Nat) (xs : List Int) (b : Int) : Sy.Ran (Sy.inT Try.prog (ctxLc g o c l gx cx xs) 60 fLoc (locC g o c l gx cx xs b 1).args (Sy.blks (locC g o c l gx cx xs b 1).mem) Sy.noB) lc1_o (lc1_R g o c l gx cx xs b) := ⟨fun ns => by kernel_rfl, fun ns => by kernel_rfl⟩
def lc2_o : Sy.O := (Sy.O.steps [0, 0, 0, 0, 0, 1, 0, 0, 2, 3, 0, 0, 4, 6, 7, 0, 0, 8, 15, 0, 1, 1, 1, 2, 0, 1, 9, 10, 11, 12] Sy.O.nil)
noncomputable def lc2_R (g : Nat) (o : Nat) (c : Nat) (l : List Nd) (gx : Nat) (cx : Nat) (xs : List Int) (b : Int) (ns : Nat → Sy.Let) : Sy.Res (Value × List Blk) := Sy.Res.need
 (((isExpr (24 : Int) l ∧ goodN l) ∧ List.length xs = (34 : Nat) ∧ goodLoc xs) ∧
 (0 : Int) ≤ Ex.wrapQ IntKind.i64 (Ex.subQ' (↑(List.length l) : Int) (1 : Int)) ∧
 Ex.wrapQ IntKind.i64 (Ex.subQ' (↑(List.length l) : Int) (1 : Int)) < (↑(List.length l) : Int) ∧
 Ex.wrapQ IntKind.i64 (Ex.subQ' (↑(List.length l) : Int) (1 : Int)) < (↑(List.length l) : Int))
 (Sy.Res.hyp True
 (Sy.Res.leaf
 (Value.int IntKind.i64
 (Ex.wrapQ IntKind.i64
 (Ex.addQ b
 (Ex.wrapQ IntKind.i64
 (Ex.remQ
 (evalE xs (tr l (Int.toNat (Ex.wrapQ IntKind.i64 (Ex.subQ' (↑(List.length l) : Int) (1 : Int))))))
 (2 : Nat))))),
 [])))
theorem lc2_run (g o c : Nat) (l : List Nd) (gx cx : Nat) (xs : List Int) (b : Int) : Sy.Ran (Sy.inT Try.prog (ctxLc g o c l gx cx xs) 60 fLoc (locC g o c l gx cx xs b 2).args (Sy.blks (locC g o c l gx cx xs b 2).mem) Sy.noB) lc2_o (lc2_R g o c l gx cx xs b) := ⟨fun ns => by kernel_rfl, fun ns => by kernel_rfl⟩
def lc4_o : Sy.O := (Sy.O.steps [0, 0, 0, 0, 0, 1, 0, 0, 2, 3, 0, 0, 4, 6, 7, 0, 0, 8, 15, 0, 1, 1, 1, 2, 0, 1, 9, 10, 11, 12] Sy.O.nil)
noncomputable def lc4_R (g : Nat) (o : Nat) (c : Nat) (l : List Nd) (gx : Nat) (cx : Nat) (xs : List Int) (b : Int) (ns : Nat → Sy.Let) : Sy.Res (Value × List Blk) := Sy.Res.need
 (((isExpr (24 : Int) l ∧ goodN l) ∧ List.length xs = (34 : Nat) ∧ goodLoc xs) ∧
 (0 : Int) ≤ Ex.wrapQ IntKind.i64 (Ex.subQ' (↑(List.length l) : Int) (1 : Int)) ∧
 Ex.wrapQ IntKind.i64 (Ex.subQ' (↑(List.length l) : Int) (1 : Int)) < (↑(List.length l) : Int) ∧
 Ex.wrapQ IntKind.i64 (Ex.subQ' (↑(List.length l) : Int) (1 : Int)) < (↑(List.length l) : Int))
 (Sy.Res.hyp True
 (Sy.Res.leaf
 (Value.int IntKind.i64
 (Ex.wrapQ IntKind.i64
 (Ex.addQ b
 (Ex.wrapQ IntKind.i64
 (Ex.remQ
 (evalE xs (tr l (Int.toNat (Ex.wrapQ IntKind.i64 (Ex.subQ' (↑(List.length l) : Int) (1 : Int))))))
 (4 : Nat))))),
 [])))
theorem lc4_run (g o c : Nat) (l : List Nd) (gx cx : Nat) (xs : List Int) (b : Int) : Sy.Ran (Sy.inT Try.prog (ctxLc g o c l gx cx xs) 60 fLoc (locC g o c l gx cx xs b 4).args (Sy.blks (locC g o c l gx cx xs b 4).mem) Sy.noB) lc4_o (lc4_R g o c l gx cx xs b) := ⟨fun ns => by kernel_rfl, fun ns => by kernel_rfl⟩
def lc8_o : Sy.O := (Sy.O.steps [0, 0, 0, 0, 0, 1, 0, 0, 2, 3, 0, 0, 4, 6, 7, 0, 0, 8, 15, 0, 1, 1, 1, 2, 0, 1, 9, 10, 11, 12] Sy.O.nil)
noncomputable def lc8_R (g : Nat) (o : Nat) (c : Nat) (l : List Nd) (gx : Nat) (cx : Nat) (xs : List Int) (b : Int) (ns : Nat → Sy.Let) : Sy.Res (Value × List Blk) := Sy.Res.need
 (((isExpr (24 : Int) l ∧ goodN l) ∧ List.length xs = (34 : Nat) ∧ goodLoc xs) ∧
 (0 : Int) ≤ Ex.wrapQ IntKind.i64 (Ex.subQ' (↑(List.length l) : Int) (1 : Int)) ∧
 Ex.wrapQ IntKind.i64 (Ex.subQ' (↑(List.length l) : Int) (1 : Int)) < (↑(List.length l) : Int) ∧
 Ex.wrapQ IntKind.i64 (Ex.subQ' (↑(List.length l) : Int) (1 : Int)) < (↑(List.length l) : Int))
 (Sy.Res.hyp True
 (Sy.Res.leaf
 (Value.int IntKind.i64
 (Ex.wrapQ IntKind.i64
 (Ex.addQ b
 (Ex.wrapQ IntKind.i64
 (Ex.remQ
 (evalE xs (tr l (Int.toNat (Ex.wrapQ IntKind.i64 (Ex.subQ' (↑(List.length l) : Int) (1 : Int))))))
 (8 : Nat))))),
 [])))
theorem lc8_run (g o c : Nat) (l : List Nd) (gx cx : Nat) (xs : List Int) (b : Int) : Sy.Ran (Sy.inT Try.prog (ctxLc g o c l gx cx xs) 60 fLoc (locC g o c l gx cx xs b 8).args (Sy.blks (locC g o c l gx cx xs b 8).mem) Sy.noB) lc8_o (lc8_R g o c l gx cx xs b) := ⟨fun ns => by kernel_rfl, fun ns => by kernel_rfl⟩
def lc16_o : Sy.O := (Sy.O.steps [0, 0, 0, 0, 0, 1, 0, 0, 2, 3, 0, 0, 4, 6, 7, 0, 0, 8, 15, 0, 1, 1, 1, 2, 0, 1, 9, 10, 11, 12] Sy.O.nil)
noncomputable def lc16_R (g : Nat) (o : Nat) (c : Nat) (l : List Nd) (gx : Nat) (cx : Nat) (xs : List Int) (b : Int) (ns : Nat → Sy.Let) : Sy.Res (Value × List Blk) := Sy.Res.need
 (((isExpr (24 : Int) l ∧ goodN l) ∧ List.length xs = (34 : Nat) ∧ goodLoc xs) ∧
 (0 : Int) ≤ Ex.wrapQ IntKind.i64 (Ex.subQ' (↑(List.length l) : Int) (1 : Int)) ∧
 Ex.wrapQ IntKind.i64 (Ex.subQ' (↑(List.length l) : Int) (1 : Int)) < (↑(List.length l) : Int) ∧
 Ex.wrapQ IntKind.i64 (Ex.subQ' (↑(List.length l) : Int) (1 : Int)) < (↑(List.length l) : Int))
 (Sy.Res.hyp True
 (Sy.Res.leaf
 (Value.int IntKind.i64
 (Ex.wrapQ IntKind.i64
 (Ex.addQ b
 (Ex.wrapQ IntKind.i64
 (Ex.remQ
 (evalE xs (tr l (Int.toNat (Ex.wrapQ IntKind.i64 (Ex.subQ' (↑(List.length l) : Int) (1 : Int))))))
 (16 : Nat))))),
 [])))
theorem lc16_run (g o c : Nat) (l : List Nd) (gx cx : Nat) (xs : List Int) (b : Int) : Sy.Ran (Sy.inT Try.prog (ctxLc g o c l gx cx xs) 60 fLoc (locC g o c l gx cx xs b 16).args (Sy.blks (locC g o c l gx cx xs b 16).mem) Sy.noB) lc16_o (lc16_R g o c l gx cx xs b) := ⟨fun ns => by kernel_rfl, fun ns => by kernel_rfl⟩
def lc32_o : Sy.O := (Sy.O.steps [0, 0, 0, 0, 0, 1, 0, 0, 2, 3, 0, 0, 4, 6, 7, 0, 0, 8, 15, 0, 1, 1, 1, 2, 0, 1, 9, 10, 11, 12] Sy.O.nil)
noncomputable def lc32_R (g : Nat) (o : Nat) (c : Nat) (l : List Nd) (gx : Nat) (cx : Nat) (xs : List Int) (b : Int) (ns : Nat → Sy.Let) : Sy.Res (Value × List Blk) := Sy.Res.need
 (((isExpr (24 : Int) l ∧ goodN l) ∧ List.length xs = (34 : Nat) ∧ goodLoc xs) ∧
 (0 : Int) ≤ Ex.wrapQ IntKind.i64 (Ex.subQ' (↑(List.length l) : Int) (1 : Int)) ∧
 Ex.wrapQ IntKind.i64 (Ex.subQ' (↑(List.length l) : Int) (1 : Int)) < (↑(List.length l) : Int) ∧
 Ex.wrapQ IntKind.i64 (Ex.subQ' (↑(List.length l) : Int) (1 : Int)) < (↑(List.length l) : Int))
 (Sy.Res.hyp True
 (Sy.Res.leaf
 (Value.int IntKind.i64
 (Ex.wrapQ IntKind.i64
 (Ex.addQ b
 (Ex.wrapQ IntKind.i64
 (Ex.remQ
 (evalE xs (tr l (Int.toNat (Ex.wrapQ IntKind.i64 (Ex.subQ' (↑(List.length l) : Int) (1 : Int))))))
 (32 : Nat))))),
 [])))
theorem lc32_run (g o c : Nat) (l : List Nd) (gx cx : Nat) (xs : List Int) (b : Int) : Sy.Ran (Sy.inT Try.prog (ctxLc g o c l gx cx xs) 60 fLoc (locC g o c l gx cx xs b 32).args (Sy.blks (locC g o c l gx cx xs b 32).mem) Sy.noB) lc32_o (lc32_R g o c l gx cx xs b) := ⟨fun ns => by kernel_rfl, fun ns => by kernel_rfl⟩
def lc64_o : Sy.O := (Sy.O.steps [0, 0, 0, 0, 0, 1, 0, 0, 2, 3, 0, 0, 4, 6, 7, 0, 0, 8, 15, 0, 1, 1, 1, 2, 0, 1, 9, 10, 11, 12] Sy.O.nil)
noncomputable def lc64_R (g : Nat) (o : Nat) (c : Nat) (l : List Nd) (gx : Nat) (cx : Nat) (xs : List Int) (b : Int) (ns : Nat → Sy.Let) : Sy.Res (Value × List Blk) := Sy.Res.need
 (((isExpr (24 : Int) l ∧ goodN l) ∧ List.length xs = (34 : Nat) ∧ goodLoc xs) ∧
 (0 : Int) ≤ Ex.wrapQ IntKind.i64 (Ex.subQ' (↑(List.length l) : Int) (1 : Int)) ∧
 Ex.wrapQ IntKind.i64 (Ex.subQ' (↑(List.length l) : Int) (1 : Int)) < (↑(List.length l) : Int) ∧
 Ex.wrapQ IntKind.i64 (Ex.subQ' (↑(List.length l) : Int) (1 : Int)) < (↑(List.length l) : Int))
 (Sy.Res.hyp True
 (Sy.Res.leaf
 (Value.int IntKind.i64
 (Ex.wrapQ IntKind.i64
 (Ex.addQ b
 (Ex.wrapQ IntKind.i64
 (Ex.remQ
 (evalE xs (tr l (Int.toNat (Ex.wrapQ IntKind.i64 (Ex.subQ' (↑(List.length l) : Int) (1 : Int))))))
 (64 : Nat))))),
 [])))
theorem lc64_run (g o c : Nat) (l : List Nd) (gx cx : Nat) (xs : List Int) (b : Int) : Sy.Ran (Sy.inT Try.prog (ctxLc g o c l gx cx xs) 60 fLoc (locC g o c l gx cx xs b 64).args (Sy.blks (locC g o c l gx cx xs b 64).mem) Sy.noB) lc64_o (lc64_R g o c l gx cx xs b) := ⟨fun ns => by kernel_rfl, fun ns => by kernel_rfl⟩
def lc128_o : Sy.O := (Sy.O.steps [0, 0, 0, 0, 0, 1, 0, 0, 2, 3, 0, 0, 4, 6, 7, 0, 0, 8, 15, 0, 1, 1, 1, 2, 0, 1, 9, 10, 11, 12] Sy.O.nil)
noncomputable def lc128_R (g : Nat) (o : Nat) (c : Nat) (l : List Nd) (gx : Nat) (cx : Nat) (xs : List Int) (b : Int) (ns : Nat → Sy.Let) : Sy.Res (Value × List Blk) := Sy.Res.need
 (((isExpr (24 : Int) l ∧ goodN l) ∧ List.length xs = (34 : Nat) ∧ goodLoc xs) ∧
 (0 : Int) ≤ Ex.wrapQ IntKind.i64 (Ex.subQ' (↑(List.length l) : Int) (1 : Int)) ∧
 Ex.wrapQ IntKind.i64 (Ex.subQ' (↑(List.length l) : Int) (1 : Int)) < (↑(List.length l) : Int) ∧
 Ex.wrapQ IntKind.i64 (Ex.subQ' (↑(List.length l) : Int) (1 : Int)) < (↑(List.length l) : Int))
 (Sy.Res.hyp True
 (Sy.Res.leaf
 (Value.int IntKind.i64
 (Ex.wrapQ IntKind.i64
 (Ex.addQ b
 (Ex.wrapQ IntKind.i64
 (Ex.remQ
 (evalE xs (tr l (Int.toNat (Ex.wrapQ IntKind.i64 (Ex.subQ' (↑(List.length l) : Int) (1 : Int))))))
 (128 : Nat))))),
 [])))
theorem lc128_run (g o c : Nat) (l : List Nd) (gx cx : Nat) (xs : List Int) (b : Int) : Sy.Ran (Sy.inT Try.prog (ctxLc g o c l gx cx xs) 60 fLoc (locC g o c l gx cx xs b 128).args (Sy.blks (locC g o c l gx cx xs b 128).mem) Sy.noB) lc128_o (lc128_R g o c l gx cx xs b) := ⟨fun ns => by kernel_rfl, fun ns => by kernel_rfl⟩
def lc256_o : Sy.O := (Sy.O.steps [0, 0, 0, 0, 0, 1, 0, 0, 2, 3, 0, 0, 4, 6, 7, 0, 0, 8, 15, 0, 1, 1, 1, 2, 0, 1, 9, 10, 11, 12] Sy.O.nil)
noncomputable def lc256_R (g : Nat) (o : Nat) (c : Nat) (l : List Nd) (gx : Nat) (cx : Nat) (xs : List Int) (b : Int) (ns : Nat → Sy.Let) : Sy.Res (Value × List Blk) := Sy.Res.need
 (((isExpr (24 : Int) l ∧ goodN l) ∧ List.length xs = (34 : Nat) ∧ goodLoc xs) ∧
 (0 : Int) ≤ Ex.wrapQ IntKind.i64 (Ex.subQ' (↑(List.length l) : Int) (1 : Int)) ∧
 Ex.wrapQ IntKind.i64 (Ex.subQ' (↑(List.length l) : Int) (1 : Int)) < (↑(List.length l) : Int) ∧
 Ex.wrapQ IntKind.i64 (Ex.subQ' (↑(List.length l) : Int) (1 : Int)) < (↑(List.length l) : Int))
 (Sy.Res.hyp True
 (Sy.Res.leaf
 (Value.int IntKind.i64
 (Ex.wrapQ IntKind.i64
 (Ex.addQ b
 (Ex.wrapQ IntKind.i64
 (Ex.remQ
 (evalE xs (tr l (Int.toNat (Ex.wrapQ IntKind.i64 (Ex.subQ' (↑(List.length l) : Int) (1 : Int))))))
 (256 : Nat))))),
 [])))
theorem lc256_run (g o c : Nat) (l : List Nd) (gx cx : Nat) (xs : List Int) (b : Int) : Sy.Ran (Sy.inT Try.prog (ctxLc g o c l gx cx xs) 60 fLoc (locC g o c l gx cx xs b 256).args (Sy.blks (locC g o c l gx cx xs b 256).mem) Sy.noB) lc256_o (lc256_R g o c l gx cx xs b) := ⟨fun ns => by kernel_rfl, fun ns => by kernel_rfl⟩
def lc512_o : Sy.O := (Sy.O.steps [0, 0, 0, 0, 0, 1, 0, 0, 2, 3, 0, 0, 4, 6, 7, 0, 0, 8, 15, 0, 1, 1, 1, 2, 0, 1, 9, 10, 11, 12] Sy.O.nil)
noncomputable def lc512_R (g : Nat) (o : Nat) (c : Nat) (l : List Nd) (gx : Nat) (cx : Nat) (xs : List Int) (b : Int) (ns : Nat → Sy.Let) : Sy.Res (Value × List Blk) := Sy.Res.need
 (((isExpr (24 : Int) l ∧ goodN l) ∧ List.length xs = (34 : Nat) ∧ goodLoc xs) ∧
 (0 : Int) ≤ Ex.wrapQ IntKind.i64 (Ex.subQ' (↑(List.length l) : Int) (1 : Int)) ∧
 Ex.wrapQ IntKind.i64 (Ex.subQ' (↑(List.length l) : Int) (1 : Int)) < (↑(List.length l) : Int) ∧
 Ex.wrapQ IntKind.i64 (Ex.subQ' (↑(List.length l) : Int) (1 : Int)) < (↑(List.length l) : Int))
 (Sy.Res.hyp True
 (Sy.Res.leaf
 (Value.int IntKind.i64
 (Ex.wrapQ IntKind.i64
 (Ex.addQ b
 (Ex.wrapQ IntKind.i64
 (Ex.remQ
 (evalE xs (tr l (Int.toNat (Ex.wrapQ IntKind.i64 (Ex.subQ' (↑(List.length l) : Int) (1 : Int))))))
 (512 : Nat))))),
 [])))
theorem lc512_run (g o c : Nat) (l : List Nd) (gx cx : Nat) (xs : List Int) (b : Int) : Sy.Ran (Sy.inT Try.prog (ctxLc g o c l gx cx xs) 60 fLoc (locC g o c l gx cx xs b 512).args (Sy.blks (locC g o c l gx cx xs b 512).mem) Sy.noB) lc512_o (lc512_R g o c l gx cx xs b) := ⟨fun ns => by kernel_rfl, fun ns => by kernel_rfl⟩
def lc1024_o : Sy.O := (Sy.O.steps [0, 0, 0, 0, 0, 1, 0, 0, 2, 3, 0, 0, 4, 6, 7, 0, 0, 8, 15, 0, 1, 1, 1, 2, 0, 1, 9, 10, 11, 12] Sy.O.nil)
noncomputable def lc1024_R (g : Nat) (o : Nat) (c : Nat) (l : List Nd) (gx : Nat) (cx : Nat) (xs : List Int) (b : Int) (ns : Nat → Sy.Let) : Sy.Res (Value × List Blk) := Sy.Res.need
 (((isExpr (24 : Int) l ∧ goodN l) ∧ List.length xs = (34 : Nat) ∧ goodLoc xs) ∧
 (0 : Int) ≤ Ex.wrapQ IntKind.i64 (Ex.subQ' (↑(List.length l) : Int) (1 : Int)) ∧
 Ex.wrapQ IntKind.i64 (Ex.subQ' (↑(List.length l) : Int) (1 : Int)) < (↑(List.length l) : Int) ∧
 Ex.wrapQ IntKind.i64 (Ex.subQ' (↑(List.length l) : Int) (1 : Int)) < (↑(List.length l) : Int))
 (Sy.Res.hyp True
 (Sy.Res.leaf
 (Value.int IntKind.i64
 (Ex.wrapQ IntKind.i64
 (Ex.addQ b
 (Ex.wrapQ IntKind.i64
 (Ex.remQ
 (evalE xs (tr l (Int.toNat (Ex.wrapQ IntKind.i64 (Ex.subQ' (↑(List.length l) : Int) (1 : Int))))))
 (1024 : Nat))))),
 [])))
theorem lc1024_run (g o c : Nat) (l : List Nd) (gx cx : Nat) (xs : List Int) (b : Int) : Sy.Ran (Sy.inT Try.prog (ctxLc g o c l gx cx xs) 60 fLoc (locC g o c l gx cx xs b 1024).args (Sy.blks (locC g o c l gx cx xs b 1024).mem) Sy.noB) lc1024_o (lc1024_R g o c l gx cx xs b) := ⟨fun ns => by kernel_rfl, fun ns => by kernel_rfl⟩

theorem loc_q {b v : Int} {s : Nat} (h0 : 0 ≤ b) (h1 : b ≤ 4096 - s) (hs : 0 < s) (hs' : s ≤ 1024) (hv : goodU v) : Ex.wrapQ .i64 (Ex.addQ b (Ex.wrapQ .i64 (Ex.remQ v s))) = b + v % (s : Int) := by
  have e : Ex.remQ v s = v % (s : Int) := by rw [Ex.remQ_eq]; exact Int.tmod_eq_emod_of_nonneg hv.1
  have p0 := Int.emod_nonneg v (b := (s : Int)) (by omega)
  have p1 := Int.emod_lt_of_pos v (b := (s : Int)) (by omega)
  rw [e, wrap_small p0 (by omega), add_small (by omega) (by omega)]

theorem locC_met (g o c : Nat) (l : List Nd) (gx cx : Nat) (xs : List Int) (b s : Int) : Sy.Meets Try.prog (locC g o c l gx cx xs b s) := by
  intro hok
  have hok' := hok
  obtain ⟨⟨hl, hE⟩, ⟨hx, hg⟩, hq, hb0, hb1⟩ := hok'
  have h0 := hl.1.1
  have fa : fineE (tr l (l.length - 1)) := tr_fine hE.1 hl.2 _ _ (Nat.lt_succ_self _) (by omega)
  have ga := evalE_good hg _ fa
  revert hok
  rcases hq with rfl | rfl | rfl | rfl | rfl | rfl | rfl | rfl | rfl | rfl | rfl
  · refine Sy.meets_of (ctxLc_holds _ _ _ _ _ _ _) mixed (lc1_run g o c l gx cx xs b) fun hok ns => ?_
    simp only [lc1_R, Sy.Res.holds, leftE hl, Int.toNat_natCast]
    exact ⟨⟨⟨⟨hE, hl.2⟩, hx, hg⟩, by omega, by omega, by omega⟩, fun _ => Sy.plainO_leaf (List.mem_singleton_self _) rfl (by rw [loc_q (s := 1) hb0 hb1 (by omega) (by omega) ga]; rfl)⟩
  · refine Sy.meets_of (ctxLc_holds _ _ _ _ _ _ _) mixed (lc2_run g o c l gx cx xs b) fun hok ns => ?_
    simp only [lc2_R, Sy.Res.holds, leftE hl, Int.toNat_natCast]
    exact ⟨⟨⟨⟨hE, hl.2⟩, hx, hg⟩, by omega, by omega, by omega⟩, fun _ => Sy.plainO_leaf (List.mem_singleton_self _) rfl (by rw [loc_q (s := 2) hb0 hb1 (by omega) (by omega) ga]; rfl)⟩
  · refine Sy.meets_of (ctxLc_holds _ _ _ _ _ _ _) mixed (lc4_run g o c l gx cx xs b) fun hok ns => ?_
    simp only [lc4_R, Sy.Res.holds, leftE hl, Int.toNat_natCast]
    exact ⟨⟨⟨⟨hE, hl.2⟩, hx, hg⟩, by omega, by omega, by omega⟩, fun _ => Sy.plainO_leaf (List.mem_singleton_self _) rfl (by rw [loc_q (s := 4) hb0 hb1 (by omega) (by omega) ga]; rfl)⟩
  · refine Sy.meets_of (ctxLc_holds _ _ _ _ _ _ _) mixed (lc8_run g o c l gx cx xs b) fun hok ns => ?_
    simp only [lc8_R, Sy.Res.holds, leftE hl, Int.toNat_natCast]
    exact ⟨⟨⟨⟨hE, hl.2⟩, hx, hg⟩, by omega, by omega, by omega⟩, fun _ => Sy.plainO_leaf (List.mem_singleton_self _) rfl (by rw [loc_q (s := 8) hb0 hb1 (by omega) (by omega) ga]; rfl)⟩
  · refine Sy.meets_of (ctxLc_holds _ _ _ _ _ _ _) mixed (lc16_run g o c l gx cx xs b) fun hok ns => ?_
    simp only [lc16_R, Sy.Res.holds, leftE hl, Int.toNat_natCast]
    exact ⟨⟨⟨⟨hE, hl.2⟩, hx, hg⟩, by omega, by omega, by omega⟩, fun _ => Sy.plainO_leaf (List.mem_singleton_self _) rfl (by rw [loc_q (s := 16) hb0 hb1 (by omega) (by omega) ga]; rfl)⟩
  · refine Sy.meets_of (ctxLc_holds _ _ _ _ _ _ _) mixed (lc32_run g o c l gx cx xs b) fun hok ns => ?_
    simp only [lc32_R, Sy.Res.holds, leftE hl, Int.toNat_natCast]
    exact ⟨⟨⟨⟨hE, hl.2⟩, hx, hg⟩, by omega, by omega, by omega⟩, fun _ => Sy.plainO_leaf (List.mem_singleton_self _) rfl (by rw [loc_q (s := 32) hb0 hb1 (by omega) (by omega) ga]; rfl)⟩
  · refine Sy.meets_of (ctxLc_holds _ _ _ _ _ _ _) mixed (lc64_run g o c l gx cx xs b) fun hok ns => ?_
    simp only [lc64_R, Sy.Res.holds, leftE hl, Int.toNat_natCast]
    exact ⟨⟨⟨⟨hE, hl.2⟩, hx, hg⟩, by omega, by omega, by omega⟩, fun _ => Sy.plainO_leaf (List.mem_singleton_self _) rfl (by rw [loc_q (s := 64) hb0 hb1 (by omega) (by omega) ga]; rfl)⟩
  · refine Sy.meets_of (ctxLc_holds _ _ _ _ _ _ _) mixed (lc128_run g o c l gx cx xs b) fun hok ns => ?_
    simp only [lc128_R, Sy.Res.holds, leftE hl, Int.toNat_natCast]
    exact ⟨⟨⟨⟨hE, hl.2⟩, hx, hg⟩, by omega, by omega, by omega⟩, fun _ => Sy.plainO_leaf (List.mem_singleton_self _) rfl (by rw [loc_q (s := 128) hb0 hb1 (by omega) (by omega) ga]; rfl)⟩
  · refine Sy.meets_of (ctxLc_holds _ _ _ _ _ _ _) mixed (lc256_run g o c l gx cx xs b) fun hok ns => ?_
    simp only [lc256_R, Sy.Res.holds, leftE hl, Int.toNat_natCast]
    exact ⟨⟨⟨⟨hE, hl.2⟩, hx, hg⟩, by omega, by omega, by omega⟩, fun _ => Sy.plainO_leaf (List.mem_singleton_self _) rfl (by rw [loc_q (s := 256) hb0 hb1 (by omega) (by omega) ga]; rfl)⟩
  · refine Sy.meets_of (ctxLc_holds _ _ _ _ _ _ _) mixed (lc512_run g o c l gx cx xs b) fun hok ns => ?_
    simp only [lc512_R, Sy.Res.holds, leftE hl, Int.toNat_natCast]
    exact ⟨⟨⟨⟨hE, hl.2⟩, hx, hg⟩, by omega, by omega, by omega⟩, fun _ => Sy.plainO_leaf (List.mem_singleton_self _) rfl (by rw [loc_q (s := 512) hb0 hb1 (by omega) (by omega) ga]; rfl)⟩
  · refine Sy.meets_of (ctxLc_holds _ _ _ _ _ _ _) mixed (lc1024_run g o c l gx cx xs b) fun hok ns => ?_
    simp only [lc1024_R, Sy.Res.holds, leftE hl, Int.toNat_natCast]
    exact ⟨⟨⟨⟨hE, hl.2⟩, hx, hg⟩, by omega, by omega, by omega⟩, fun _ => Sy.plainO_leaf (List.mem_singleton_self _) rfl (by rw [loc_q (s := 1024) hb0 hb1 (by omega) (by omega) ga]; rfl)⟩

end Go.Proofs.Ytgaejhhipnpopaa
