/-
  gen: the acts, explored, each kind by itself; gen: the acts, by contract (the first mapping); gen: the two acts that branch, by contract; every act (the first mapping); gen: the acts by the second mapping, explored, each kind by itself; gen: every act by contract, the second mapping; gen: where acts
-/
import Derived.Test.YtlpcnaeknbmjdaaGreatPd

namespace Go.Proofs.YtlpcnaeknbmjdaaGreat.Gn
set_option linter.unusedVariables false
set_option linter.unusedSimpArgs false
open Go Go.RowKit
open Go.Proofs.YtlpcnaeknbmjdaaGreat.Sy (Let Blk HasL)
open Lw (I insCells tI)
abbrev setOp (a : ActD) (n : Int) : ActD := ⟨n, a.dst, a.base, a.size, a.ix, a.e, a.f, a.mode, a.to, a.line, a.col⟩
noncomputable def xE (X : List I) (a : ActD) : List I := X ++ exprI a.e 0
noncomputable def xF (X : List I) (a : ActD) : List I := xE X a ++ exprI a.f 1
noncomputable def Sy.lay1 (y : Nat) (mp tv : Value) (b : Bool) (L : List Blk) : List (Nat × Sy.Cont) := [(y, layC (slV (Sy.vY L)) mp tv (Sy.eY L) b)]
noncomputable def Sy.exU (q : Rw) (y : Nat) (a : ActD) (ev fv : Value) (Be Bf : List (Nat × Sy.Cont)) (mp tv : Value) (b : Bool) (X : List I) (R : List Blk) (ar : Array Value) (L : List Blk) : Sy.CallU :=
  match Ex.eqQ (Sy.argI ar 2) 0 with
  | true => (exprL q Be y ev a.e 0 (Sy.vY L) mp tv (Sy.eY L) b X).toU (Sy.lay1 y mp tv b L) (q.B (Sy.vY L) X) R
  | false => (exprL q Bf y fv a.f 1 (Sy.vY L) mp tv (Sy.eY L) b (xE X a)).toU (Sy.lay1 y mp tv b L) (q.B (Sy.vY L) (xE X a)) R
noncomputable def Sy.plU (q : Rw) (y : Nat) (a : ActD) (iv ev fv : Value) (Bi : List (Nat × Sy.Cont)) (mp tv : Value) (b : Bool) (X : List I) (R : List Blk) (ar : Array Value) (L : List Blk) : Sy.CallU :=
  match Ex.eqQ (Sy.argI ar 2) 0 with
  | true => (placeL q Bi y a iv ev fv 0 (Sy.vY L) mp tv (Sy.eY L) b X).toU (Sy.lay1 y mp tv b L) (q.B (Sy.vY L) X) R
  | false => match Ex.eqQ (Sy.argI ar 2) 1 with
    | true => (placeL q Bi y a iv ev fv 1 (Sy.vY L) mp tv (Sy.eY L) b (xE X a)).toU (Sy.lay1 y mp tv b L) (q.B (Sy.vY L) (xE X a)) R
    | false => (placeL q Bi y a iv ev fv 2 (Sy.vY L) mp tv (Sy.eY L) b (xF X a)).toU (Sy.lay1 y mp tv b L) (q.B (Sy.vY L) (xF X a)) R
noncomputable def Sy.headI (L : List Blk) : List I := match L with
  | ⟨_, .obj (.cells cs _ _), _⟩ :: _ => Sy.parse 8 cs.toList
  | _ => []
noncomputable def Sy.puU (q : Rw) (y : Nat) (mp tv : Value) (b : Bool) (XP : List I) (R : List Blk) (ar : Array Value) (L : List Blk) : Sy.CallU :=
  (putL q y (Sy.ptrN (Sy.argV ar 1)) (Sy.capN (Sy.argV ar 1)) (Sy.vY L) mp tv (Sy.eY L) b XP (Sy.headI L)).toU (Sy.lay1 y mp tv b L) (q.B (Sy.vY L) XP) R
noncomputable def Sy.loU (q : Rw) (y : Nat) (m : Int) (mp tv : Value) (b : Bool) (XL : List I) (R : List Blk) (ar : Array Value) (L : List Blk) : Sy.CallU :=
  match Sy.argV ar 2 with
  | .slice (some ⟨s, _, _⟩) _ c => (loopS q y s c m (Sy.argI ar 3) (Sy.vY L) mp tv (Sy.eY L) b XL).toU (Sy.lay1 y mp tv b L) (q.B (Sy.vY L) XL) R
  | _ => (loopC q y m (Sy.argI ar 3) (Sy.vY L) mp tv (Sy.eY L) b XL).toU (Sy.lay1 y mp tv b L) (q.B (Sy.vY L) XL) R
noncomputable def ctxA0 (m : Int) : Sy.Ctx := Sy.mkS [(fMove, fun a _ => mvC (Sy.argI a 0) (Sy.argI a 1)), (fAcc, fun a _ => asC (Sy.argI a 0) (Sy.argI a 1)), (fLd, fun a _ => ldC m (Sy.argI a 1)), (fSt, fun a _ => stC m (Sy.argI a 1))] [] []
noncomputable def ctxAc (q : Rw) (y : Nat) (a : ActD) (iv ev fv : Value) (Bi Be Bf : List (Nat × Sy.Cont)) (mp tv : Value) (b : Bool) (X XP XL : List I) (R : List Blk) : Sy.Ctx :=
  Sy.mkU (ctxA0 a.mode) [(fExpr, Sy.exU q y a ev fv Be Bf mp tv b X R), (fPlace, Sy.plU q y a iv ev fv Bi mp tv b X R), (fPut, Sy.puU q y mp tv b XP R), (fLoop, Sy.loU q y a.mode mp tv b XL R)] []
noncomputable def Sy.brU (q : Rw) (w : Fw) (y : Nat) (mp tv : Value) (b : Bool) (XP : List I) (fs : List Fl) (R : List Blk) (op rd to : Int) (L : List Blk) : Sy.CallU :=
  (brC q w y (Sy.vY L) tv mp (Sy.eY L) b XP fs op rd to).toU [(y, layC (slV (Sy.vY L)) mp (slV tv) (Sy.eY L) b)] (q.B (Sy.vY L) XP ++ w.B y tv fs) R
noncomputable def ctxJp (q : Rw) (w : Fw) (y : Nat) (a : ActD) (ev fv : Value) (Be Bf : List (Nat × Sy.Cont)) (mp tv : Value) (b : Bool) (X XP : List I) (fs : List Fl) (op rd : Int) (R RB : List Blk) : Sy.Ctx :=
  Sy.mkU Sy.S0 [(fExpr, Sy.exU q y a ev fv Be Bf mp (slV tv) b X R), (fBranch, fun _ L => Sy.brU q w y mp tv b XP fs RB op rd a.to L)] []
abbrev fAct : FuncId := 59
def aSet_o : Sy.O := (Sy.O.pack 37 0x3080210040008000004010842108000000000000000020 Sy.O.nil)
noncomputable def aSet_R (q : Rw) (TL : List Blk) (R : List Blk) (y : Nat) (a : ActD) (iv : Value) (ev : Value) (fv : Value) (Bi : List (Nat × Sy.Cont)) (Be : List (Nat × Sy.Cont)) (Bf : List (Nat × Sy.Cont)) (v : Value) (mp : Value) (tv : Value) (e : Int) (X : List I) (XP : List I) (XL : List I) (ns : Nat → Sy.Let) : Sy.Res (Value × List Blk) :=
 let z0 := (Value.slice (slP v) (Sy.lenS v) (slC v))
 let z1 := (exprI (ActD.e a) (0 : Int))
 let z2 := (lv0 [ns (1 : Nat)])
 let z3 := (Value.slice (slP z2) (Sy.lenS z2) (slC z2))
 let z4 := [I.mk (6 : Int) (ActD.dst a) (31 : Int) (24 : Int) (0 : Int) (0 : Int)]
 let z5 := (lv0 [ns (3 : Nat)])
 Sy.Res.need (okE Be ev (ActD.e a) (0 : Int) ∧ q.2 z0 X ∧ List.length X + List.length z1 ≤ (2000000 : Nat)) (Sy.Res.need (List.Perm TL (List.append (List.map (fun (p : Nat × Sy.Cont) => Blk.mk (Prod.fst p) (Prod.snd p) true) (q.1 z0 X)) R)) (Sy.Res.need (Sy.GotL R Be) (Sy.Res.hyp (q.2 z2 (List.append X z1)) (Sy.Res.need True (Sy.Res.hyp True (Sy.Res.need (q.2 z3 XP ∧ z4 ≠ [] ∧ List.length XP + (1 : Nat) ≤ (2000000 : Nat)) (Sy.Res.need (List.Perm (List.append R (List.map (fun (p : Nat × Sy.Cont) => Blk.mk (Prod.fst p) (Prod.snd p) true) (q.1 z2 (List.append X z1)))) (List.append (List.map (fun (p : Nat × Sy.Cont) => Blk.mk (Prod.fst p) (Prod.snd p) true) (q.1 z3 XP)) R)) (Sy.Res.hyp (q.2 z5 (List.append XP z4)) (Sy.Res.leaf (Value.tuple (Array.mk []), Blk.mk y (Sy.Cont.obj (Obj.cells (Array.mk [Value.slice (slP z5) (Sy.lenS z5) (slC z5), mp, tv, Value.int IntKind.i64 (fstE e (exprE (ActD.e a) (0 : Int))), Value.bool false]) (132 : Nat))) true :: List.append R (List.map (fun (p : Nat × Sy.Cont) => Blk.mk (Prod.fst p) (Prod.snd p) true) (q.1 z5 (List.append XP z4)))))))))))))
theorem aSet_run (q : Rw) (TL R : List Blk) (y : Nat) (a : ActD) (iv ev fv : Value) (Bi Be Bf : List (Nat × Sy.Cont)) (v mp tv : Value) (e : Int) (X XP XL : List I) : Sy.Ran (Sy.inY Tryz.prog (ctxAc q y (setOp a 1) iv ev fv Bi Be Bf mp tv false X XP XL R) 50 fAct #[.pointer (some ⟨y, 0, none⟩), actV (setOp a 1) iv ev fv] (⟨y, layC (slV v) mp tv e false, true⟩ :: TL) 1) aSet_o (aSet_R q TL R y a iv ev fv Bi Be Bf v mp tv e X XP XL) := ⟨fun ns => by kernel_rfl, fun ns => by kernel_rfl⟩
def aLoad_o : Sy.O := (Sy.O.pack 25 0x80210842100000000000000000020 (Sy.O.fork (Sy.O.pack 40 0x18801080210040058801584010800059800014800004100401 Sy.O.nil) (Sy.O.pack 16 0x18401080200040000020 Sy.O.nil)))
noncomputable def aLoad_R (q : Rw) (TL : List Blk) (R : List Blk) (y : Nat) (a : ActD) (iv : Value) (ev : Value) (fv : Value) (Bi : List (Nat × Sy.Cont)) (Be : List (Nat × Sy.Cont)) (Bf : List (Nat × Sy.Cont)) (v : Value) (mp : Value) (tv : Value) (e : Int) (X : List I) (XP : List I) (XL : List I) (ns : Nat → Sy.Let) : Sy.Res (Value × List Blk) :=
 let z0 := (ActD.size a)
 let z1 := (ActD.ix a)
 let z2 := (Value.slice (slP v) (Sy.lenS v) (slC v))
 let z3 := (placeI (ActD.base a) z0 z1 (0 : Int))
 let z4 := (lv0 [ns (1 : Nat)])
 let z5 := (Value.slice (slP z4) (Sy.lenS z4) (slC z4))
 let z6 := (ActD.dst a)
 let z7 := [I.mk (22 : Int) z6 (29 : Int) (0 : Int) (0 : Int) (0 : Int), I.mk (21 : Int) z6 (0 : Int) (0 : Int) (1 : Int) (0 : Int)]
 let z8 := (lv0 [ns (3 : Nat)])
 let z9 := (Sy.Cont.obj (Obj.cells (Array.mk [Value.slice (slP z8) (Sy.lenS z8) (slC z8), mp, tv, Value.int IntKind.i64 (fstE e (placeE z0 z1 (0 : Int))), Value.bool false]) (132 : Nat)))
 let z10 := [I.mk (24 : Int) z6 (29 : Int) (0 : Int) (0 : Int) (0 : Int)]
 let z11 := (List.append XP z10)
 Sy.Res.need (okP Bi iv (ActD.base a) z0 z1 (0 : Int) ∧ q.2 z2 X ∧ List.length X + List.length z3 ≤ (2000000 : Nat)) (Sy.Res.need (List.Perm TL (List.append (List.map (fun (p : Nat × Sy.Cont) => Blk.mk (Prod.fst p) (Prod.snd p) true) (q.1 z2 X)) R)) (Sy.Res.need (Sy.GotL R Bi) (Sy.Res.hyp (q.2 z4 (List.append X z3)) (Sy.Res.br (Ex.eqQ (ActD.mode a) (1 : Int)) (Sy.Res.need True (Sy.Res.hyp True (Sy.Res.need (q.2 z5 XP ∧ z7 ≠ [] ∧ List.length XP + (2 : Nat) ≤ (2000000 : Nat)) (Sy.Res.need (List.Perm (List.append R (List.map (fun (p : Nat × Sy.Cont) => Blk.mk (Prod.fst p) (Prod.snd p) true) (q.1 z4 (List.append X z3)))) (List.append (List.map (fun (p : Nat × Sy.Cont) => Blk.mk (Prod.fst p) (Prod.snd p) true) (q.1 z5 XP)) R)) (Sy.Res.hyp (q.2 z8 (List.append XP z7)) (Sy.Res.leaf (Value.tuple (Array.mk []), Blk.mk y z9 true :: List.append R (List.map (fun (p : Nat × Sy.Cont) => Blk.mk (Prod.fst p) (Prod.snd p) true) (q.1 z8 (List.append XP z7)))))))))) (Sy.Res.need True (Sy.Res.hyp True (Sy.Res.need (q.2 z5 XP ∧ z10 ≠ [] ∧ List.length XP + (1 : Nat) ≤ (2000000 : Nat)) (Sy.Res.need (List.Perm (List.append R (List.map (fun (p : Nat × Sy.Cont) => Blk.mk (Prod.fst p) (Prod.snd p) true) (q.1 z4 (List.append X z3)))) (List.append (List.map (fun (p : Nat × Sy.Cont) => Blk.mk (Prod.fst p) (Prod.snd p) true) (q.1 z5 XP)) R)) (Sy.Res.hyp (q.2 z8 z11) (Sy.Res.leaf (Value.tuple (Array.mk []), Blk.mk y z9 true :: List.append R (List.map (fun (p : Nat × Sy.Cont) => Blk.mk (Prod.fst p) (Prod.snd
 p) true) (q.1 z8 z11)))))))))))))
theorem aLoad_run (q : Rw) (TL R : List Blk) (y : Nat) (a : ActD) (iv ev fv : Value) (Bi Be Bf : List (Nat × Sy.Cont)) (v mp tv : Value) (e : Int) (X XP XL : List I) : Sy.Ran (Sy.inY Tryz.prog (ctxAc q y (setOp a 2) iv ev fv Bi Be Bf mp tv false X XP XL R) 50 fAct #[.pointer (some ⟨y, 0, none⟩), actV (setOp a 2) iv ev fv] (⟨y, layC (slV v) mp tv e false, true⟩ :: TL) 1) aLoad_o (aLoad_R q TL R y a iv ev fv Bi Be Bf v mp tv e X XP XL) := ⟨fun ns => by kernel_rfl, fun ns => by kernel_rfl⟩
def aStore_o : Sy.O := (Sy.O.pack 36 0x4010842100001004210842000000000000000000020 (Sy.O.fork (Sy.O.pack 13 0x3080210040008000 Sy.O.nil) (Sy.O.pack 13 0x3080210040008000 Sy.O.nil)))
noncomputable def aStore_R (q : Rw) (TL : List Blk) (R : List Blk) (y : Nat) (a : ActD) (iv : Value) (ev : Value) (fv : Value) (Bi : List (Nat × Sy.Cont)) (Be : List (Nat × Sy.Cont)) (Bf : List (Nat × Sy.Cont)) (v : Value) (mp : Value) (tv : Value) (e : Int) (X : List I) (XP : List I) (XL : List I) (ns : Nat → Sy.Let) : Sy.Res (Value × List Blk) :=
 let z0 := (Value.slice (slP v) (Sy.lenS v) (slC v))
 let z1 := (exprI (ActD.e a) (0 : Int))
 let z2 := (lv0 [ns (1 : Nat)])
 let z3 := (List.append X z1)
 let z4 := (ActD.size a)
 let z5 := (ActD.ix a)
 let z6 := (Value.slice (slP z2) (Sy.lenS z2) (slC z2))
 let z7 := (placeI (ActD.base a) z4 z5 (1 : Int))
 let z8 := (lv0 [ns (2 : Nat)])
 let z9 := (Value.slice (slP z8) (Sy.lenS z8) (slC z8))
 let z10 := [I.mk (23 : Int) (24 : Int) (29 : Int) (0 : Int) (0 : Int) (0 : Int)]
 let z11 := (lv0 [ns (4 : Nat)])
 let z12 := (List.append XP z10)
 let z13 := (Sy.Cont.obj (Obj.cells (Array.mk [Value.slice (slP z11) (Sy.lenS z11) (slC z11), mp, tv, Value.int IntKind.i64 (fstE (fstE e (exprE (ActD.e a) (0 : Int))) (placeE z4 z5 (1 : Int))), Value.bool false]) (132 : Nat)))
 let z14 := [I.mk (25 : Int) (24 : Int) (29 : Int) (0 : Int) (0 : Int) (0 : Int)]
 let z15 := (List.append XP z14)
 Sy.Res.need (okE Be ev (ActD.e a) (0 : Int) ∧ q.2 z0 X ∧ List.length X + List.length z1 ≤ (2000000 : Nat)) (Sy.Res.need (List.Perm TL (List.append (List.map (fun (p : Nat × Sy.Cont) => Blk.mk (Prod.fst p) (Prod.snd p) true) (q.1 z0 X)) R)) (Sy.Res.need (Sy.GotL R Be) (Sy.Res.hyp (q.2 z2 z3) (Sy.Res.need (okP Bi iv (ActD.base a) z4 z5 (1 : Int) ∧ q.2 z6 z3 ∧ List.length z3 + List.length z7 ≤ (2000000 : Nat)) (Sy.Res.need (List.Perm (List.append R (List.map (fun (p : Nat × Sy.Cont) => Blk.mk (Prod.fst p) (Prod.snd p) true) (q.1 z2 z3))) (List.append (List.map (fun (p : Nat × Sy.Cont) => Blk.mk (Prod.fst p) (Prod.snd p) true) (q.1 z6 z3)) R)) (Sy.Res.need (Sy.GotL R Bi) (Sy.Res.hyp (q.2 z8 (List.append z3 z7)) (Sy.Res.br (Ex.eqQ (ActD.mode a) (1 : Int)) (Sy.Res.need True (Sy.Res.hyp True (Sy.Res.need (q.2 z9 XP ∧ z10 ≠ [] ∧ List.length XP + (1 : Nat) ≤ (2000000 : Nat)) (Sy.Res.need (List.Perm (List.append R (List.map (fun (p : Nat × Sy.Cont) => Blk.mk (Prod.fst p) (Prod.snd p) true) (q.1 z8 (List.append z3 z7)))) (List.append (List.map (fun (p : Nat × Sy.Cont) => Blk.mk (Prod.fst p) (Prod.snd p) true) (q.1 z9 XP)) R)) (Sy.Res.hyp (q.2 z11 z12) (Sy.Res.leaf (Value.tuple (Array.mk []), Blk.mk y z13 true :: List.append R (List.map (fun (p : Nat × Sy.Cont) => Blk.mk (Prod.fst p) (Prod.snd p) true) (q.1 z11 z12))))))))) (Sy.Res.need True (Sy.Res.hyp True (Sy.Res.need (q.2 z9 XP ∧ z14 ≠ [] ∧ List.length XP + (1 : Nat) ≤ (2000000 : Nat)) (Sy.Res.need (List.Perm (List.append R (List.map
 (fun (p : Nat × Sy.Cont) => Blk.mk (Prod.fst p) (Prod.snd p) true) (q.1 z8 (List.append z3 z7)))) (List.append (List.map (fun (p : Nat × Sy.Cont) => Blk.mk (Prod.fst p) (Prod.snd p) true) (q.1 z9 XP)) R)) (Sy.Res.hyp (q.2 z11 z15) (Sy.Res.leaf (Value.tuple (Array.mk []), Blk.mk y z13 true :: List.append R (List.map (fun (p : Nat × Sy.Cont) => Blk.mk (Prod.fst p) (Prod.snd p) true) (q.1 z11 z15)))))))))))))))))
theorem aStore_run (q : Rw) (TL R : List Blk) (y : Nat) (a : ActD) (iv ev fv : Value) (Bi Be Bf : List (Nat × Sy.Cont)) (v mp tv : Value) (e : Int) (X XP XL : List I) : Sy.Ran (Sy.inY Tryz.prog (ctxAc q y (setOp a 3) iv ev fv Bi Be Bf mp tv false X XP XL R) 50 fAct #[.pointer (some ⟨y, 0, none⟩), actV (setOp a 3) iv ev fv] (⟨y, layC (slV v) mp tv e false, true⟩ :: TL) 1) aStore_o (aStore_R q TL R y a iv ev fv Bi Be Bf v mp tv e X XP XL) := ⟨fun ns => by kernel_rfl, fun ns => by kernel_rfl⟩
def aXchg_o : Sy.O := (Sy.O.pack 64 0x18401080200040000020080210000100001004210840000401084210800000000000000000000020 Sy.O.nil)
noncomputable def aXchg_R (q : Rw) (TL : List Blk) (R : List Blk) (y : Nat) (a : ActD) (iv : Value) (ev : Value) (fv : Value) (Bi : List (Nat × Sy.Cont)) (Be : List (Nat × Sy.Cont)) (Bf : List (Nat × Sy.Cont)) (v : Value) (mp : Value) (tv : Value) (e : Int) (X : List I) (XP : List I) (XL : List I) (ns : Nat → Sy.Let) : Sy.Res (Value × List Blk) :=
 let z0 := (Value.slice (slP v) (Sy.lenS v) (slC v))
 let z1 := (exprI (ActD.e a) (0 : Int))
 let z2 := (lv0 [ns (1 : Nat)])
 let z3 := (List.append X z1)
 let z4 := (ActD.size a)
 let z5 := (ActD.ix a)
 let z6 := (Value.slice (slP z2) (Sy.lenS z2) (slC z2))
 let z7 := (placeI (ActD.base a) z4 z5 (1 : Int))
 let z8 := (lv0 [ns (2 : Nat)])
 let z9 := (Value.slice (slP z8) (Sy.lenS z8) (slC z8))
 let z10 := (lv0 [ns (3 : Nat)])
 let z11 := (List.append XL (lpI (ActD.mode a) [] (24 : Int)))
 let z12 := (Value.slice (slP z10) (Sy.lenS z10) (slC z10))
 let z13 := [I.mk (6 : Int) (ActD.dst a) (31 : Int) (25 : Int) (0 : Int) (0 : Int)]
 let z14 := (lv0 [ns (5 : Nat)])
 let z15 := (List.append XP z13)
 Sy.Res.need (okE Be ev (ActD.e a) (0 : Int) ∧ q.2 z0 X ∧ List.length X + List.length z1 ≤ (2000000 : Nat)) (Sy.Res.need (List.Perm TL (List.append (List.map (fun (p : Nat × Sy.Cont) => Blk.mk (Prod.fst p) (Prod.snd p) true) (q.1 z0 X)) R)) (Sy.Res.need (Sy.GotL R Be) (Sy.Res.hyp (q.2 z2 z3) (Sy.Res.need (okP Bi iv (ActD.base a) z4 z5 (1 : Int) ∧ q.2 z6 z3 ∧ List.length z3 + List.length z7 ≤ (2000000 : Nat)) (Sy.Res.need (List.Perm (List.append R (List.map (fun (p : Nat × Sy.Cont) => Blk.mk (Prod.fst p) (Prod.snd p) true) (q.1 z2 z3))) (List.append (List.map (fun (p : Nat × Sy.Cont) => Blk.mk (Prod.fst p) (Prod.snd p) true) (q.1 z6 z3)) R)) (Sy.Res.need (Sy.GotL R Bi) (Sy.Res.hyp (q.2 z8 (List.append z3 z7)) (Sy.Res.need (q.2 z9 XL ∧ List.length XL + (6 : Nat) ≤ (2000000 : Nat)) (Sy.Res.need (List.Perm (List.append R (List.map (fun (p : Nat × Sy.Cont) => Blk.mk (Prod.fst p) (Prod.snd p) true) (q.1 z8 (List.append z3 z7)))) (List.append (List.map (fun (p : Nat × Sy.Cont) => Blk.mk (Prod.fst p) (Prod.snd p) true) (q.1 z9 XL)) R)) (Sy.Res.hyp (q.2 z10 z11) (Sy.Res.need True (Sy.Res.hyp True (Sy.Res.need (q.2 z12 XP ∧ z13 ≠ [] ∧ List.length XP + (1 : Nat) ≤ (2000000 : Nat)) (Sy.Res.need (List.Perm (List.append R (List.map (fun (p : Nat × Sy.Cont) => Blk.mk (Prod.fst p) (Prod.snd p) true) (q.1 z10 z11))) (List.append (List.map (fun (p : Nat × Sy.Cont) => Blk.mk (Prod.fst p) (Prod.snd p) true) (q.1 z12 XP)) R)) (Sy.Res.hyp (q.2 z14 z15) (Sy.Res.leaf (Value.tuple (Array.mk []),
 Blk.mk y (Sy.Cont.obj (Obj.cells (Array.mk [Value.slice (slP z14) (Sy.lenS z14) (slC z14), mp, tv, Value.int IntKind.i64 (fstE (fstE e (exprE (ActD.e a) (0 : Int))) (placeE z4 z5 (1 : Int))), Value.bool false]) (132 : Nat))) true :: List.append R (List.map (fun (p : Nat × Sy.Cont) => Blk.mk (Prod.fst p) (Prod.snd p) true) (q.1 z14 z15)))))))))))))))))))
theorem aXchg_run (q : Rw) (TL R : List Blk) (y : Nat) (a : ActD) (iv ev fv : Value) (Bi Be Bf : List (Nat × Sy.Cont)) (v mp tv : Value) (e : Int) (X XP XL : List I) : Sy.Ran (Sy.inY Tryz.prog (ctxAc q y (setOp a 4) iv ev fv Bi Be Bf mp tv false X XP XL R) 50 fAct #[.pointer (some ⟨y, 0, none⟩), actV (setOp a 4) iv ev fv] (⟨y, layC (slV v) mp tv e false, true⟩ :: TL) 1) aXchg_o (aXchg_R q TL R y a iv ev fv Bi Be Bf v mp tv e X XP XL) := ⟨fun ns => by kernel_rfl, fun ns => by kernel_rfl⟩
def aFadd_o : Sy.O := (Sy.O.pack 66 0x8100820080010000010020084010000100001004210840000401084210800000000000000000000020 Sy.O.nil)
noncomputable def aFadd_R (q : Rw) (TL : List Blk) (R : List Blk) (y : Nat) (a : ActD) (iv : Value) (ev : Value) (fv : Value) (Bi : List (Nat × Sy.Cont)) (Be : List (Nat × Sy.Cont)) (Bf : List (Nat × Sy.Cont)) (v : Value) (mp : Value) (tv : Value) (e : Int) (X : List I) (XP : List I) (XL : List I) (ns : Nat → Sy.Let) : Sy.Res (Value × List Blk) :=
 let z0 := (Value.slice (slP v) (Sy.lenS v) (slC v))
 let z1 := (exprI (ActD.e a) (0 : Int))
 let z2 := (lv0 [ns (1 : Nat)])
 let z3 := (List.append X z1)
 let z4 := (ActD.size a)
 let z5 := (ActD.ix a)
 let z6 := (Value.slice (slP z2) (Sy.lenS z2) (slC z2))
 let z7 := (placeI (ActD.base a) z4 z5 (1 : Int))
 let z8 := (lv0 [ns (2 : Nat)])
 let z9 := (Value.slice (slP z8) (Sy.lenS z8) (slC z8))
 let z10 := (lv0 [ns (4 : Nat)])
 let z11 := (List.append XL (lpI (ActD.mode a) [I.mk (3 : Int) (26 : Int) (25 : Int) (24 : Int) (0 : Int) (0 : Int)] (26 : Int)))
 let z12 := (Value.slice (slP z10) (Sy.lenS z10) (slC z10))
 let z13 := [I.mk (6 : Int) (ActD.dst a) (31 : Int) (25 : Int) (0 : Int) (0 : Int)]
 let z14 := (lv0 [ns (6 : Nat)])
 let z15 := (List.append XP z13)
 Sy.Res.need (okE Be ev (ActD.e a) (0 : Int) ∧ q.2 z0 X ∧ List.length X + List.length z1 ≤ (2000000 : Nat)) (Sy.Res.need (List.Perm TL (List.append (List.map (fun (p : Nat × Sy.Cont) => Blk.mk (Prod.fst p) (Prod.snd p) true) (q.1 z0 X)) R)) (Sy.Res.need (Sy.GotL R Be) (Sy.Res.hyp (q.2 z2 z3) (Sy.Res.need (okP Bi iv (ActD.base a) z4 z5 (1 : Int) ∧ q.2 z6 z3 ∧ List.length z3 + List.length z7 ≤ (2000000 : Nat)) (Sy.Res.need (List.Perm (List.append R (List.map (fun (p : Nat × Sy.Cont) => Blk.mk (Prod.fst p) (Prod.snd p) true) (q.1 z2 z3))) (List.append (List.map (fun (p : Nat × Sy.Cont) => Blk.mk (Prod.fst p) (Prod.snd p) true) (q.1 z6 z3)) R)) (Sy.Res.need (Sy.GotL R Bi) (Sy.Res.hyp (q.2 z8 (List.append z3 z7)) (Sy.Res.need (q.2 z9 XL ∧ List.length XL + (6 : Nat) ≤ (2000000 : Nat)) (Sy.Res.need (List.Perm (List.append R (List.map (fun (p : Nat × Sy.Cont) => Blk.mk (Prod.fst p) (Prod.snd p) true) (q.1 z8 (List.append z3 z7)))) (List.append (List.map (fun (p : Nat × Sy.Cont) => Blk.mk (Prod.fst p) (Prod.snd p) true) (q.1 z9 XL)) R)) (Sy.Res.hyp (q.2 z10 z11) (Sy.Res.need True (Sy.Res.hyp True (Sy.Res.need (q.2 z12 XP ∧ z13 ≠ [] ∧ List.length XP + (1 : Nat) ≤ (2000000 : Nat)) (Sy.Res.need (List.Perm (List.append R (List.map (fun (p : Nat × Sy.Cont) => Blk.mk (Prod.fst p) (Prod.snd p) true) (q.1 z10 z11))) (List.append (List.map (fun (p : Nat × Sy.Cont) => Blk.mk (Prod.fst p) (Prod.snd p) true) (q.1 z12 XP)) R)) (Sy.Res.hyp (q.2 z14 z15) (Sy.Res.leaf (Value.tuple (Array.mk []),
 Blk.mk y (Sy.Cont.obj (Obj.cells (Array.mk [Value.slice (slP z14) (Sy.lenS z14) (slC z14), mp, tv, Value.int IntKind.i64 (fstE (fstE e (exprE (ActD.e a) (0 : Int))) (placeE z4 z5 (1 : Int))), Value.bool false]) (132 : Nat))) true :: List.append R (List.map (fun (p : Nat × Sy.Cont) => Blk.mk (Prod.fst p) (Prod.snd p) true) (q.1 z14 z15)))))))))))))))))))
theorem aFadd_run (q : Rw) (TL R : List Blk) (y : Nat) (a : ActD) (iv ev fv : Value) (Bi Be Bf : List (Nat × Sy.Cont)) (v mp tv : Value) (e : Int) (X XP XL : List I) : Sy.Ran (Sy.inY Tryz.prog (ctxAc q y (setOp a 5) iv ev fv Bi Be Bf mp tv false X XP XL R) 50 fAct #[.pointer (some ⟨y, 0, none⟩), actV (setOp a 5) iv ev fv] (⟨y, layC (slV v) mp tv e false, true⟩ :: TL) 1) aFadd_o (aFadd_R q TL R y a iv ev fv Bi Be Bf v mp tv e X XP XL) := ⟨fun ns => by kernel_rfl, fun ns => by kernel_rfl⟩
def aCas_o : Sy.O := (Sy.O.pack 109 0x3100210042008011100310802100011080210001108021000110000b5240001cc52000010401004210842000020084210800008021084210000000000000000000000020 Sy.O.nil)
noncomputable def aCas_R (q : Rw) (TL : List Blk) (R : List Blk) (y : Nat) (a : ActD) (iv : Value) (ev : Value) (fv : Value) (Bi : List (Nat × Sy.Cont)) (Be : List (Nat × Sy.Cont)) (Bf : List (Nat × Sy.Cont)) (v : Value) (mp : Value) (tv : Value) (e : Int) (X : List I) (XP : List I) (XL : List I) (ns : Nat → Sy.Let) : Sy.Res (Value × List Blk) :=
 let z0 := (Value.slice (slP v) (Sy.lenS v) (slC v))
 let z1 := (exprI (ActD.e a) (0 : Int))
 let z2 := (lv0 [ns (1 : Nat)])
 let z3 := (List.append X z1)
 let z4 := (Value.slice (slP z2) (Sy.lenS z2) (slC z2))
 let z5 := (exprI (ActD.f a) (1 : Int))
 let z6 := (lv0 [ns (2 : Nat)])
 let z7 := (List.append z3 z5)
 let z8 := (ActD.size a)
 let z9 := (ActD.ix a)
 let z10 := (Value.slice (slP z6) (Sy.lenS z6) (slC z6))
 let z11 := (placeI (ActD.base a) z8 z9 (2 : Int))
 let z12 := (lv0 [ns (3 : Nat)])
 let z13 := (List.append z7 z11)
 let z14 := (Value.slice (slP z12) (Sy.lenS z12) (slC z12))
 let z15 := [I.mk (opL (ActD.mode a)) (26 : Int) (29 : Int) (0 : Int) (0 : Int) (0 : Int), I.mk (16 : Int) (0 : Int) (26 : Int) (24 : Int) (0 : Int) (0 : Int), I.mk (19 : Int) (0 : Int) (0 : Int) (0 : Int) (3 : Int) (1 : Int), I.mk (opS (ActD.mode a)) (25 : Int) (29 : Int) (30 : Int) (0 : Int) (0 : Int), I.mk (21 : Int) (30 : Int) (0 : Int) (0 : Int) (-4 : Int) (0 : Int), I.mk (6 : Int) (ActD.dst a) (31 : Int) (26 : Int) (0 : Int) (0 : Int)]
 let z16 := (lv0 [ns (5 : Nat)])
 let z17 := (List.append XP z15)
 Sy.Res.need (okE Be ev (ActD.e a) (0 : Int) ∧ q.2 z0 X ∧ List.length X + List.length z1 ≤ (2000000 : Nat)) (Sy.Res.need (List.Perm TL (List.append (List.map (fun (p : Nat × Sy.Cont) => Blk.mk (Prod.fst p) (Prod.snd p) true) (q.1 z0 X)) R)) (Sy.Res.need (Sy.GotL R Be) (Sy.Res.hyp (q.2 z2 z3) (Sy.Res.need (okE Bf fv (ActD.f a) (1 : Int) ∧ q.2 z4 z3 ∧ List.length z3 + List.length z5 ≤ (2000000 : Nat)) (Sy.Res.need (List.Perm (List.append R (List.map (fun (p : Nat × Sy.Cont) => Blk.mk (Prod.fst p) (Prod.snd p) true) (q.1 z2 z3))) (List.append (List.map (fun (p : Nat × Sy.Cont) => Blk.mk (Prod.fst p) (Prod.snd p) true) (q.1 z4 z3)) R)) (Sy.Res.need (Sy.GotL R Bf) (Sy.Res.hyp (q.2 z6 z7) (Sy.Res.need (okP Bi iv (ActD.base a) z8 z9 (2 : Int) ∧ q.2 z10 z7 ∧ List.length z7 + List.length z11 ≤ (2000000 : Nat)) (Sy.Res.need (List.Perm (List.append R (List.map (fun (p : Nat × Sy.Cont) => Blk.mk (Prod.fst p) (Prod.snd p) true) (q.1 z6 z7))) (List.append (List.map (fun (p : Nat × Sy.Cont) => Blk.mk (Prod.fst p) (Prod.snd p) true) (q.1 z10 z7)) R)) (Sy.Res.need (Sy.GotL R Bi) (Sy.Res.hyp (q.2 z12 z13) (Sy.Res.need True (Sy.Res.hyp True (Sy.Res.need True (Sy.Res.hyp True (Sy.Res.need True (Sy.Res.hyp True (Sy.Res.need (q.2 z14 XP ∧ z15 ≠ [] ∧ List.length XP + (6 : Nat) ≤ (2000000 : Nat)) (Sy.Res.need (List.Perm (List.append R (List.map (fun (p : Nat × Sy.Cont) => Blk.mk (Prod.fst p) (Prod.snd p) true) (q.1 z12 z13))) (List.append (List.map (fun (p : Nat × Sy.Cont) => Blk.mk (Prod.fst p)
 (Prod.snd p) true) (q.1 z14 XP)) R)) (Sy.Res.hyp (q.2 z16 z17) (Sy.Res.leaf (Value.tuple (Array.mk []), Blk.mk y (Sy.Cont.obj (Obj.cells (Array.mk [Value.slice (slP z16) (Sy.lenS z16) (slC z16), mp, tv, Value.int IntKind.i64 (fstE (fstE (fstE e (exprE (ActD.e a) (0 : Int))) (exprE (ActD.f a) (1 : Int))) (placeE z8 z9 (2 : Int))), Value.bool false]) (132 : Nat))) true :: List.append R (List.map (fun (p : Nat × Sy.Cont) => Blk.mk (Prod.fst p) (Prod.snd p) true) (q.1 z16 z17))))))))))))))))))))))))
theorem aCas_run (q : Rw) (TL R : List Blk) (y : Nat) (a : ActD) (iv ev fv : Value) (Bi Be Bf : List (Nat × Sy.Cont)) (v mp tv : Value) (e : Int) (X XP XL : List I) : Sy.Ran (Sy.inY Tryz.prog (ctxAc q y (setOp a 6) iv ev fv Bi Be Bf mp tv false X XP XL R) 50 fAct #[.pointer (some ⟨y, 0, none⟩), actV (setOp a 6) iv ev fv] (⟨y, layC (slV v) mp tv e false, true⟩ :: TL) 1) aCas_o (aCas_R q TL R y a iv ev fv Bi Be Bf v mp tv e X XP XL) := ⟨fun ns => by kernel_rfl, fun ns => by kernel_rfl⟩
def aFence_o : Sy.O := (Sy.O.pack 20 0x20 (Sy.O.fork (Sy.O.pack 9 0x30802108400 Sy.O.nil) (Sy.O.pack 9 0x30802108400 Sy.O.nil)))
noncomputable def aFence_R (q : Rw) (TL : List Blk) (R : List Blk) (y : Nat) (a : ActD) (iv : Value) (ev : Value) (fv : Value) (Bi : List (Nat × Sy.Cont)) (Be : List (Nat × Sy.Cont)) (Bf : List (Nat × Sy.Cont)) (v : Value) (mp : Value) (tv : Value) (e : Int) (X : List I) (XP : List I) (XL : List I) (ns : Nat → Sy.Let) : Sy.Res (Value × List Blk) :=
 let z0 := (Value.slice (slP v) (Sy.lenS v) (slC v))
 let z1 := [I.mk (30 : Int) (0 : Int) (0 : Int) (0 : Int) (0 : Int) (0 : Int)]
 let z2 := (lv0 [ns (2 : Nat)])
 let z3 := (Sy.Cont.obj (Obj.cells (Array.mk [Value.slice (slP z2) (Sy.lenS z2) (slC z2), mp, tv, Value.int IntKind.i64 e, Value.bool false]) (132 : Nat)))
 let z4 := [I.mk (31 : Int) (0 : Int) (0 : Int) (0 : Int) (0 : Int) (0 : Int)]
 Sy.Res.br (Ex.eqQ (ActD.mode a) (2 : Int)) (Sy.Res.need (q.2 z0 XP ∧ z1 ≠ [] ∧ List.length XP + (1 : Nat) ≤ (2000000 : Nat)) (Sy.Res.need (List.Perm TL (List.append (List.map (fun (p : Nat × Sy.Cont) => Blk.mk (Prod.fst p) (Prod.snd p) true) (q.1 z0 XP)) R)) (Sy.Res.hyp (q.2 z2 (List.append XP z1)) (Sy.Res.leaf (Value.tuple (Array.mk []), Blk.mk y z3 true :: List.append R (List.map (fun (p : Nat × Sy.Cont) => Blk.mk (Prod.fst p) (Prod.snd p) true) (q.1 z2 (List.append XP z1)))))))) (Sy.Res.need (q.2 z0 XP ∧ z4 ≠ [] ∧ List.length XP + (1 : Nat) ≤ (2000000 : Nat)) (Sy.Res.need (List.Perm TL (List.append (List.map (fun (p : Nat × Sy.Cont) => Blk.mk (Prod.fst p) (Prod.snd p) true) (q.1 z0 XP)) R)) (Sy.Res.hyp (q.2 z2 (List.append XP z4)) (Sy.Res.leaf (Value.tuple (Array.mk []), Blk.mk y z3 true :: List.append R (List.map (fun (p : Nat × Sy.Cont) => Blk.mk (Prod.fst p) (Prod.snd p) true) (q.1 z2 (List.append XP z4))))))))
theorem aFence_run (q : Rw) (TL R : List Blk) (y : Nat) (a : ActD) (iv ev fv : Value) (Bi Be Bf : List (Nat × Sy.Cont)) (v mp tv : Value) (e : Int) (X XP XL : List I) : Sy.Ran (Sy.inY Tryz.prog (ctxAc q y (setOp a 7) iv ev fv Bi Be Bf mp tv false X XP XL R) 50 fAct #[.pointer (some ⟨y, 0, none⟩), actV (setOp a 7) iv ev fv] (⟨y, layC (slV v) mp tv e false, true⟩ :: TL) 1) aFence_o (aFence_R q TL R y a iv ev fv Bi Be Bf v mp tv e X XP XL) := ⟨fun ns => by kernel_rfl, fun ns => by kernel_rfl⟩
def aPrint_o : Sy.O := (Sy.O.pack 37 0x3080210040008421084000000000000000000000000020 Sy.O.nil)
noncomputable def aPrint_R (q : Rw) (TL : List Blk) (R : List Blk) (y : Nat) (a : ActD) (iv : Value) (ev : Value) (fv : Value) (Bi : List (Nat × Sy.Cont)) (Be : List (Nat × Sy.Cont)) (Bf : List (Nat × Sy.Cont)) (v : Value) (mp : Value) (tv : Value) (e : Int) (X : List I) (XP : List I) (XL : List I) (ns : Nat → Sy.Let) : Sy.Res (Value × List Blk) :=
 let z0 := (Value.slice (slP v) (Sy.lenS v) (slC v))
 let z1 := (exprI (ActD.e a) (0 : Int))
 let z2 := (lv0 [ns (1 : Nat)])
 let z3 := (Value.slice (slP z2) (Sy.lenS z2) (slC z2))
 let z4 := [I.mk (33 : Int) (0 : Int) (0 : Int) (0 : Int) (24 : Int) (0 : Int)]
 let z5 := (lv0 [ns (3 : Nat)])
 Sy.Res.need (okE Be ev (ActD.e a) (0 : Int) ∧ q.2 z0 X ∧ List.length X + List.length z1 ≤ (2000000 : Nat)) (Sy.Res.need (List.Perm TL (List.append (List.map (fun (p : Nat × Sy.Cont) => Blk.mk (Prod.fst p) (Prod.snd p) true) (q.1 z0 X)) R)) (Sy.Res.need (Sy.GotL R Be) (Sy.Res.hyp (q.2 z2 (List.append X z1)) (Sy.Res.need (q.2 z3 XP ∧ z4 ≠ [] ∧ List.length XP + (1 : Nat) ≤ (2000000 : Nat)) (Sy.Res.need (List.Perm (List.append R (List.map (fun (p : Nat × Sy.Cont) => Blk.mk (Prod.fst p) (Prod.snd p) true) (q.1 z2 (List.append X z1)))) (List.append (List.map (fun (p : Nat × Sy.Cont) => Blk.mk (Prod.fst p) (Prod.snd p) true) (q.1 z3 XP)) R)) (Sy.Res.hyp (q.2 z5 (List.append XP z4)) (Sy.Res.leaf (Value.tuple (Array.mk []), Blk.mk y (Sy.Cont.obj (Obj.cells (Array.mk [Value.slice (slP z5) (Sy.lenS z5) (slC z5), mp, tv, Value.int IntKind.i64 (fstE e (exprE (ActD.e a) (0 : Int))), Value.bool false]) (132 : Nat))) true :: List.append R (List.map (fun (p : Nat × Sy.Cont) => Blk.mk (Prod.fst p) (Prod.snd p) true) (q.1 z5 (List.append XP z4)))))))))))
theorem aPrint_run (q : Rw) (TL R : List Blk) (y : Nat) (a : ActD) (iv ev fv : Value) (Bi Be Bf : List (Nat × Sy.Cont)) (v mp tv : Value) (e : Int) (X XP XL : List I) : Sy.Ran (Sy.inY Tryz.prog (ctxAc q y (setOp a 8) iv ev fv Bi Be Bf mp tv false X XP XL R) 50 fAct #[.pointer (some ⟨y, 0, none⟩), actV (setOp a 8) iv ev fv] (⟨y, layC (slV v) mp tv e false, true⟩ :: TL) 1) aPrint_o (aPrint_R q TL R y a iv ev fv Bi Be Bf v mp tv e X XP XL) := ⟨fun ns => by kernel_rfl, fun ns => by kernel_rfl⟩
def aJump_o : Sy.O := (Sy.O.pack 29 0x208021080000000000000000000000000020 Sy.O.nil)
noncomputable def aJump_R (q : Rw) (w : Fw) (TL : List Blk) (R : List Blk) (RB : List Blk) (y : Nat) (a : ActD) (iv : Value) (ev : Value) (fv : Value) (Be : List (Nat × Sy.Cont)) (Bf : List (Nat × Sy.Cont)) (v : Value) (mp : Value) (tv : Value) (e : Int) (X : List I) (XP : List I) (fs : List Fl) (ns : Nat → Sy.Let) : Sy.Res (Value × List Blk) :=
 let z0 := (Value.slice (slP v) (Sy.lenS v) (slC v))
 let z1 := [ns (1 : Nat), ns (2 : Nat), ns (3 : Nat), ns (4 : Nat), ns (5 : Nat)]
 let z2 := (letW z1 (0 : Nat))
 let z3 := (List.append XP [I.mk (18 : Int) (0 : Int) (0 : Int) (0 : Int) (0 : Int) (0 : Int)])
 let z4 := (letW z1 (1 : Nat))
 let z5 := (List.append fs [newF z1 (ActD.to a) XP])
 Sy.Res.need (q.2 z0 XP ∧ w.2 tv fs ∧ List.length XP + (1 : Nat) ≤ (2000000 : Nat) ∧ List.length fs ≤ (2000000 : Nat)) (Sy.Res.need (List.Perm TL (List.append (List.map (fun (p : Nat × Sy.Cont) => Blk.mk (Prod.fst p) (Prod.snd p) true) (List.append (q.1 z0 XP) (w.1 y tv fs))) RB)) (Sy.Res.hyp (q.2 z2 z3 ∧ w.2 z4 z5) (Sy.Res.leaf (Value.tuple (Array.mk []), Blk.mk y (Sy.Cont.obj (Obj.cells (Array.mk [Value.slice (slP z2) (Sy.lenS z2) (slC z2), mp, Value.slice (slP z4) (Sy.lenS z4) (slC z4), Value.int IntKind.i64 e, Value.bool false]) (132 : Nat))) true :: List.append RB (List.map (fun (p : Nat × Sy.Cont) => Blk.mk (Prod.fst p) (Prod.snd p) true) (List.append (q.1 z2 z3) (w.1 y z4 z5)))))))
theorem aJump_run (q : Rw) (w : Fw) (TL R RB : List Blk) (y : Nat) (a : ActD) (iv ev fv : Value) (Be Bf : List (Nat × Sy.Cont)) (v mp tv : Value) (e : Int) (X XP : List I) (fs : List Fl) : Sy.Ran (Sy.inY Tryz.prog (ctxJp q w y (setOp a 9) ev fv Be Bf mp tv false X XP fs 18 0 R RB) 50 fAct #[.pointer (some ⟨y, 0, none⟩), actV (setOp a 9) iv ev fv] (⟨y, layC (slV v) mp (slV tv) e false, true⟩ :: TL) 1) aJump_o (aJump_R q w TL R RB y a iv ev fv Be Bf v mp tv e X XP fs) := ⟨fun ns => by kernel_rfl, fun ns => by kernel_rfl⟩
def aZero_o : Sy.O := (Sy.O.pack 40 0x10401080000802108421000000000000000000000000000020 Sy.O.nil)
noncomputable def aZero_R (q : Rw) (w : Fw) (TL : List Blk) (R : List Blk) (RB : List Blk) (y : Nat) (a : ActD) (iv : Value) (ev : Value) (fv : Value) (Be : List (Nat × Sy.Cont)) (Bf : List (Nat × Sy.Cont)) (v : Value) (mp : Value) (tv : Value) (e : Int) (X : List I) (XP : List I) (fs : List Fl) (ns : Nat → Sy.Let) : Sy.Res (Value × List Blk) :=
 let z0 := (Value.slice (slP v) (Sy.lenS v) (slC v))
 let z1 := (exprI (ActD.e a) (0 : Int))
 let z2 := (lv0 [ns (1 : Nat)])
 let z3 := (Value.slice (slP z2) (Sy.lenS z2) (slC z2))
 let z4 := [ns (2 : Nat), ns (3 : Nat), ns (4 : Nat), ns (5 : Nat), ns (6 : Nat)]
 let z5 := (letW z4 (0 : Nat))
 let z6 := (List.append XP [I.mk (20 : Int) (24 : Int) (0 : Int) (0 : Int) (0 : Int) (0 : Int)])
 let z7 := (letW z4 (1 : Nat))
 let z8 := (List.append fs [newF z4 (ActD.to a) XP])
 Sy.Res.need (okE Be ev (ActD.e a) (0 : Int) ∧ q.2 z0 X ∧ List.length X + List.length z1 ≤ (2000000 : Nat)) (Sy.Res.need (List.Perm TL (List.append (List.map (fun (p : Nat × Sy.Cont) => Blk.mk (Prod.fst p) (Prod.snd p) true) (q.1 z0 X)) R)) (Sy.Res.need (Sy.GotL R Be) (Sy.Res.hyp (q.2 z2 (List.append X z1)) (Sy.Res.need (q.2 z3 XP ∧ w.2 tv fs ∧ List.length XP + (1 : Nat) ≤ (2000000 : Nat) ∧ List.length fs ≤ (2000000 : Nat)) (Sy.Res.need (List.Perm (List.append R (List.map (fun (p : Nat × Sy.Cont) => Blk.mk (Prod.fst p) (Prod.snd p) true) (q.1 z2 (List.append X z1)))) (List.append (List.map (fun (p : Nat × Sy.Cont) => Blk.mk (Prod.fst p) (Prod.snd p) true) (List.append (q.1 z3 XP) (w.1 y tv fs))) RB)) (Sy.Res.hyp (q.2 z5 z6 ∧ w.2 z7 z8) (Sy.Res.leaf (Value.tuple (Array.mk []), Blk.mk y (Sy.Cont.obj (Obj.cells (Array.mk [Value.slice (slP z5) (Sy.lenS z5) (slC z5), mp, Value.slice (slP z7) (Sy.lenS z7) (slC z7), Value.int IntKind.i64 (fstE e (exprE (ActD.e a) (0 : Int))), Value.bool false]) (132 : Nat))) true :: List.append RB (List.map (fun (p : Nat × Sy.Cont) => Blk.mk (Prod.fst p) (Prod.snd p) true) (List.append (q.1 z5 z6) (w.1 y z7 z8)))))))))))
theorem aZero_run (q : Rw) (w : Fw) (TL R RB : List Blk) (y : Nat) (a : ActD) (iv ev fv : Value) (Be Bf : List (Nat × Sy.Cont)) (v mp tv : Value) (e : Int) (X XP : List I) (fs : List Fl) : Sy.Ran (Sy.inY Tryz.prog (ctxJp q w y (setOp a 10) ev fv Be Bf mp tv false X XP fs 20 24 R RB) 50 fAct #[.pointer (some ⟨y, 0, none⟩), actV (setOp a 10) iv ev fv] (⟨y, layC (slV v) mp (slV tv) e false, true⟩ :: TL) 1) aZero_o (aZero_R q w TL R RB y a iv ev fv Be Bf v mp tv e X XP fs) := ⟨fun ns => by kernel_rfl, fun ns => by kernel_rfl⟩
end Go.Proofs.YtlpcnaeknbmjdaaGreat.Gn

namespace Go.Proofs.YtlpcnaeknbmjdaaGreat.Gn
open Go Go.RowKit
open Go.Proofs.YtlpcnaeknbmjdaaGreat.Sy (Let Blk HasL)
open Lw (I insCells tI)
noncomputable def tailI (a : ActD) : List I :=
  if a.op = 1 then [⟨6, a.dst, 31, 24, 0, 0⟩]
  else if a.op = 2 then (if a.mode = 1 then [⟨22, a.dst, 29, 0, 0, 0⟩, ⟨21, a.dst, 0, 0, 1, 0⟩] else [⟨24, a.dst, 29, 0, 0, 0⟩])
  else if a.op = 3 then [⟨if a.mode = 1 then 23 else 25, 24, 29, 0, 0, 0⟩]
  else if a.op = 4 then lpI a.mode [] 24 ++ [⟨6, a.dst, 31, 25, 0, 0⟩]
  else if a.op = 5 then lpI a.mode [sumI] 26 ++ [⟨6, a.dst, 31, 25, 0, 0⟩]
  else if a.op = 6 then [⟨opL a.mode, 26, 29, 0, 0, 0⟩, ⟨16, 0, 26, 24, 0, 0⟩, ⟨19, 0, 0, 0, 3, 1⟩, ⟨opS a.mode, 25, 29, 30, 0, 0⟩, ⟨21, 30, 0, 0, -4, 0⟩, ⟨6, a.dst, 31, 26, 0, 0⟩]
  else if a.op = 7 then [⟨if a.mode = 2 then 30 else 31, 0, 0, 0, 0, 0⟩]
  else if a.op = 8 then [⟨33, 0, 0, 0, 24, 0⟩]
  else if a.op = 9 then [⟨18, 0, 0, 0, 0, 0⟩]
  else [⟨20, 24, 0, 0, 0, 0⟩]
noncomputable def preI (a : ActD) : List I :=
  if a.op = 1 ∨ a.op = 8 ∨ a.op = 10 then exprI a.e 0
  else if a.op = 2 then placeI a.base a.size a.ix 0
  else if a.op = 3 ∨ a.op = 4 ∨ a.op = 5 then exprI a.e 0 ++ placeI a.base a.size a.ix 1
  else if a.op = 6 then exprI a.e 0 ++ exprI a.f 1 ++ placeI a.base a.size a.ix 2
  else []
noncomputable def actE (e : Int) (a : ActD) : Int :=
  if a.op = 1 ∨ a.op = 8 ∨ a.op = 10 then fstE e (exprE a.e 0)
  else if a.op = 2 then fstE e (placeE a.size a.ix 0)
  else if a.op = 3 ∨ a.op = 4 ∨ a.op = 5 then fstE (fstE e (exprE a.e 0)) (placeE a.size a.ix 1)
  else if a.op = 6 then fstE (fstE (fstE e (exprE a.e 0)) (exprE a.f 1)) (placeE a.size a.ix 2)
  else e
structure OkAct (Bi Be Bf : List (Nat × Sy.Cont)) (a : ActD) (iv ev fv : Value) : Prop where
  op : a.op = 1 ∨ a.op = 2 ∨ a.op = 3 ∨ a.op = 4 ∨ a.op = 5 ∨ a.op = 6 ∨ a.op = 7 ∨ a.op = 8 ∨ a.op = 9 ∨ a.op = 10
  e : a.op ≠ 2 → a.op ≠ 7 → a.op ≠ 9 → okE Be ev a.e 0
  f : a.op = 6 → okE Bf fv a.f 1
  p0 : a.op = 2 → okP Bi iv a.base a.size a.ix 0
  p1 : a.op = 3 ∨ a.op = 4 ∨ a.op = 5 → okP Bi iv a.base a.size a.ix 1
  p2 : a.op = 6 → okP Bi iv a.base a.size a.ix 2
noncomputable def brF (a : ActD) (ns : List Let) (X : List I) : List Fl := if a.op = 9 ∨ a.op = 10 then [newF ns a.to X] else []
noncomputable def acO (q : Rw) (w : Fw) (y : Nat) (mp : Value) (e : Int) (b : Bool) (X : List I) (fs : List Fl) (a : ActD) (T : List I) : Sy.OutM × (List Let → Value) :=
  (⟨fun ns => q.V (letW ns 0) (X ++ preI a ++ T) ∧ w.V (letW ns 1) (fs ++ brF a ns (X ++ preI a)), fun ns => [(y, layC (slV (letW ns 0)) mp (slV (letW ns 1)) (actE e a) b)], fun ns => q.B (letW ns 0) (X ++ preI a ++ T) ++ w.B y (letW ns 1) (fs ++ brF a ns (X ++ preI a))⟩, fun _ => .tuple #[])
noncomputable def actC (q : Rw) (w : Fw) (y : Nat) (a : ActD) (iv ev fv : Value) (Bi Be Bf : List (Nat × Sy.Cont)) (v tv mp : Value) (e : Int) (b : Bool) (X : List I) (fs : List Fl) (T : List I) : Sy.CallC :=
  ⟨fAct, #[.pointer (some ⟨y, 0, none⟩), actV a iv ev fv], OkAct Bi Be Bf a iv ev fv ∧ q.V v X ∧ w.V tv fs ∧ X.length + (preI a).length + 20 ≤ 2000000 ∧ fs.length ≤ 2000000,
    ⟨[], (y, layC (slV v) mp (slV tv) e b) :: (q.B v X ++ w.B y tv fs), 5, Bi ++ (Be ++ Bf)⟩, [acO q w y mp e b X fs a T]⟩
theorem perm_next (v : Value) {X X' : List I} (R : List Blk) (e : X = X') : List.Perm (R ++ (rowB v X).map Sy.ownOf) (((rowB (slV v) X').map Sy.ownOf) ++ R) := by
  subst e
  exact List.perm_append_comm
theorem perm_first (v : Value) {X X' : List I} (R : List Blk) (e : X = X') : List.Perm ((rowB v X).map Sy.ownOf ++ R) (((rowB (slV v) X').map Sy.ownOf) ++ R) := by
  subst e
  exact List.Perm.refl _
theorem act_leaf {c : Sy.CallC} {y : Nat} {mp tv : Value} {e e' : Int} {b : Bool} {X T Z : List I} {fs : List Fl} {a : ActD} {v : Value} {B : List (Nat × Sy.Cont)} (k : RowV v Z) (ho : acO rowQ fillQ y mp e b X fs a T ∈ c.outs) (hm : c.mem.m = 5) (hF : FillV tv fs) (h9 : a.op ≠ 9) (h10 : a.op ≠ 10) (hZ : Z = X ++ preI a ++ T) (he : e' = actE e a) :
    Sy.leafB c (.tuple #[], ⟨y, layC (slV v) mp (slV tv) e' b, true⟩ :: (((fillB y tv fs).map Sy.ownOf ++ rdOf B) ++ (rowB v Z).map Sy.ownOf)) := by
  subst hZ he
  have hb : ∀ ns, fs ++ brF a ns (X ++ preI a) = fs := fun ns => by simp [brF, h9, h10]
  refine ⟨_, ho, [letV v, letV tv, letO 0, letO 0, letO 0], hm.symm, rfl, ?_, k, ?_⟩
  · show Sy.Ent _ (⟨y, layC (slV v) mp (slV tv) _ b, true⟩ :: (rowB v (X ++ preI a ++ T) ++ fillB y tv (fs ++ brF a _ (X ++ preI a))).map Sy.ownOf)
    rw [hb, List.map_append]
    generalize (rowB v (X ++ preI a ++ T)).map Sy.ownOf = Q
    generalize (fillB y tv fs).map Sy.ownOf = Z
    refine Sy.Ent.trans (Sy.Ent.sub (List.Sublist.cons_cons _ (List.Sublist.append (List.sublist_append_left Z (rdOf B)) (List.Sublist.refl Q)))) (Sy.Ent.perm (List.Perm.cons _ List.perm_append_comm))
  · show FillV tv (fs ++ brF a _ (X ++ preI a))
    rw [hb]
    exact hF
theorem got_i (F : List Blk) (Bi Be Bf : List (Nat × Sy.Cont)) : Sy.GotL (F ++ rdOf (Bi ++ (Be ++ Bf))) Bi := gotL_of fun _ h => List.mem_append_right _ (by simp only [rdOf, List.map_append] at h ⊢; exact List.mem_append_left _ h)
theorem got_e (F : List Blk) (Bi Be Bf : List (Nat × Sy.Cont)) : Sy.GotL (F ++ rdOf (Bi ++ (Be ++ Bf))) Be := gotL_of fun _ h => List.mem_append_right _ (by simp only [rdOf, List.map_append] at h ⊢; exact List.mem_append_right _ (List.mem_append_left _ h))
theorem got_f (F : List Blk) (Bi Be Bf : List (Nat × Sy.Cont)) : Sy.GotL (F ++ rdOf (Bi ++ (Be ++ Bf))) Bf := gotL_of fun _ h => List.mem_append_right _ (by simp only [rdOf, List.map_append] at h ⊢; exact List.mem_append_right _ (List.mem_append_right _ h))
theorem ctxA0_holds (m : Int) : (ctxA0 m).holds Tryz.prog := Sy.mkS_holds (fun p hp a L => by
  rcases List.mem_cons.1 hp with rfl | hp
  · exact mvC_met _ _
  rcases List.mem_cons.1 hp with rfl | hp
  · exact asC_met _ _
  rcases List.mem_cons.1 hp with rfl | hp
  · exact ldC_met _ _
  rcases List.mem_singleton.1 hp with rfl
  exact stC_met _ _) (fun _ h => (by cases h)) (fun _ h => (by cases h))
theorem exU_met (y : Nat) (a : ActD) (ev fv : Value) (Be Bf : List (Nat × Sy.Cont)) (mp tv : Value) (b : Bool) (X : List I) (R : List Blk) (ar : Array Value) (L : List Blk) : Sy.Meets Tryz.prog (Sy.exU rowQ y a ev fv Be Bf mp tv b X R ar L).c := by
  unfold Sy.exU
  split
  · exact exprL_met _ _ _ _ _ _ _ _ _ _ _
  · exact exprL_met _ _ _ _ _ _ _ _ _ _ _
theorem ctxAc_holds (y : Nat) (a : ActD) (iv ev fv : Value) (Bi Be Bf : List (Nat × Sy.Cont)) (mp tv : Value) (b : Bool) (X XP XL : List I) (R : List Blk) : (ctxAc rowQ y a iv ev fv Bi Be Bf mp tv b X XP XL R).holds Tryz.prog := Sy.mkU_holds (ctxA0_holds _) (fun p hp ar L => by
  rcases List.mem_cons.1 hp with rfl | hp
  · exact exU_met _ _ _ _ _ _ _ _ _ _ _ _ _
  rcases List.mem_cons.1 hp with rfl | hp
  · show Sy.Meets _ (Sy.plU rowQ y a iv ev fv Bi mp tv b X R ar L).c
    unfold Sy.plU
    split
    · exact placeL_met _ _ _ _ _ _ _ _ _ _ _ _ _
    · split
      · exact placeL_met _ _ _ _ _ _ _ _ _ _ _ _ _
      · exact placeL_met _ _ _ _ _ _ _ _ _ _ _ _ _
  rcases List.mem_cons.1 hp with rfl | hp
  · exact putL_met _ _ _ _ _ _ _ _ _ _
  rcases List.mem_singleton.1 hp with rfl
  show Sy.Meets _ (Sy.loU rowQ y a.mode mp tv b XL R ar L).c
  unfold Sy.loU
  split
  · exact loopS_met _ _ _ _ _ _ _ _ _ _ _
  · exact loopC_met _ _ _ _ _ _ _ _ _) (fun _ h => (by cases h))
theorem act_ent {y : Nat} {a : ActD} {iv ev fv : Value} {Bi Be Bf : List (Nat × Sy.Cont)} {v tv mp : Value} {e : Int} {b : Bool} {X : List I} {fs : List Fl} {T : List I} : Sy.Ent (Sy.blks (actC rowQ fillQ y a iv ev fv Bi Be Bf v tv mp e b X fs T).mem) (⟨y, layC (slV v) mp (slV tv) e b, true⟩ :: ((rowB v X).map Sy.ownOf ++ ((fillB y tv fs).map Sy.ownOf ++ rdOf (Bi ++ (Be ++ Bf))))) := by
  show Sy.Ent (⟨y, layC (slV v) mp (slV tv) e b, true⟩ :: ((rowB v X ++ fillB y tv fs).map Sy.ownOf ++ rdOf (Bi ++ (Be ++ Bf)))) _
  rw [List.map_append, List.append_assoc]
  exact Sy.Ent.refl _
variable (y : Nat) (a : ActD) (iv ev fv : Value) (Bi Be Bf : List (Nat × Sy.Cont)) (v tv mp : Value) (e : Int) (X : List I) (fs : List Fl)
theorem aSet_met : Sy.Meets Tryz.prog (actC rowQ fillQ y (setOp a 1) iv ev fv Bi Be Bf v tv mp e false X fs (tailI (setOp a 1))) := fun hok => by
  obtain ⟨hA, hX, hF, hl, hf⟩ := id hok
  have hp : preI (setOp a 1) = exprI a.e 0 := by simp [preI]
  rw [hp] at hl
  refine Sy.meets_ofY (k := 1) (ctxAc_holds y (setOp a 1) iv ev fv Bi Be Bf mp (slV tv) false X (X ++ exprI a.e 0) ([]) _) mixed act_ent (aSet_run rowQ _ ((fillB y tv fs).map Sy.ownOf ++ rdOf (Bi ++ (Be ++ Bf))) y a iv ev fv Bi Be Bf v mp (slV tv) e X (X ++ exprI a.e 0) ([])) (fun _ ns => ?_) hok
  simp only [aSet_R, Sy.Res.holds]
  refine ⟨⟨(hA.e (by simp) (by simp) (by simp)), hX, by omega⟩, perm_first _ _ rfl, got_e _ _ _ _, fun k1 => ⟨trivial, fun _ => ⟨⟨k1, by simp, by simp; omega⟩, perm_next _ _ rfl, fun k2 => ?_⟩⟩⟩
  exact act_leaf k2 (List.mem_singleton_self _) rfl hF (by simp) (by simp) (by simp [hp, tailI]) (by simp [actE])
theorem aPrint_met : Sy.Meets Tryz.prog (actC rowQ fillQ y (setOp a 8) iv ev fv Bi Be Bf v tv mp e false X fs (tailI (setOp a 8))) := fun hok => by
  obtain ⟨hA, hX, hF, hl, hf⟩ := id hok
  have hp : preI (setOp a 8) = exprI a.e 0 := by simp [preI]
  rw [hp] at hl
  refine Sy.meets_ofY (k := 1) (ctxAc_holds y (setOp a 8) iv ev fv Bi Be Bf mp (slV tv) false X (X ++ exprI a.e 0) ([]) _) mixed act_ent (aPrint_run rowQ _ ((fillB y tv fs).map Sy.ownOf ++ rdOf (Bi ++ (Be ++ Bf))) y a iv ev fv Bi Be Bf v mp (slV tv) e X (X ++ exprI a.e 0) ([])) (fun _ ns => ?_) hok
  simp only [aPrint_R, Sy.Res.holds]
  refine ⟨⟨(hA.e (by simp) (by simp) (by simp)), hX, by omega⟩, perm_first _ _ rfl, got_e _ _ _ _, fun k1 => ⟨⟨k1, by simp, by simp; omega⟩, perm_next _ _ rfl, fun k2 => ?_⟩⟩
  exact act_leaf k2 (List.mem_singleton_self _) rfl hF (by simp) (by simp) (by simp [hp, tailI]) (by simp [actE])
theorem aFence_met : Sy.Meets Tryz.prog (actC rowQ fillQ y (setOp a 7) iv ev fv Bi Be Bf v tv mp e false X fs (tailI (setOp a 7))) := fun hok => by
  obtain ⟨hA, hX, hF, hl, hf⟩ := id hok
  have hp : preI (setOp a 7) = [] := by simp [preI]
  rw [hp] at hl
  refine Sy.meets_ofY (k := 1) (ctxAc_holds y (setOp a 7) iv ev fv Bi Be Bf mp (slV tv) false X (X) ([]) _) mixed act_ent (aFence_run rowQ _ ((fillB y tv fs).map Sy.ownOf ++ rdOf (Bi ++ (Be ++ Bf))) y a iv ev fv Bi Be Bf v mp (slV tv) e X (X) ([])) (fun _ ns => ?_) hok
  simp only [aFence_R, Sy.Res.holds]
  have hm : ∀ x : Int, Ex.eqQ x 2 = true ↔ x = 2 := fun x => by rw [Ex.eqQ_eq]; simp
  refine ⟨fun h => ⟨⟨hX, by simp, by omega⟩, perm_first _ _ rfl, fun k2 => ?_⟩, fun h => ⟨⟨hX, by simp, by omega⟩, perm_first _ _ rfl, fun k2 => ?_⟩⟩
  · have h2 : a.mode = 2 := (hm _).1 h
    exact act_leaf k2 (List.mem_singleton_self _) rfl hF (by simp) (by simp) (by simp [hp, tailI, h2]) (by simp [actE])
  · have h2 : a.mode ≠ 2 := fun h2 => by
      have := (hm a.mode).2 h2
      simp_all
    exact act_leaf k2 (List.mem_singleton_self _) rfl hF (by simp) (by simp) (by simp [hp, tailI, h2]) (by simp [actE])
theorem aLoad_met : Sy.Meets Tryz.prog (actC rowQ fillQ y (setOp a 2) iv ev fv Bi Be Bf v tv mp e false X fs (tailI (setOp a 2))) := fun hok => by
  obtain ⟨hA, hX, hF, hl, hf⟩ := id hok
  have hp : preI (setOp a 2) = placeI a.base a.size a.ix 0 := by simp [preI]
  rw [hp] at hl
  refine Sy.meets_ofY (k := 1) (ctxAc_holds y (setOp a 2) iv ev fv Bi Be Bf mp (slV tv) false X (X ++ placeI a.base a.size a.ix 0) ([]) _) mixed act_ent (aLoad_run rowQ _ ((fillB y tv fs).map Sy.ownOf ++ rdOf (Bi ++ (Be ++ Bf))) y a iv ev fv Bi Be Bf v mp (slV tv) e X (X ++ placeI a.base a.size a.ix 0) ([])) (fun _ ns => ?_) hok
  simp only [aLoad_R, Sy.Res.holds]
  have hm : ∀ x : Int, Ex.eqQ x 1 = true ↔ x = 1 := fun x => by rw [Ex.eqQ_eq]; simp
  refine ⟨⟨hA.p0 rfl, hX, by omega⟩, perm_first _ _ rfl, got_i _ _ _ _, fun k1 => ⟨fun h => ⟨trivial, fun _ => ⟨⟨k1, by simp, by simp; omega⟩, perm_next _ _ rfl, fun k2 => ?_⟩⟩, fun h => ⟨trivial, fun _ => ⟨⟨k1, by simp, by simp; omega⟩, perm_next _ _ rfl, fun k2 => ?_⟩⟩⟩⟩
  · have h2 : a.mode = 1 := (hm _).1 h
    exact act_leaf k2 (List.mem_singleton_self _) rfl hF (by simp) (by simp) (by simp [hp, tailI, h2]) (by simp [actE])
  · have h2 : a.mode ≠ 1 := fun h2 => by
      have := (hm a.mode).2 h2
      simp_all
    exact act_leaf k2 (List.mem_singleton_self _) rfl hF (by simp) (by simp) (by simp [hp, tailI, h2]) (by simp [actE])
theorem aStore_met : Sy.Meets Tryz.prog (actC rowQ fillQ y (setOp a 3) iv ev fv Bi Be Bf v tv mp e false X fs (tailI (setOp a 3))) := fun hok => by
  obtain ⟨hA, hX, hF, hl, hf⟩ := id hok
  have hp : preI (setOp a 3) = exprI a.e 0 ++ placeI a.base a.size a.ix 1 := by simp [preI]
  rw [hp] at hl
  simp only [List.length_append] at hl
  refine Sy.meets_ofY (k := 1) (ctxAc_holds y (setOp a 3) iv ev fv Bi Be Bf mp (slV tv) false X (X ++ exprI a.e 0 ++ placeI a.base a.size a.ix 1) ([]) _) mixed act_ent (aStore_run rowQ _ ((fillB y tv fs).map Sy.ownOf ++ rdOf (Bi ++ (Be ++ Bf))) y a iv ev fv Bi Be Bf v mp (slV tv) e X (X ++ exprI a.e 0 ++ placeI a.base a.size a.ix 1) ([])) (fun _ ns => ?_) hok
  simp only [aStore_R, Sy.Res.holds]
  have hm : ∀ x : Int, Ex.eqQ x 1 = true ↔ x = 1 := fun x => by rw [Ex.eqQ_eq]; simp
  refine ⟨⟨(hA.e (by simp) (by simp) (by simp)), hX, by omega⟩, perm_first _ _ rfl, got_e _ _ _ _, fun k1 => ⟨⟨hA.p1 (by simp), k1, by simp; omega⟩, perm_next _ _ rfl, got_i _ _ _ _, fun k2 => ?_⟩⟩
  refine ⟨fun h => ⟨trivial, fun _ => ⟨⟨k2, by simp, by simp; omega⟩, perm_next _ _ rfl, fun k3 => ?_⟩⟩, fun h => ⟨trivial, fun _ => ⟨⟨k2, by simp, by simp; omega⟩, perm_next _ _ rfl, fun k3 => ?_⟩⟩⟩
  · have h2 : a.mode = 1 := (hm _).1 h
    exact act_leaf k3 (List.mem_singleton_self _) rfl hF (by simp) (by simp) (by simp [hp, tailI, h2]) (by simp [actE])
  · have h2 : a.mode ≠ 1 := fun h2 => by
      have := (hm a.mode).2 h2
      simp_all
    exact act_leaf k3 (List.mem_singleton_self _) rfl hF (by simp) (by simp) (by simp [hp, tailI, h2]) (by simp [actE])
theorem aXchg_met : Sy.Meets Tryz.prog (actC rowQ fillQ y (setOp a 4) iv ev fv Bi Be Bf v tv mp e false X fs (tailI (setOp a 4))) := fun hok => by
  obtain ⟨hA, hX, hF, hl, hf⟩ := id hok
  have hp : preI (setOp a 4) = exprI a.e 0 ++ placeI a.base a.size a.ix 1 := by simp [preI]
  rw [hp] at hl
  simp only [List.length_append] at hl
  have hlp : ∀ m A s, (lpI m A s).length ≤ 4 + A.length := fun m A s => by
    unfold lpI nzI
    cases acqF m <;> simp <;> omega
  have hlq := hlp a.mode [] 24
  simp only [List.length_cons, List.length_nil] at hlq
  refine Sy.meets_ofY (k := 1) (ctxAc_holds y (setOp a 4) iv ev fv Bi Be Bf mp (slV tv) false X (X ++ exprI a.e 0 ++ placeI a.base a.size a.ix 1 ++ lpI a.mode [] 24) (X ++ exprI a.e 0 ++ placeI a.base a.size a.ix 1) _) mixed act_ent (aXchg_run rowQ _ ((fillB y tv fs).map Sy.ownOf ++ rdOf (Bi ++ (Be ++ Bf))) y a iv ev fv Bi Be Bf v mp (slV tv) e X (X ++ exprI a.e 0 ++ placeI a.base a.size a.ix 1 ++ lpI a.mode [] 24) (X ++ exprI a.e 0 ++ placeI a.base a.size a.ix 1)) (fun _ ns => ?_) hok
  simp only [aXchg_R, Sy.Res.holds]
  refine ⟨⟨(hA.e (by simp) (by simp) (by simp)), hX, by omega⟩, perm_first _ _ rfl, got_e _ _ _ _, fun k1 => ⟨⟨hA.p1 (by simp), k1, by simp; omega⟩, perm_next _ _ rfl, got_i _ _ _ _, fun k2 => ?_⟩⟩
  refine ⟨⟨k2, by simp; omega⟩, perm_next _ _ rfl, fun k3 => ⟨trivial, fun _ => ⟨⟨k3, by simp, by simp; omega⟩, perm_next _ _ rfl, fun k4 => ?_⟩⟩⟩
  exact act_leaf k4 (List.mem_singleton_self _) rfl hF (by simp) (by simp) (by simp [hp, tailI]) (by simp [actE])
theorem aFadd_met : Sy.Meets Tryz.prog (actC rowQ fillQ y (setOp a 5) iv ev fv Bi Be Bf v tv mp e false X fs (tailI (setOp a 5))) := fun hok => by
  obtain ⟨hA, hX, hF, hl, hf⟩ := id hok
  have hp : preI (setOp a 5) = exprI a.e 0 ++ placeI a.base a.size a.ix 1 := by simp [preI]
  rw [hp] at hl
  simp only [List.length_append] at hl
  have hlp : ∀ m A s, (lpI m A s).length ≤ 4 + A.length := fun m A s => by
    unfold lpI nzI
    cases acqF m <;> simp <;> omega
  have hlq := hlp a.mode [sumI] 26
  simp only [List.length_cons, List.length_nil] at hlq
  refine Sy.meets_ofY (k := 1) (ctxAc_holds y (setOp a 5) iv ev fv Bi Be Bf mp (slV tv) false X (X ++ exprI a.e 0 ++ placeI a.base a.size a.ix 1 ++ lpI a.mode [sumI] 26) (X ++ exprI a.e 0 ++ placeI a.base a.size a.ix 1) _) mixed act_ent (aFadd_run rowQ _ ((fillB y tv fs).map Sy.ownOf ++ rdOf (Bi ++ (Be ++ Bf))) y a iv ev fv Bi Be Bf v mp (slV tv) e X (X ++ exprI a.e 0 ++ placeI a.base a.size a.ix 1 ++ lpI a.mode [sumI] 26) (X ++ exprI a.e 0 ++ placeI a.base a.size a.ix 1)) (fun _ ns => ?_) hok
  simp only [aFadd_R, Sy.Res.holds]
  refine ⟨⟨(hA.e (by simp) (by simp) (by simp)), hX, by omega⟩, perm_first _ _ rfl, got_e _ _ _ _, fun k1 => ⟨⟨hA.p1 (by simp), k1, by simp; omega⟩, perm_next _ _ rfl, got_i _ _ _ _, fun k2 => ?_⟩⟩
  refine ⟨⟨k2, by simp; omega⟩, perm_next _ _ rfl, fun k3 => ⟨trivial, fun _ => ⟨⟨k3, by simp, by simp; omega⟩, perm_next _ _ rfl, fun k4 => ?_⟩⟩⟩
  exact act_leaf k4 (List.mem_singleton_self _) rfl hF (by simp) (by simp) (by simp [hp, tailI]) (by simp [actE])
theorem aCas_met : Sy.Meets Tryz.prog (actC rowQ fillQ y (setOp a 6) iv ev fv Bi Be Bf v tv mp e false X fs (tailI (setOp a 6))) := fun hok => by
  obtain ⟨hA, hX, hF, hl, hf⟩ := id hok
  have hp : preI (setOp a 6) = exprI a.e 0 ++ exprI a.f 1 ++ placeI a.base a.size a.ix 2 := by simp [preI]
  rw [hp] at hl
  simp only [List.length_append] at hl
  refine Sy.meets_ofY (k := 1) (ctxAc_holds y (setOp a 6) iv ev fv Bi Be Bf mp (slV tv) false X (X ++ exprI a.e 0 ++ exprI a.f 1 ++ placeI a.base a.size a.ix 2) ([]) _) mixed act_ent (aCas_run rowQ _ ((fillB y tv fs).map Sy.ownOf ++ rdOf (Bi ++ (Be ++ Bf))) y a iv ev fv Bi Be Bf v mp (slV tv) e X (X ++ exprI a.e 0 ++ exprI a.f 1 ++ placeI a.base a.size a.ix 2) ([])) (fun _ ns => ?_) hok
  simp only [aCas_R, Sy.Res.holds]
  refine ⟨⟨(hA.e (by simp) (by simp) (by simp)), hX, by omega⟩, perm_first _ _ rfl, got_e _ _ _ _, fun k1 => ⟨⟨hA.f rfl, k1, by simp; omega⟩, perm_next _ _ rfl, got_f _ _ _ _, fun k2 => ⟨⟨hA.p2 rfl, k2, by simp; omega⟩, perm_next _ _ rfl, got_i _ _ _ _, fun k3 => ?_⟩⟩⟩
  refine ⟨trivial, fun _ => ⟨trivial, fun _ => ⟨trivial, fun _ => ⟨⟨k3, by simp, by simp; omega⟩, perm_next _ _ rfl, fun k4 => ?_⟩⟩⟩⟩
  exact act_leaf k4 (List.mem_singleton_self _) rfl hF (by simp) (by simp) (by simp [hp, tailI]) (by simp [actE])
end Go.Proofs.YtlpcnaeknbmjdaaGreat.Gn

namespace Go.Proofs.YtlpcnaeknbmjdaaGreat.Gn
open Go Go.RowKit
open Go.Proofs.YtlpcnaeknbmjdaaGreat.Sy (Let Blk HasL)
open Lw (I insCells tI)
theorem ctxJp_holds (y : Nat) (a : ActD) (ev fv : Value) (Be Bf : List (Nat × Sy.Cont)) (mp tv : Value) (b : Bool) (X XP : List I) (fs : List Fl) (op rd : Int) (R RB : List Blk) : (ctxJp rowQ fillQ y a ev fv Be Bf mp tv b X XP fs op rd R RB).holds Tryz.prog := Sy.mkU_holds Sy.S0_holds (fun p hp ar L => by
  rcases List.mem_cons.1 hp with rfl | hp
  · exact exU_met _ _ _ _ _ _ _ _ _ _ _ _ _
  rcases List.mem_singleton.1 hp with rfl
  show Sy.Meets _ (Sy.brU rowQ fillQ y mp tv b XP fs RB op rd a.to L).c
  exact brC_met _ _ _ _ _ _ _ _ _ _ _) (fun _ h => (by cases h))
theorem jmp_leaf {c : Sy.CallC} {y : Nat} {mp : Value} {e e' : Int} {b : Bool} {X T : List I} {fs : List Fl} {a : ActD} {l1 l2 l3 l4 l5 : Let} {i : I} {B : List (Nat × Sy.Cont)} {XP : List I} {RB : List Blk}
    (k : RowV (letW [l1, l2, l3, l4, l5] 0) (XP ++ [i]) ∧ FillV (letW [l1, l2, l3, l4, l5] 1) (fs ++ [newF [l1, l2, l3, l4, l5] a.to XP])) (ho : acO rowQ fillQ y mp e b X fs a T ∈ c.outs) (hm : c.mem.m = 5) (hop : a.op = 9 ∨ a.op = 10) (hT : T = [i]) (hX : XP = X ++ preI a) (he : e' = actE e a) (hR : RB = rdOf B) :
    Sy.leafB c (.tuple #[], ⟨y, layC (slV (letW [l1, l2, l3, l4, l5] 0)) mp (slV (letW [l1, l2, l3, l4, l5] 1)) e' b, true⟩ :: (RB ++ (rowB (letW [l1, l2, l3, l4, l5] 0) (XP ++ [i]) ++ fillB y (letW [l1, l2, l3, l4, l5] 1) (fs ++ [newF [l1, l2, l3, l4, l5] a.to XP])).map Sy.ownOf)) := by
  subst hT hX he hR
  have hb : ∀ ns, brF a ns (X ++ preI a) = [newF ns a.to (X ++ preI a)] := fun ns => by simp [brF, hop]
  refine ⟨_, ho, [l1, l2, l3, l4, l5], hm.symm, rfl, ?_, k.1, ?_⟩
  · show Sy.Ent _ (⟨y, layC (slV (letW [l1, l2, l3, l4, l5] 0)) mp (slV (letW [l1, l2, l3, l4, l5] 1)) _ b, true⟩ :: (rowB _ (X ++ preI a ++ [i]) ++ fillB y _ (fs ++ brF a _ (X ++ preI a))).map Sy.ownOf)
    rw [hb]
    exact Sy.Ent.sub (List.Sublist.cons_cons _ (List.sublist_append_right _ _))
  · show FillV _ (fs ++ brF a _ (X ++ preI a))
    rw [hb]
    exact k.2
variable (y : Nat) (a : ActD) (iv ev fv : Value) (Bi Be Bf : List (Nat × Sy.Cont)) (v tv mp : Value) (e : Int) (X : List I) (fs : List Fl)
theorem aJump_met : Sy.Meets Tryz.prog (actC rowQ fillQ y (setOp a 9) iv ev fv Bi Be Bf v tv mp e false X fs (tailI (setOp a 9))) := fun hok => by
  obtain ⟨hA, hX, hF, hl, hf⟩ := id hok
  have hp : preI (setOp a 9) = [] := by simp [preI]
  rw [hp] at hl
  simp only [List.length_nil] at hl
  refine Sy.meets_ofY (k := 1) (ctxJp_holds y (setOp a 9) ev fv Be Bf mp tv false X X fs 18 0 [] _) mixed act_ent (aJump_run rowQ fillQ _ [] (rdOf (Bi ++ (Be ++ Bf))) y a iv ev fv Be Bf v mp tv e X X fs) (fun _ ns => ?_) hok
  simp only [aJump_R, Sy.Res.holds]
  refine ⟨⟨hX, hF, by omega, hf⟩, ?_, fun k => ?_⟩
  · show List.Perm _ ((rowB v X ++ fillB y tv fs).map Sy.ownOf ++ _)
    rw [List.map_append, List.append_assoc]
  · exact jmp_leaf (a := setOp a 9) k (List.mem_singleton_self _) rfl (.inl rfl) (by simp [tailI]) (by simp [hp]) (by simp [actE]) rfl
theorem aZero_met : Sy.Meets Tryz.prog (actC rowQ fillQ y (setOp a 10) iv ev fv Bi Be Bf v tv mp e false X fs (tailI (setOp a 10))) := fun hok => by
  obtain ⟨hA, hX, hF, hl, hf⟩ := id hok
  have hp : preI (setOp a 10) = exprI a.e 0 := by simp [preI]
  rw [hp] at hl
  refine Sy.meets_ofY (k := 1) (ctxJp_holds y (setOp a 10) ev fv Be Bf mp tv false X (X ++ exprI a.e 0) fs 20 24 _ _) mixed act_ent (aZero_run rowQ fillQ _ ((fillB y tv fs).map Sy.ownOf ++ rdOf (Bi ++ (Be ++ Bf))) (rdOf (Bi ++ (Be ++ Bf))) y a iv ev fv Be Bf v mp tv e X (X ++ exprI a.e 0) fs) (fun _ ns => ?_) hok
  simp only [aZero_R, Sy.Res.holds]
  refine ⟨⟨hA.e (by simp) (by simp) (by simp), hX, by omega⟩, perm_first _ _ rfl, got_e _ _ _ _, fun k1 => ⟨⟨k1, hF, by simp; omega, hf⟩, ?_, fun k => ?_⟩⟩
  · show List.Perm _ ((rowB (slV _) (X ++ exprI a.e 0) ++ fillB y tv fs).map Sy.ownOf ++ _)
    rw [List.map_append, List.append_assoc]
    exact List.perm_append_comm
  · exact jmp_leaf (a := setOp a 10) k (List.mem_singleton_self _) rfl (.inr rfl) (by simp [tailI]) (by simp [hp]) (by simp [actE]) rfl
theorem act_met : Sy.Meets Tryz.prog (actC rowQ fillQ y a iv ev fv Bi Be Bf v tv mp e false X fs (tailI a)) := fun hok => by
  have key : ∀ k : Int, a.op = k → a = setOp a k := fun k hk => by subst hk; rfl
  rcases hok.1.op with h | h | h | h | h | h | h | h | h | h
  · have := aSet_met y a iv ev fv Bi Be Bf v tv mp e X fs
    rw [← key _ h] at this
    exact this hok
  · have := aLoad_met y a iv ev fv Bi Be Bf v tv mp e X fs
    rw [← key _ h] at this
    exact this hok
  · have := aStore_met y a iv ev fv Bi Be Bf v tv mp e X fs
    rw [← key _ h] at this
    exact this hok
  · have := aXchg_met y a iv ev fv Bi Be Bf v tv mp e X fs
    rw [← key _ h] at this
    exact this hok
  · have := aFadd_met y a iv ev fv Bi Be Bf v tv mp e X fs
    rw [← key _ h] at this
    exact this hok
  · have := aCas_met y a iv ev fv Bi Be Bf v tv mp e X fs
    rw [← key _ h] at this
    exact this hok
  · have := aFence_met y a iv ev fv Bi Be Bf v tv mp e X fs
    rw [← key _ h] at this
    exact this hok
  · have := aPrint_met y a iv ev fv Bi Be Bf v tv mp e X fs
    rw [← key _ h] at this
    exact this hok
  · have := aJump_met y a iv ev fv Bi Be Bf v tv mp e X fs
    rw [← key _ h] at this
    exact this hok
  · have := aZero_met y a iv ev fv Bi Be Bf v tv mp e X fs
    rw [← key _ h] at this
    exact this hok
end Go.Proofs.YtlpcnaeknbmjdaaGreat.Gn

namespace Go.Proofs.YtlpcnaeknbmjdaaGreat.Gn
set_option linter.unusedVariables false
set_option linter.unusedSimpArgs false
open Go Go.RowKit
open Go.Proofs.YtlpcnaeknbmjdaaGreat.Sy (Let Blk HasL)
open Lw (I insCells tI)
noncomputable def Sy.sgU (q : Rw) (y : Nat) (a : ActD) (iv ev fv : Value) (mp tv : Value) (b : Bool) (XL : List I) (R : List Blk) (ar : Array Value) (L : List Blk) : Sy.CallU :=
  (singleC q y a iv ev fv (Sy.argI ar 2) (Sy.argI ar 5) (Sy.vY L) mp tv (Sy.eY L) b XL).toU (Sy.lay1 y mp tv b L) (q.B (Sy.vY L) XL) R
noncomputable def ctxAl (q : Rw) (y : Nat) (a : ActD) (iv ev fv : Value) (Bi Be Bf : List (Nat × Sy.Cont)) (mp tv : Value) (b : Bool) (X XP XL : List I) (R : List Blk) : Sy.Ctx :=
  Sy.mkU (ctxA0 a.mode) [(fExpr, Sy.exU q y a ev fv Be Bf mp tv b X R), (fPlace, Sy.plU q y a iv ev fv Bi mp tv b X R), (fPut, Sy.puU q y mp tv b XP R), (fSingle, Sy.sgU q y a iv ev fv mp tv b XL R)] []
def bSet_o : Sy.O := (Sy.O.pack 67 0x102010401000200000200441104400040000400000000000000000000000000000000000000000000020 Sy.O.nil)
noncomputable def bSet_R (q : Rw) (TL : List Blk) (R : List Blk) (y : Nat) (a : ActD) (iv : Value) (ev : Value) (fv : Value) (Bi : List (Nat × Sy.Cont)) (Be : List (Nat × Sy.Cont)) (Bf : List (Nat × Sy.Cont)) (v : Value) (mp : Value) (tv : Value) (e : Int) (X : List I) (XP : List I) (XL : List I) (ns : Nat → Sy.Let) : Sy.Res (Value × List Blk) :=
 let z0 := (Value.slice (slP v) (Sy.lenS v) (slC v))
 let z1 := (exprI (ActD.e a) (0 : Int))
 let z2 := (lv0 [ns (2 : Nat)])
 let z3 := (Value.slice (slP z2) (Sy.lenS z2) (slC z2))
 let z4 := [I.mk (6 : Int) (ActD.dst a) (31 : Int) (24 : Int) (0 : Int) (0 : Int)]
 let z5 := (lv0 [ns (4 : Nat)])
 Sy.Res.need (okE Be ev (ActD.e a) (0 : Int) ∧ q.2 z0 X ∧ List.length X + List.length z1 ≤ (2000000 : Nat)) (Sy.Res.need (List.Perm TL (List.append (List.map (fun (p : Nat × Sy.Cont) => Blk.mk (Prod.fst p) (Prod.snd p) true) (q.1 z0 X)) R)) (Sy.Res.need (Sy.GotL R Be) (Sy.Res.hyp (q.2 z2 (List.append X z1)) (Sy.Res.need True (Sy.Res.hyp True (Sy.Res.need (q.2 z3 XP ∧ z4 ≠ [] ∧ List.length XP + (1 : Nat) ≤ (2000000 : Nat)) (Sy.Res.need (List.Perm (List.append R (List.map (fun (p : Nat × Sy.Cont) => Blk.mk (Prod.fst p) (Prod.snd p) true) (q.1 z2 (List.append X z1)))) (List.append (List.map (fun (p : Nat × Sy.Cont) => Blk.mk (Prod.fst p) (Prod.snd p) true) (q.1 z3 XP)) R)) (Sy.Res.hyp (q.2 z5 (List.append XP z4)) (Sy.Res.leaf (Value.tuple (Array.mk []), Blk.mk y (Sy.Cont.obj (Obj.cells (Array.mk [Value.slice (slP z5) (Sy.lenS z5) (slC z5), mp, tv, Value.int IntKind.i64 (fstE e (exprE (ActD.e a) (0 : Int))), Value.bool true]) (132 : Nat))) true :: List.append R (List.map (fun (p : Nat × Sy.Cont) => Blk.mk (Prod.fst p) (Prod.snd p) true) (q.1 z5 (List.append XP z4)))))))))))))
theorem bSet_run (q : Rw) (TL R : List Blk) (y : Nat) (a : ActD) (iv ev fv : Value) (Bi Be Bf : List (Nat × Sy.Cont)) (v mp tv : Value) (e : Int) (X XP XL : List I) : Sy.Ran (Sy.inY Tryz.prog (ctxAl q y (setOp a 1) iv ev fv Bi Be Bf mp tv true X XP XL R) 50 fAct #[.pointer (some ⟨y, 0, none⟩), actV (setOp a 1) iv ev fv] (⟨y, layC (slV v) mp tv e true, true⟩ :: TL) 1) bSet_o (bSet_R q TL R y a iv ev fv Bi Be Bf v mp tv e X XP XL) := ⟨fun ns => by kernel_rfl, fun ns => by kernel_rfl⟩
def bLoad_o : Sy.O := (Sy.O.pack 21 0x20 (Sy.O.fork (Sy.O.pack 27 0x1001008200800100000080220882200000 Sy.O.nil) (Sy.O.pack 36 0x8011044110001000000800000000000000000000000 (Sy.O.fork (Sy.O.pack 40 0x20c01080410040058c01588010800059800014800004100801 Sy.O.nil) (Sy.O.pack 16 0x20402080200040000040 Sy.O.nil)))))
noncomputable def bLoad_R (q : Rw) (TL : List Blk) (R : List Blk) (y : Nat) (a : ActD) (iv : Value) (ev : Value) (fv : Value) (Bi : List (Nat × Sy.Cont)) (Be : List (Nat × Sy.Cont)) (Bf : List (Nat × Sy.Cont)) (v : Value) (mp : Value) (tv : Value) (e : Int) (X : List I) (XP : List I) (XL : List I) (ns : Nat → Sy.Let) : Sy.Res (Value × List Blk) :=
 let z0 := (ActD.size a)
 let z1 := (ActD.ix a)
 let z2 := (Value.slice (slP v) (Sy.lenS v) (slC v))
 let z3 := (placeI (ActD.base a) z0 z1 (0 : Int))
 let z4 := (okP Bi iv (ActD.base a) z0 z1 (0 : Int) ∧ q.2 z2 X ∧ List.length X + List.length z3 ≤ (2000000 : Nat))
 let z5 := (lv0 [ns (2 : Nat)])
 let z6 := (q.2 z5 (List.append X z3))
 let z7 := (Value.slice (slP z5) (Sy.lenS z5) (slC z5))
 let z8 := (ActD.dst a)
 let z9 := [I.mk (35 : Int) z8 (29 : Int) (0 : Int) (0 : Int) (0 : Int)]
 let z10 := (lv0 [ns (4 : Nat)])
 let z11 := (Array.mk [])
 let z12 := (Sy.Cont.obj (Obj.cells (Array.mk [Value.slice (slP z10) (Sy.lenS z10) (slC z10), mp, tv, Value.int IntKind.i64 (fstE e (placeE z0 z1 (0 : Int))), Value.bool true]) (132 : Nat)))
 let z13 := [I.mk (22 : Int) z8 (29 : Int) (0 : Int) (0 : Int) (0 : Int), I.mk (21 : Int) z8 (0 : Int) (0 : Int) (1 : Int) (0 : Int)]
 let z14 := (List.append XP z13)
 let z15 := [I.mk (24 : Int) z8 (29 : Int) (0 : Int) (0 : Int) (0 : Int)]
 let z16 := (List.append XP z15)
 Sy.Res.br (bif true then Ex.eqQ (ActD.mode a) (2 : Int) else false) (Sy.Res.need z4 (Sy.Res.need (List.Perm TL (List.append (List.map (fun (p : Nat × Sy.Cont) => Blk.mk (Prod.fst p) (Prod.snd p) true) (q.1 z2 X)) R)) (Sy.Res.need (Sy.GotL R Bi) (Sy.Res.hyp z6 (Sy.Res.need True (Sy.Res.hyp True (Sy.Res.need (q.2 z7 XP ∧ z9 ≠ [] ∧ List.length XP + (1 : Nat) ≤ (2000000 : Nat)) (Sy.Res.need (List.Perm (List.append R (List.map (fun (p : Nat × Sy.Cont) => Blk.mk (Prod.fst p) (Prod.snd p) true) (q.1 z5 (List.append X z3)))) (List.append (List.map (fun (p : Nat × Sy.Cont) => Blk.mk (Prod.fst p) (Prod.snd p) true) (q.1 z7 XP)) R)) (Sy.Res.hyp (q.2 z10 (List.append XP z9)) (Sy.Res.leaf (Value.tuple z11, Blk.mk y z12 true :: List.append R (List.map (fun (p : Nat × Sy.Cont) => Blk.mk (Prod.fst p) (Prod.snd p) true) (q.1 z10 (List.append XP z9)))))))))))))) (Sy.Res.need z4 (Sy.Res.need (List.Perm TL (List.append (List.map (fun (p : Nat × Sy.Cont) => Blk.mk (Prod.fst p) (Prod.snd p) true) (q.1 z2 X)) R)) (Sy.Res.need (Sy.GotL R Bi) (Sy.Res.hyp z6 (Sy.Res.br (Ex.eqQ (ActD.mode a) (1 : Int)) (Sy.Res.need True (Sy.Res.hyp True (Sy.Res.need (q.2 z7 XP ∧ z13 ≠ [] ∧ List.length XP + (2 : Nat) ≤ (2000000 : Nat)) (Sy.Res.need (List.Perm (List.append R (List.map (fun (p : Nat × Sy.Cont) => Blk.mk (Prod.fst p) (Prod.snd p) true) (q.1 z5 (List.append X z3)))) (List.append (List.map (fun (p : Nat × Sy.Cont) => Blk.mk (Prod.fst p) (Prod.snd p) true) (q.1 z7 XP)) R)) (Sy.Res.hyp (q.2 z10 z14)
 (Sy.Res.leaf (Value.tuple z11, Blk.mk y z12 true :: List.append R (List.map (fun (p : Nat × Sy.Cont) => Blk.mk (Prod.fst p) (Prod.snd p) true) (q.1 z10 z14))))))))) (Sy.Res.need True (Sy.Res.hyp True (Sy.Res.need (q.2 z7 XP ∧ z15 ≠ [] ∧ List.length XP + (1 : Nat) ≤ (2000000 : Nat)) (Sy.Res.need (List.Perm (List.append R (List.map (fun (p : Nat × Sy.Cont) => Blk.mk (Prod.fst p) (Prod.snd p) true) (q.1 z5 (List.append X z3)))) (List.append (List.map (fun (p : Nat × Sy.Cont) => Blk.mk (Prod.fst p) (Prod.snd p) true) (q.1 z7 XP)) R)) (Sy.Res.hyp (q.2 z10 z16) (Sy.Res.leaf (Value.tuple z11, Blk.mk y z12 true :: List.append R (List.map (fun (p : Nat × Sy.Cont) => Blk.mk (Prod.fst p) (Prod.snd p) true) (q.1 z10 z16))))))))))))))
theorem bLoad_run (q : Rw) (TL R : List Blk) (y : Nat) (a : ActD) (iv ev fv : Value) (Bi Be Bf : List (Nat × Sy.Cont)) (v mp tv : Value) (e : Int) (X XP XL : List I) : Sy.Ran (Sy.inY Tryz.prog (ctxAl q y (setOp a 2) iv ev fv Bi Be Bf mp tv true X XP XL R) 50 fAct #[.pointer (some ⟨y, 0, none⟩), actV (setOp a 2) iv ev fv] (⟨y, layC (slV v) mp tv e true, true⟩ :: TL) 1) bLoad_o (bLoad_R q TL R y a iv ev fv Bi Be Bf v mp tv e X XP XL) := ⟨fun ns => by kernel_rfl, fun ns => by kernel_rfl⟩
def bStore_o : Sy.O := (Sy.O.pack 66 0x200441104000080110441100010000000400000000000000000000000000000000000000000000020 (Sy.O.fork (Sy.O.pack 13 0x4080410040008000 Sy.O.nil) (Sy.O.pack 13 0x4080410040008000 Sy.O.nil)))
noncomputable def bStore_R (q : Rw) (TL : List Blk) (R : List Blk) (y : Nat) (a : ActD) (iv : Value) (ev : Value) (fv : Value) (Bi : List (Nat × Sy.Cont)) (Be : List (Nat × Sy.Cont)) (Bf : List (Nat × Sy.Cont)) (v : Value) (mp : Value) (tv : Value) (e : Int) (X : List I) (XP : List I) (XL : List I) (ns : Nat → Sy.Let) : Sy.Res (Value × List Blk) :=
 let z0 := (Value.slice (slP v) (Sy.lenS v) (slC v))
 let z1 := (exprI (ActD.e a) (0 : Int))
 let z2 := (lv0 [ns (2 : Nat)])
 let z3 := (List.append X z1)
 let z4 := (ActD.size a)
 let z5 := (ActD.ix a)
 let z6 := (Value.slice (slP z2) (Sy.lenS z2) (slC z2))
 let z7 := (placeI (ActD.base a) z4 z5 (1 : Int))
 let z8 := (lv0 [ns (3 : Nat)])
 let z9 := (Value.slice (slP z8) (Sy.lenS z8) (slC z8))
 let z10 := [I.mk (23 : Int) (24 : Int) (29 : Int) (0 : Int) (0 : Int) (0 : Int)]
 let z11 := (lv0 [ns (5 : Nat)])
 let z12 := (List.append XP z10)
 let z13 := (Sy.Cont.obj (Obj.cells (Array.mk [Value.slice (slP z11) (Sy.lenS z11) (slC z11), mp, tv, Value.int IntKind.i64 (fstE (fstE e (exprE (ActD.e a) (0 : Int))) (placeE z4 z5 (1 : Int))), Value.bool true]) (132 : Nat)))
 let z14 := [I.mk (25 : Int) (24 : Int) (29 : Int) (0 : Int) (0 : Int) (0 : Int)]
 let z15 := (List.append XP z14)
 Sy.Res.need (okE Be ev (ActD.e a) (0 : Int) ∧ q.2 z0 X ∧ List.length X + List.length z1 ≤ (2000000 : Nat)) (Sy.Res.need (List.Perm TL (List.append (List.map (fun (p : Nat × Sy.Cont) => Blk.mk (Prod.fst p) (Prod.snd p) true) (q.1 z0 X)) R)) (Sy.Res.need (Sy.GotL R Be) (Sy.Res.hyp (q.2 z2 z3) (Sy.Res.need (okP Bi iv (ActD.base a) z4 z5 (1 : Int) ∧ q.2 z6 z3 ∧ List.length z3 + List.length z7 ≤ (2000000 : Nat)) (Sy.Res.need (List.Perm (List.append R (List.map (fun (p : Nat × Sy.Cont) => Blk.mk (Prod.fst p) (Prod.snd p) true) (q.1 z2 z3))) (List.append (List.map (fun (p : Nat × Sy.Cont) => Blk.mk (Prod.fst p) (Prod.snd p) true) (q.1 z6 z3)) R)) (Sy.Res.need (Sy.GotL R Bi) (Sy.Res.hyp (q.2 z8 (List.append z3 z7)) (Sy.Res.br (Ex.eqQ (ActD.mode a) (1 : Int)) (Sy.Res.need True (Sy.Res.hyp True (Sy.Res.need (q.2 z9 XP ∧ z10 ≠ [] ∧ List.length XP + (1 : Nat) ≤ (2000000 : Nat)) (Sy.Res.need (List.Perm (List.append R (List.map (fun (p : Nat × Sy.Cont) => Blk.mk (Prod.fst p) (Prod.snd p) true) (q.1 z8 (List.append z3 z7)))) (List.append (List.map (fun (p : Nat × Sy.Cont) => Blk.mk (Prod.fst p) (Prod.snd p) true) (q.1 z9 XP)) R)) (Sy.Res.hyp (q.2 z11 z12) (Sy.Res.leaf (Value.tuple (Array.mk []), Blk.mk y z13 true :: List.append R (List.map (fun (p : Nat × Sy.Cont) => Blk.mk (Prod.fst p) (Prod.snd p) true) (q.1 z11 z12))))))))) (Sy.Res.need True (Sy.Res.hyp True (Sy.Res.need (q.2 z9 XP ∧ z14 ≠ [] ∧ List.length XP + (1 : Nat) ≤ (2000000 : Nat)) (Sy.Res.need (List.Perm (List.append R (List.map
 (fun (p : Nat × Sy.Cont) => Blk.mk (Prod.fst p) (Prod.snd p) true) (q.1 z8 (List.append z3 z7)))) (List.append (List.map (fun (p : Nat × Sy.Cont) => Blk.mk (Prod.fst p) (Prod.snd p) true) (q.1 z9 XP)) R)) (Sy.Res.hyp (q.2 z11 z15) (Sy.Res.leaf (Value.tuple (Array.mk []), Blk.mk y z13 true :: List.append R (List.map (fun (p : Nat × Sy.Cont) => Blk.mk (Prod.fst p) (Prod.snd p) true) (q.1 z11 z15)))))))))))))))))
theorem bStore_run (q : Rw) (TL R : List Blk) (y : Nat) (a : ActD) (iv ev fv : Value) (Bi Be Bf : List (Nat × Sy.Cont)) (v mp tv : Value) (e : Int) (X XP XL : List I) : Sy.Ran (Sy.inY Tryz.prog (ctxAl q y (setOp a 3) iv ev fv Bi Be Bf mp tv true X XP XL R) 50 fAct #[.pointer (some ⟨y, 0, none⟩), actV (setOp a 3) iv ev fv] (⟨y, layC (slV v) mp tv e true, true⟩ :: TL) 1) bStore_o (bStore_R q TL R y a iv ev fv Bi Be Bf v mp tv e X XP XL) := ⟨fun ns => by kernel_rfl, fun ns => by kernel_rfl⟩
def bXchg_o : Sy.O := (Sy.O.pack 64 0x18020104000040000401104410000100441104400000000000000000000000000000000000000020 Sy.O.nil)
noncomputable def bXchg_R (q : Rw) (TL : List Blk) (R : List Blk) (y : Nat) (a : ActD) (iv : Value) (ev : Value) (fv : Value) (Bi : List (Nat × Sy.Cont)) (Be : List (Nat × Sy.Cont)) (Bf : List (Nat × Sy.Cont)) (v : Value) (mp : Value) (tv : Value) (e : Int) (X : List I) (XP : List I) (XL : List I) (ns : Nat → Sy.Let) : Sy.Res (Value × List Blk) :=
 let z0 := (ActD.e a)
 let z1 := (Value.slice (slP v) (Sy.lenS v) (slC v))
 let z2 := (exprI z0 (0 : Int))
 let z3 := (lv0 [ns (2 : Nat)])
 let z4 := (List.append X z2)
 let z5 := (ActD.base a)
 let z6 := (ActD.size a)
 let z7 := (ActD.ix a)
 let z8 := (Value.slice (slP z3) (Sy.lenS z3) (slC z3))
 let z9 := (placeI z5 z6 z7 (1 : Int))
 let z10 := (lv0 [ns (3 : Nat)])
 let z11 := (Value.slice (slP z10) (Sy.lenS z10) (slC z10))
 let z12 := (lv0 [ns (4 : Nat)])
 let z13 := (List.append XL (sgI (40 : Int) (25 : Int) (ActD.mk (4 : Int) (ActD.dst a) z5 z6 z7 z0 (ActD.f a) (ActD.mode a) (ActD.to a) (ActD.line a) (ActD.col a))))
 Sy.Res.need (okE Be ev z0 (0 : Int) ∧ q.2 z1 X ∧ List.length X + List.length z2 ≤ (2000000 : Nat)) (Sy.Res.need (List.Perm TL (List.append (List.map (fun (p : Nat × Sy.Cont) => Blk.mk (Prod.fst p) (Prod.snd p) true) (q.1 z1 X)) R)) (Sy.Res.need (Sy.GotL R Be) (Sy.Res.hyp (q.2 z3 z4) (Sy.Res.need (okP Bi iv z5 z6 z7 (1 : Int) ∧ q.2 z8 z4 ∧ List.length z4 + List.length z9 ≤ (2000000 : Nat)) (Sy.Res.need (List.Perm (List.append R (List.map (fun (p : Nat × Sy.Cont) => Blk.mk (Prod.fst p) (Prod.snd p) true) (q.1 z3 z4))) (List.append (List.map (fun (p : Nat × Sy.Cont) => Blk.mk (Prod.fst p) (Prod.snd p) true) (q.1 z8 z4)) R)) (Sy.Res.need (Sy.GotL R Bi) (Sy.Res.hyp (q.2 z10 (List.append z4 z9)) (Sy.Res.need ((q.2 z11 XL ∧ List.length XL + (6 : Nat) ≤ (2000000 : Nat)) ∧ (0 : Int) ≤ (40 : Int) ∧ (40 : Int) ≤ (1000 : Int)) (Sy.Res.need (List.Perm (List.append R (List.map (fun (p : Nat × Sy.Cont) => Blk.mk (Prod.fst p) (Prod.snd p) true) (q.1 z10 (List.append z4 z9)))) (List.append (List.map (fun (p : Nat × Sy.Cont) => Blk.mk (Prod.fst p) (Prod.snd p) true) (q.1 z11 XL)) R)) (Sy.Res.hyp (q.2 z12 z13) (Sy.Res.leaf (Value.tuple (Array.mk []), Blk.mk y (Sy.Cont.obj (Obj.cells (Array.mk [Value.slice (slP z12) (Sy.lenS z12) (slC z12), mp, tv, Value.int IntKind.i64 (fstE (fstE e (exprE z0 (0 : Int))) (placeE z6 z7 (1 : Int))), Value.bool true]) (132 : Nat))) true :: List.append R (List.map (fun (p : Nat × Sy.Cont) => Blk.mk (Prod.fst p) (Prod.snd p) true) (q.1 z12 z13))))))))))))))
theorem bXchg_run (q : Rw) (TL R : List Blk) (y : Nat) (a : ActD) (iv ev fv : Value) (Bi Be Bf : List (Nat × Sy.Cont)) (v mp tv : Value) (e : Int) (X XP XL : List I) : Sy.Ran (Sy.inY Tryz.prog (ctxAl q y (setOp a 4) iv ev fv Bi Be Bf mp tv true X XP XL R) 50 fAct #[.pointer (some ⟨y, 0, none⟩), actV (setOp a 4) iv ev fv] (⟨y, layC (slV v) mp tv e true, true⟩ :: TL) 1) bXchg_o (bXchg_R q TL R y a iv ev fv Bi Be Bf v mp tv e X XP XL) := ⟨fun ns => by kernel_rfl, fun ns => by kernel_rfl⟩
def bFadd_o : Sy.O := (Sy.O.pack 67 0xc0100820000200002008822080000802208822000000000000000000000000000000000000000000020 Sy.O.nil)
noncomputable def bFadd_R (q : Rw) (TL : List Blk) (R : List Blk) (y : Nat) (a : ActD) (iv : Value) (ev : Value) (fv : Value) (Bi : List (Nat × Sy.Cont)) (Be : List (Nat × Sy.Cont)) (Bf : List (Nat × Sy.Cont)) (v : Value) (mp : Value) (tv : Value) (e : Int) (X : List I) (XP : List I) (XL : List I) (ns : Nat → Sy.Let) : Sy.Res (Value × List Blk) :=
 let z0 := (ActD.e a)
 let z1 := (Value.slice (slP v) (Sy.lenS v) (slC v))
 let z2 := (exprI z0 (0 : Int))
 let z3 := (lv0 [ns (2 : Nat)])
 let z4 := (List.append X z2)
 let z5 := (ActD.base a)
 let z6 := (ActD.size a)
 let z7 := (ActD.ix a)
 let z8 := (Value.slice (slP z3) (Sy.lenS z3) (slC z3))
 let z9 := (placeI z5 z6 z7 (1 : Int))
 let z10 := (lv0 [ns (3 : Nat)])
 let z11 := (Value.slice (slP z10) (Sy.lenS z10) (slC z10))
 let z12 := (lv0 [ns (4 : Nat)])
 let z13 := (List.append XL (sgI (44 : Int) (25 : Int) (ActD.mk (5 : Int) (ActD.dst a) z5 z6 z7 z0 (ActD.f a) (ActD.mode a) (ActD.to a) (ActD.line a) (ActD.col a))))
 Sy.Res.need (okE Be ev z0 (0 : Int) ∧ q.2 z1 X ∧ List.length X + List.length z2 ≤ (2000000 : Nat)) (Sy.Res.need (List.Perm TL (List.append (List.map (fun (p : Nat × Sy.Cont) => Blk.mk (Prod.fst p) (Prod.snd p) true) (q.1 z1 X)) R)) (Sy.Res.need (Sy.GotL R Be) (Sy.Res.hyp (q.2 z3 z4) (Sy.Res.need (okP Bi iv z5 z6 z7 (1 : Int) ∧ q.2 z8 z4 ∧ List.length z4 + List.length z9 ≤ (2000000 : Nat)) (Sy.Res.need (List.Perm (List.append R (List.map (fun (p : Nat × Sy.Cont) => Blk.mk (Prod.fst p) (Prod.snd p) true) (q.1 z3 z4))) (List.append (List.map (fun (p : Nat × Sy.Cont) => Blk.mk (Prod.fst p) (Prod.snd p) true) (q.1 z8 z4)) R)) (Sy.Res.need (Sy.GotL R Bi) (Sy.Res.hyp (q.2 z10 (List.append z4 z9)) (Sy.Res.need ((q.2 z11 XL ∧ List.length XL + (6 : Nat) ≤ (2000000 : Nat)) ∧ (0 : Int) ≤ (44 : Int) ∧ (44 : Int) ≤ (1000 : Int)) (Sy.Res.need (List.Perm (List.append R (List.map (fun (p : Nat × Sy.Cont) => Blk.mk (Prod.fst p) (Prod.snd p) true) (q.1 z10 (List.append z4 z9)))) (List.append (List.map (fun (p : Nat × Sy.Cont) => Blk.mk (Prod.fst p) (Prod.snd p) true) (q.1 z11 XL)) R)) (Sy.Res.hyp (q.2 z12 z13) (Sy.Res.leaf (Value.tuple (Array.mk []), Blk.mk y (Sy.Cont.obj (Obj.cells (Array.mk [Value.slice (slP z12) (Sy.lenS z12) (slC z12), mp, tv, Value.int IntKind.i64 (fstE (fstE e (exprE z0 (0 : Int))) (placeE z6 z7 (1 : Int))), Value.bool true]) (132 : Nat))) true :: List.append R (List.map (fun (p : Nat × Sy.Cont) => Blk.mk (Prod.fst p) (Prod.snd p) true) (q.1 z12 z13))))))))))))))
theorem bFadd_run (q : Rw) (TL R : List Blk) (y : Nat) (a : ActD) (iv ev fv : Value) (Bi Be Bf : List (Nat × Sy.Cont)) (v mp tv : Value) (e : Int) (X XP XL : List I) : Sy.Ran (Sy.inY Tryz.prog (ctxAl q y (setOp a 5) iv ev fv Bi Be Bf mp tv true X XP XL R) 50 fAct #[.pointer (some ⟨y, 0, none⟩), actV (setOp a 5) iv ev fv] (⟨y, layC (slV v) mp tv e true, true⟩ :: TL) 1) bFadd_o (bFadd_R q TL R y a iv ev fv Bi Be Bf v mp tv e X XP XL) := ⟨fun ns => by kernel_rfl, fun ns => by kernel_rfl⟩
def bCas_o : Sy.O := (Sy.O.pack 77 0x300402080000802208820000200882208000080220882200000000000000000000000000000000000000000000000020 Sy.O.nil)
noncomputable def bCas_R (q : Rw) (TL : List Blk) (R : List Blk) (y : Nat) (a : ActD) (iv : Value) (ev : Value) (fv : Value) (Bi : List (Nat × Sy.Cont)) (Be : List (Nat × Sy.Cont)) (Bf : List (Nat × Sy.Cont)) (v : Value) (mp : Value) (tv : Value) (e : Int) (X : List I) (XP : List I) (XL : List I) (ns : Nat → Sy.Let) : Sy.Res (Value × List Blk) :=
 let z0 := (ActD.e a)
 let z1 := (Value.slice (slP v) (Sy.lenS v) (slC v))
 let z2 := (exprI z0 (0 : Int))
 let z3 := (lv0 [ns (2 : Nat)])
 let z4 := (List.append X z2)
 let z5 := (ActD.f a)
 let z6 := (Value.slice (slP z3) (Sy.lenS z3) (slC z3))
 let z7 := (exprI z5 (1 : Int))
 let z8 := (lv0 [ns (3 : Nat)])
 let z9 := (List.append z4 z7)
 let z10 := (ActD.base a)
 let z11 := (ActD.size a)
 let z12 := (ActD.ix a)
 let z13 := (Value.slice (slP z8) (Sy.lenS z8) (slC z8))
 let z14 := (placeI z10 z11 z12 (2 : Int))
 let z15 := (lv0 [ns (4 : Nat)])
 let z16 := (List.append z9 z14)
 let z17 := (Value.slice (slP z15) (Sy.lenS z15) (slC z15))
 let z18 := (lv0 [ns (5 : Nat)])
 let z19 := (List.append XL (sgI (36 : Int) (24 : Int) (ActD.mk (6 : Int) (ActD.dst a) z10 z11 z12 z0 z5 (ActD.mode a) (ActD.to a) (ActD.line a) (ActD.col a))))
 Sy.Res.need (okE Be ev z0 (0 : Int) ∧ q.2 z1 X ∧ List.length X + List.length z2 ≤ (2000000 : Nat)) (Sy.Res.need (List.Perm TL (List.append (List.map (fun (p : Nat × Sy.Cont) => Blk.mk (Prod.fst p) (Prod.snd p) true) (q.1 z1 X)) R)) (Sy.Res.need (Sy.GotL R Be) (Sy.Res.hyp (q.2 z3 z4) (Sy.Res.need (okE Bf fv z5 (1 : Int) ∧ q.2 z6 z4 ∧ List.length z4 + List.length z7 ≤ (2000000 : Nat)) (Sy.Res.need (List.Perm (List.append R (List.map (fun (p : Nat × Sy.Cont) => Blk.mk (Prod.fst p) (Prod.snd p) true) (q.1 z3 z4))) (List.append (List.map (fun (p : Nat × Sy.Cont) => Blk.mk (Prod.fst p) (Prod.snd p) true) (q.1 z6 z4)) R)) (Sy.Res.need (Sy.GotL R Bf) (Sy.Res.hyp (q.2 z8 z9) (Sy.Res.need (okP Bi iv z10 z11 z12 (2 : Int) ∧ q.2 z13 z9 ∧ List.length z9 + List.length z14 ≤ (2000000 : Nat)) (Sy.Res.need (List.Perm (List.append R (List.map (fun (p : Nat × Sy.Cont) => Blk.mk (Prod.fst p) (Prod.snd p) true) (q.1 z8 z9))) (List.append (List.map (fun (p : Nat × Sy.Cont) => Blk.mk (Prod.fst p) (Prod.snd p) true) (q.1 z13 z9)) R)) (Sy.Res.need (Sy.GotL R Bi) (Sy.Res.hyp (q.2 z15 z16) (Sy.Res.need ((q.2 z17 XL ∧ List.length XL + (6 : Nat) ≤ (2000000 : Nat)) ∧ (0 : Int) ≤ (36 : Int) ∧ (36 : Int) ≤ (1000 : Int)) (Sy.Res.need (List.Perm (List.append R (List.map (fun (p : Nat × Sy.Cont) => Blk.mk (Prod.fst p) (Prod.snd p) true) (q.1 z15 z16))) (List.append (List.map (fun (p : Nat × Sy.Cont) => Blk.mk (Prod.fst p) (Prod.snd p) true) (q.1 z17 XL)) R)) (Sy.Res.hyp (q.2 z18 z19) (Sy.Res.leaf (Value.tuple
 (Array.mk []), Blk.mk y (Sy.Cont.obj (Obj.cells (Array.mk [Value.slice (slP z18) (Sy.lenS z18) (slC z18), mp, tv, Value.int IntKind.i64 (fstE (fstE (fstE e (exprE z0 (0 : Int))) (exprE z5 (1 : Int))) (placeE z11 z12 (2 : Int))), Value.bool true]) (132 : Nat))) true :: List.append R (List.map (fun (p : Nat × Sy.Cont) => Blk.mk (Prod.fst p) (Prod.snd p) true) (q.1 z18 z19))))))))))))))))))
theorem bCas_run (q : Rw) (TL R : List Blk) (y : Nat) (a : ActD) (iv ev fv : Value) (Bi Be Bf : List (Nat × Sy.Cont)) (v mp tv : Value) (e : Int) (X XP XL : List I) : Sy.Ran (Sy.inY Tryz.prog (ctxAl q y (setOp a 6) iv ev fv Bi Be Bf mp tv true X XP XL R) 50 fAct #[.pointer (some ⟨y, 0, none⟩), actV (setOp a 6) iv ev fv] (⟨y, layC (slV v) mp tv e true, true⟩ :: TL) 1) bCas_o (bCas_R q TL R y a iv ev fv Bi Be Bf v mp tv e X XP XL) := ⟨fun ns => by kernel_rfl, fun ns => by kernel_rfl⟩
def bFence_o : Sy.O := (Sy.O.pack 50 0x1000000000000400000000000000000000000000000000000000000000020 (Sy.O.fork (Sy.O.pack 9 0x40804110400 Sy.O.nil) (Sy.O.pack 9 0x40804110400 Sy.O.nil)))
noncomputable def bFence_R (q : Rw) (TL : List Blk) (R : List Blk) (y : Nat) (a : ActD) (iv : Value) (ev : Value) (fv : Value) (Bi : List (Nat × Sy.Cont)) (Be : List (Nat × Sy.Cont)) (Bf : List (Nat × Sy.Cont)) (v : Value) (mp : Value) (tv : Value) (e : Int) (X : List I) (XP : List I) (XL : List I) (ns : Nat → Sy.Let) : Sy.Res (Value × List Blk) :=
 let z0 := (Value.slice (slP v) (Sy.lenS v) (slC v))
 let z1 := [I.mk (30 : Int) (0 : Int) (0 : Int) (0 : Int) (0 : Int) (0 : Int)]
 let z2 := (lv0 [ns (3 : Nat)])
 let z3 := (Sy.Cont.obj (Obj.cells (Array.mk [Value.slice (slP z2) (Sy.lenS z2) (slC z2), mp, tv, Value.int IntKind.i64 e, Value.bool true]) (132 : Nat)))
 let z4 := [I.mk (31 : Int) (0 : Int) (0 : Int) (0 : Int) (0 : Int) (0 : Int)]
 Sy.Res.br (Ex.eqQ (ActD.mode a) (2 : Int)) (Sy.Res.need (q.2 z0 XP ∧ z1 ≠ [] ∧ List.length XP + (1 : Nat) ≤ (2000000 : Nat)) (Sy.Res.need (List.Perm TL (List.append (List.map (fun (p : Nat × Sy.Cont) => Blk.mk (Prod.fst p) (Prod.snd p) true) (q.1 z0 XP)) R)) (Sy.Res.hyp (q.2 z2 (List.append XP z1)) (Sy.Res.leaf (Value.tuple (Array.mk []), Blk.mk y z3 true :: List.append R (List.map (fun (p : Nat × Sy.Cont) => Blk.mk (Prod.fst p) (Prod.snd p) true) (q.1 z2 (List.append XP z1)))))))) (Sy.Res.need (q.2 z0 XP ∧ z4 ≠ [] ∧ List.length XP + (1 : Nat) ≤ (2000000 : Nat)) (Sy.Res.need (List.Perm TL (List.append (List.map (fun (p : Nat × Sy.Cont) => Blk.mk (Prod.fst p) (Prod.snd p) true) (q.1 z0 XP)) R)) (Sy.Res.hyp (q.2 z2 (List.append XP z4)) (Sy.Res.leaf (Value.tuple (Array.mk []), Blk.mk y z3 true :: List.append R (List.map (fun (p : Nat × Sy.Cont) => Blk.mk (Prod.fst p) (Prod.snd p) true) (q.1 z2 (List.append XP z4))))))))
theorem bFence_run (q : Rw) (TL R : List Blk) (y : Nat) (a : ActD) (iv ev fv : Value) (Bi Be Bf : List (Nat × Sy.Cont)) (v mp tv : Value) (e : Int) (X XP XL : List I) : Sy.Ran (Sy.inY Tryz.prog (ctxAl q y (setOp a 7) iv ev fv Bi Be Bf mp tv true X XP XL R) 50 fAct #[.pointer (some ⟨y, 0, none⟩), actV (setOp a 7) iv ev fv] (⟨y, layC (slV v) mp tv e true, true⟩ :: TL) 1) bFence_o (bFence_R q TL R y a iv ev fv Bi Be Bf v mp tv e X XP XL) := ⟨fun ns => by kernel_rfl, fun ns => by kernel_rfl⟩
def bPrint_o : Sy.O := (Sy.O.pack 67 0x102010401000220882200020000000000000400000000000000000000000000000000000000000000020 Sy.O.nil)
noncomputable def bPrint_R (q : Rw) (TL : List Blk) (R : List Blk) (y : Nat) (a : ActD) (iv : Value) (ev : Value) (fv : Value) (Bi : List (Nat × Sy.Cont)) (Be : List (Nat × Sy.Cont)) (Bf : List (Nat × Sy.Cont)) (v : Value) (mp : Value) (tv : Value) (e : Int) (X : List I) (XP : List I) (XL : List I) (ns : Nat → Sy.Let) : Sy.Res (Value × List Blk) :=
 let z0 := (Value.slice (slP v) (Sy.lenS v) (slC v))
 let z1 := (exprI (ActD.e a) (0 : Int))
 let z2 := (lv0 [ns (2 : Nat)])
 let z3 := (Value.slice (slP z2) (Sy.lenS z2) (slC z2))
 let z4 := [I.mk (33 : Int) (0 : Int) (0 : Int) (0 : Int) (24 : Int) (0 : Int)]
 let z5 := (lv0 [ns (4 : Nat)])
 Sy.Res.need (okE Be ev (ActD.e a) (0 : Int) ∧ q.2 z0 X ∧ List.length X + List.length z1 ≤ (2000000 : Nat)) (Sy.Res.need (List.Perm TL (List.append (List.map (fun (p : Nat × Sy.Cont) => Blk.mk (Prod.fst p) (Prod.snd p) true) (q.1 z0 X)) R)) (Sy.Res.need (Sy.GotL R Be) (Sy.Res.hyp (q.2 z2 (List.append X z1)) (Sy.Res.need (q.2 z3 XP ∧ z4 ≠ [] ∧ List.length XP + (1 : Nat) ≤ (2000000 : Nat)) (Sy.Res.need (List.Perm (List.append R (List.map (fun (p : Nat × Sy.Cont) => Blk.mk (Prod.fst p) (Prod.snd p) true) (q.1 z2 (List.append X z1)))) (List.append (List.map (fun (p : Nat × Sy.Cont) => Blk.mk (Prod.fst p) (Prod.snd p) true) (q.1 z3 XP)) R)) (Sy.Res.hyp (q.2 z5 (List.append XP z4)) (Sy.Res.leaf (Value.tuple (Array.mk []), Blk.mk y (Sy.Cont.obj (Obj.cells (Array.mk [Value.slice (slP z5) (Sy.lenS z5) (slC z5), mp, tv, Value.int IntKind.i64 (fstE e (exprE (ActD.e a) (0 : Int))), Value.bool true]) (132 : Nat))) true :: List.append R (List.map (fun (p : Nat × Sy.Cont) => Blk.mk (Prod.fst p) (Prod.snd p) true) (q.1 z5 (List.append XP z4)))))))))))
theorem bPrint_run (q : Rw) (TL R : List Blk) (y : Nat) (a : ActD) (iv ev fv : Value) (Bi Be Bf : List (Nat × Sy.Cont)) (v mp tv : Value) (e : Int) (X XP XL : List I) : Sy.Ran (Sy.inY Tryz.prog (ctxAl q y (setOp a 8) iv ev fv Bi Be Bf mp tv true X XP XL R) 50 fAct #[.pointer (some ⟨y, 0, none⟩), actV (setOp a 8) iv ev fv] (⟨y, layC (slV v) mp tv e true, true⟩ :: TL) 1) bPrint_o (bPrint_R q TL R y a iv ev fv Bi Be Bf v mp tv e X XP XL) := ⟨fun ns => by kernel_rfl, fun ns => by kernel_rfl⟩
def bJump_o : Sy.O := (Sy.O.pack 59 0xc201044000400000000000000400000000000000000000000000000000000000000000020 Sy.O.nil)
noncomputable def bJump_R (q : Rw) (w : Fw) (TL : List Blk) (R : List Blk) (RB : List Blk) (y : Nat) (a : ActD) (iv : Value) (ev : Value) (fv : Value) (Be : List (Nat × Sy.Cont)) (Bf : List (Nat × Sy.Cont)) (v : Value) (mp : Value) (tv : Value) (e : Int) (X : List I) (XP : List I) (fs : List Fl) (ns : Nat → Sy.Let) : Sy.Res (Value × List Blk) :=
 let z0 := (Value.slice (slP v) (Sy.lenS v) (slC v))
 let z1 := [ns (2 : Nat), ns (3 : Nat), ns (4 : Nat), ns (5 : Nat), ns (6 : Nat)]
 let z2 := (letW z1 (0 : Nat))
 let z3 := (List.append XP [I.mk (18 : Int) (0 : Int) (0 : Int) (0 : Int) (0 : Int) (0 : Int)])
 let z4 := (letW z1 (1 : Nat))
 let z5 := (List.append fs [newF z1 (ActD.to a) XP])
 Sy.Res.need (q.2 z0 XP ∧ w.2 tv fs ∧ List.length XP + (1 : Nat) ≤ (2000000 : Nat) ∧ List.length fs ≤ (2000000 : Nat)) (Sy.Res.need (List.Perm TL (List.append (List.map (fun (p : Nat × Sy.Cont) => Blk.mk (Prod.fst p) (Prod.snd p) true) (List.append (q.1 z0 XP) (w.1 y tv fs))) RB)) (Sy.Res.hyp (q.2 z2 z3 ∧ w.2 z4 z5) (Sy.Res.leaf (Value.tuple (Array.mk []), Blk.mk y (Sy.Cont.obj (Obj.cells (Array.mk [Value.slice (slP z2) (Sy.lenS z2) (slC z2), mp, Value.slice (slP z4) (Sy.lenS z4) (slC z4), Value.int IntKind.i64 e, Value.bool true]) (132 : Nat))) true :: List.append RB (List.map (fun (p : Nat × Sy.Cont) => Blk.mk (Prod.fst p) (Prod.snd p) true) (List.append (q.1 z2 z3) (w.1 y z4 z5)))))))
theorem bJump_run (q : Rw) (w : Fw) (TL R RB : List Blk) (y : Nat) (a : ActD) (iv ev fv : Value) (Be Bf : List (Nat × Sy.Cont)) (v mp tv : Value) (e : Int) (X XP : List I) (fs : List Fl) : Sy.Ran (Sy.inY Tryz.prog (ctxJp q w y (setOp a 9) ev fv Be Bf mp tv true X XP fs 18 0 R RB) 50 fAct #[.pointer (some ⟨y, 0, none⟩), actV (setOp a 9) iv ev fv] (⟨y, layC (slV v) mp (slV tv) e true, true⟩ :: TL) 1) bJump_o (bJump_R q w TL R RB y a iv ev fv Be Bf v mp tv e X XP fs) := ⟨fun ns => by kernel_rfl, fun ns => by kernel_rfl⟩
def bZero_o : Sy.O := (Sy.O.pack 70 0x610082000040088220880008000000000000000400000000000000000000000000000000000000000000020 Sy.O.nil)
noncomputable def bZero_R (q : Rw) (w : Fw) (TL : List Blk) (R : List Blk) (RB : List Blk) (y : Nat) (a : ActD) (iv : Value) (ev : Value) (fv : Value) (Be : List (Nat × Sy.Cont)) (Bf : List (Nat × Sy.Cont)) (v : Value) (mp : Value) (tv : Value) (e : Int) (X : List I) (XP : List I) (fs : List Fl) (ns : Nat → Sy.Let) : Sy.Res (Value × List Blk) :=
 let z0 := (Value.slice (slP v) (Sy.lenS v) (slC v))
 let z1 := (exprI (ActD.e a) (0 : Int))
 let z2 := (lv0 [ns (2 : Nat)])
 let z3 := (Value.slice (slP z2) (Sy.lenS z2) (slC z2))
 let z4 := [ns (3 : Nat), ns (4 : Nat), ns (5 : Nat), ns (6 : Nat), ns (7 : Nat)]
 let z5 := (letW z4 (0 : Nat))
 let z6 := (List.append XP [I.mk (20 : Int) (24 : Int) (0 : Int) (0 : Int) (0 : Int) (0 : Int)])
 let z7 := (letW z4 (1 : Nat))
 let z8 := (List.append fs [newF z4 (ActD.to a) XP])
 Sy.Res.need (okE Be ev (ActD.e a) (0 : Int) ∧ q.2 z0 X ∧ List.length X + List.length z1 ≤ (2000000 : Nat)) (Sy.Res.need (List.Perm TL (List.append (List.map (fun (p : Nat × Sy.Cont) => Blk.mk (Prod.fst p) (Prod.snd p) true) (q.1 z0 X)) R)) (Sy.Res.need (Sy.GotL R Be) (Sy.Res.hyp (q.2 z2 (List.append X z1)) (Sy.Res.need (q.2 z3 XP ∧ w.2 tv fs ∧ List.length XP + (1 : Nat) ≤ (2000000 : Nat) ∧ List.length fs ≤ (2000000 : Nat)) (Sy.Res.need (List.Perm (List.append R (List.map (fun (p : Nat × Sy.Cont) => Blk.mk (Prod.fst p) (Prod.snd p) true) (q.1 z2 (List.append X z1)))) (List.append (List.map (fun (p : Nat × Sy.Cont) => Blk.mk (Prod.fst p) (Prod.snd p) true) (List.append (q.1 z3 XP) (w.1 y tv fs))) RB)) (Sy.Res.hyp (q.2 z5 z6 ∧ w.2 z7 z8) (Sy.Res.leaf (Value.tuple (Array.mk []), Blk.mk y (Sy.Cont.obj (Obj.cells (Array.mk [Value.slice (slP z5) (Sy.lenS z5) (slC z5), mp, Value.slice (slP z7) (Sy.lenS z7) (slC z7), Value.int IntKind.i64 (fstE e (exprE (ActD.e a) (0 : Int))), Value.bool true]) (132 : Nat))) true :: List.append RB (List.map (fun (p : Nat × Sy.Cont) => Blk.mk (Prod.fst p) (Prod.snd p) true) (List.append (q.1 z5 z6) (w.1 y z7 z8)))))))))))
theorem bZero_run (q : Rw) (w : Fw) (TL R RB : List Blk) (y : Nat) (a : ActD) (iv ev fv : Value) (Be Bf : List (Nat × Sy.Cont)) (v mp tv : Value) (e : Int) (X XP : List I) (fs : List Fl) : Sy.Ran (Sy.inY Tryz.prog (ctxJp q w y (setOp a 10) ev fv Be Bf mp tv true X XP fs 20 24 R RB) 50 fAct #[.pointer (some ⟨y, 0, none⟩), actV (setOp a 10) iv ev fv] (⟨y, layC (slV v) mp (slV tv) e true, true⟩ :: TL) 1) bZero_o (bZero_R q w TL R RB y a iv ev fv Be Bf v mp tv e X XP fs) := ⟨fun ns => by kernel_rfl, fun ns => by kernel_rfl⟩
end Go.Proofs.YtlpcnaeknbmjdaaGreat.Gn

namespace Go.Proofs.YtlpcnaeknbmjdaaGreat.Gn
open Go Go.RowKit
open Go.Proofs.YtlpcnaeknbmjdaaGreat.Sy (Let Blk HasL)
open Lw (I insCells tI)
theorem ctxAl_holds (y : Nat) (a : ActD) (iv ev fv : Value) (Bi Be Bf : List (Nat × Sy.Cont)) (mp tv : Value) (b : Bool) (X XP XL : List I) (R : List Blk) : (ctxAl rowQ y a iv ev fv Bi Be Bf mp tv b X XP XL R).holds Tryz.prog := Sy.mkU_holds (ctxA0_holds _) (fun p hp ar L => by
  rcases List.mem_cons.1 hp with rfl | hp
  · exact exU_met _ _ _ _ _ _ _ _ _ _ _ _ _
  rcases List.mem_cons.1 hp with rfl | hp
  · show Sy.Meets _ (Sy.plU rowQ y a iv ev fv Bi mp tv b X R ar L).c
    unfold Sy.plU
    split
    · exact placeL_met _ _ _ _ _ _ _ _ _ _ _ _ _
    · split
      · exact placeL_met _ _ _ _ _ _ _ _ _ _ _ _ _
      · exact placeL_met _ _ _ _ _ _ _ _ _ _ _ _ _
  rcases List.mem_cons.1 hp with rfl | hp
  · exact putL_met _ _ _ _ _ _ _ _ _ _
  rcases List.mem_singleton.1 hp with rfl
  exact singleC_met _ _ _ _ _ _ _ _ _ _ _ _ _) (fun _ h => (by cases h))
noncomputable def tailL (a : ActD) : List I :=
  if a.op = 2 ∧ a.mode = 2 then [⟨35, a.dst, 29, 0, 0, 0⟩]
  else if a.op = 4 then sgI 40 25 a
  else if a.op = 5 then sgI 44 25 a
  else if a.op = 6 then sgI 36 24 a
  else tailI a
variable (y : Nat) (a : ActD) (iv ev fv : Value) (Bi Be Bf : List (Nat × Sy.Cont)) (v tv mp : Value) (e : Int) (X : List I) (fs : List Fl)
theorem bSet_met : Sy.Meets Tryz.prog (actC rowQ fillQ y (setOp a 1) iv ev fv Bi Be Bf v tv mp e true X fs (tailL (setOp a 1))) := fun hok => by
  obtain ⟨hA, hX, hF, hl, hf⟩ := id hok
  have hp : preI (setOp a 1) = exprI a.e 0 := by simp [preI]
  rw [hp] at hl
  refine Sy.meets_ofY (k := 1) (ctxAl_holds y (setOp a 1) iv ev fv Bi Be Bf mp (slV tv) true X (X ++ exprI a.e 0) ([]) _) mixed act_ent (bSet_run rowQ _ ((fillB y tv fs).map Sy.ownOf ++ rdOf (Bi ++ (Be ++ Bf))) y a iv ev fv Bi Be Bf v mp (slV tv) e X (X ++ exprI a.e 0) ([])) (fun _ ns => ?_) hok
  simp only [bSet_R, Sy.Res.holds]
  refine ⟨⟨(hA.e (by simp) (by simp) (by simp)), hX, by omega⟩, perm_first _ _ rfl, got_e _ _ _ _, fun k1 => ⟨trivial, fun _ => ⟨⟨k1, by simp, by simp; omega⟩, perm_next _ _ rfl, fun k2 => ?_⟩⟩⟩
  exact act_leaf k2 (List.mem_singleton_self _) rfl hF (by simp) (by simp) (by simp [hp, tailI, tailL]) (by simp [actE])
theorem bPrint_met : Sy.Meets Tryz.prog (actC rowQ fillQ y (setOp a 8) iv ev fv Bi Be Bf v tv mp e true X fs (tailL (setOp a 8))) := fun hok => by
  obtain ⟨hA, hX, hF, hl, hf⟩ := id hok
  have hp : preI (setOp a 8) = exprI a.e 0 := by simp [preI]
  rw [hp] at hl
  refine Sy.meets_ofY (k := 1) (ctxAl_holds y (setOp a 8) iv ev fv Bi Be Bf mp (slV tv) true X (X ++ exprI a.e 0) ([]) _) mixed act_ent (bPrint_run rowQ _ ((fillB y tv fs).map Sy.ownOf ++ rdOf (Bi ++ (Be ++ Bf))) y a iv ev fv Bi Be Bf v mp (slV tv) e X (X ++ exprI a.e 0) ([])) (fun _ ns => ?_) hok
  simp only [bPrint_R, Sy.Res.holds]
  refine ⟨⟨(hA.e (by simp) (by simp) (by simp)), hX, by omega⟩, perm_first _ _ rfl, got_e _ _ _ _, fun k1 => ⟨⟨k1, by simp, by simp; omega⟩, perm_next _ _ rfl, fun k2 => ?_⟩⟩
  exact act_leaf k2 (List.mem_singleton_self _) rfl hF (by simp) (by simp) (by simp [hp, tailI, tailL]) (by simp [actE])
theorem bFence_met : Sy.Meets Tryz.prog (actC rowQ fillQ y (setOp a 7) iv ev fv Bi Be Bf v tv mp e true X fs (tailL (setOp a 7))) := fun hok => by
  obtain ⟨hA, hX, hF, hl, hf⟩ := id hok
  have hp : preI (setOp a 7) = [] := by simp [preI]
  rw [hp] at hl
  refine Sy.meets_ofY (k := 1) (ctxAl_holds y (setOp a 7) iv ev fv Bi Be Bf mp (slV tv) true X (X) ([]) _) mixed act_ent (bFence_run rowQ _ ((fillB y tv fs).map Sy.ownOf ++ rdOf (Bi ++ (Be ++ Bf))) y a iv ev fv Bi Be Bf v mp (slV tv) e X (X) ([])) (fun _ ns => ?_) hok
  simp only [bFence_R, Sy.Res.holds]
  have hm2 : ∀ x : Int, Ex.eqQ x 2 = true ↔ x = 2 := fun x => by rw [Ex.eqQ_eq]; simp
  refine ⟨fun h => ⟨⟨hX, by simp, by omega⟩, perm_first _ _ rfl, fun k2 => ?_⟩, fun h => ⟨⟨hX, by simp, by omega⟩, perm_first _ _ rfl, fun k2 => ?_⟩⟩
  · have h2 : a.mode = 2 := (hm2 _).1 h
    exact act_leaf k2 (List.mem_singleton_self _) rfl hF (by simp) (by simp) (by simp [hp, tailI, tailL, h2]) (by simp [actE])
  · have h2 : a.mode ≠ 2 := fun h2 => by
      have := (hm2 a.mode).2 h2
      simp_all
    exact act_leaf k2 (List.mem_singleton_self _) rfl hF (by simp) (by simp) (by simp [hp, tailI, tailL, h2]) (by simp [actE])
theorem bLoad_met : Sy.Meets Tryz.prog (actC rowQ fillQ y (setOp a 2) iv ev fv Bi Be Bf v tv mp e true X fs (tailL (setOp a 2))) := fun hok => by
  obtain ⟨hA, hX, hF, hl, hf⟩ := id hok
  have hp : preI (setOp a 2) = placeI a.base a.size a.ix 0 := by simp [preI]
  rw [hp] at hl
  refine Sy.meets_ofY (k := 1) (ctxAl_holds y (setOp a 2) iv ev fv Bi Be Bf mp (slV tv) true X (X ++ placeI a.base a.size a.ix 0) ([]) _) mixed act_ent (bLoad_run rowQ _ ((fillB y tv fs).map Sy.ownOf ++ rdOf (Bi ++ (Be ++ Bf))) y a iv ev fv Bi Be Bf v mp (slV tv) e X (X ++ placeI a.base a.size a.ix 0) ([])) (fun _ ns => ?_) hok
  simp only [bLoad_R, Sy.Res.holds]
  have hm1 : ∀ x : Int, Ex.eqQ x 1 = true ↔ x = 1 := fun x => by rw [Ex.eqQ_eq]; simp
  have hm2 : ∀ x : Int, Ex.eqQ x 2 = true ↔ x = 2 := fun x => by rw [Ex.eqQ_eq]; simp
  refine ⟨fun g => ⟨⟨hA.p0 rfl, hX, by omega⟩, perm_first _ _ rfl, got_i _ _ _ _, fun k1 => ⟨trivial, fun _ => ⟨⟨k1, by simp, by simp; omega⟩, perm_next _ _ rfl, fun k2 => ?_⟩⟩⟩, fun g => ⟨⟨hA.p0 rfl, hX, by omega⟩, perm_first _ _ rfl, got_i _ _ _ _, fun k1 => ⟨fun h => ⟨trivial, fun _ => ⟨⟨k1, by simp, by simp; omega⟩, perm_next _ _ rfl, fun k2 => ?_⟩⟩, fun h => ⟨trivial, fun _ => ⟨⟨k1, by simp, by simp; omega⟩, perm_next _ _ rfl, fun k2 => ?_⟩⟩⟩⟩⟩
  · have h2 : a.mode = 2 := (hm2 _).1 g
    exact act_leaf k2 (List.mem_singleton_self _) rfl hF (by simp) (by simp) (by simp [hp, tailI, tailL, h2]) (by simp [actE])
  · have h2 : a.mode = 1 := (hm1 _).1 h
    exact act_leaf k2 (List.mem_singleton_self _) rfl hF (by simp) (by simp) (by simp [hp, tailI, tailL, h2]) (by simp [actE])
  · have h3 : a.mode ≠ 2 := fun h2 => by
      have := (hm2 a.mode).2 h2
      rw [this] at g
      cases g
    have h2 : a.mode ≠ 1 := fun h2 => by
      have := (hm1 a.mode).2 h2
      rw [this] at h
      cases h
    exact act_leaf k2 (List.mem_singleton_self _) rfl hF (by simp) (by simp) (by simp [hp, tailI, tailL, h2, h3]) (by simp [actE])
theorem bStore_met : Sy.Meets Tryz.prog (actC rowQ fillQ y (setOp a 3) iv ev fv Bi Be Bf v tv mp e true X fs (tailL (setOp a 3))) := fun hok => by
  obtain ⟨hA, hX, hF, hl, hf⟩ := id hok
  have hp : preI (setOp a 3) = exprI a.e 0 ++ placeI a.base a.size a.ix 1 := by simp [preI]
  rw [hp] at hl
  simp only [List.length_append] at hl
  refine Sy.meets_ofY (k := 1) (ctxAl_holds y (setOp a 3) iv ev fv Bi Be Bf mp (slV tv) true X (X ++ exprI a.e 0 ++ placeI a.base a.size a.ix 1) ([]) _) mixed act_ent (bStore_run rowQ _ ((fillB y tv fs).map Sy.ownOf ++ rdOf (Bi ++ (Be ++ Bf))) y a iv ev fv Bi Be Bf v mp (slV tv) e X (X ++ exprI a.e 0 ++ placeI a.base a.size a.ix 1) ([])) (fun _ ns => ?_) hok
  simp only [bStore_R, Sy.Res.holds]
  have hm1 : ∀ x : Int, Ex.eqQ x 1 = true ↔ x = 1 := fun x => by rw [Ex.eqQ_eq]; simp
  refine ⟨⟨(hA.e (by simp) (by simp) (by simp)), hX, by omega⟩, perm_first _ _ rfl, got_e _ _ _ _, fun k1 => ⟨⟨hA.p1 (by simp), k1, by simp; omega⟩, perm_next _ _ rfl, got_i _ _ _ _, fun k2 => ?_⟩⟩
  refine ⟨fun h => ⟨trivial, fun _ => ⟨⟨k2, by simp, by simp; omega⟩, perm_next _ _ rfl, fun k3 => ?_⟩⟩, fun h => ⟨trivial, fun _ => ⟨⟨k2, by simp, by simp; omega⟩, perm_next _ _ rfl, fun k3 => ?_⟩⟩⟩
  · have h2 : a.mode = 1 := (hm1 _).1 h
    exact act_leaf k3 (List.mem_singleton_self _) rfl hF (by simp) (by simp) (by simp [hp, tailI, tailL, h2]) (by simp [actE])
  · have h2 : a.mode ≠ 1 := fun h2 => by
      have := (hm1 a.mode).2 h2
      simp_all
    exact act_leaf k3 (List.mem_singleton_self _) rfl hF (by simp) (by simp) (by simp [hp, tailI, tailL, h2]) (by simp [actE])
theorem bXchg_met : Sy.Meets Tryz.prog (actC rowQ fillQ y (setOp a 4) iv ev fv Bi Be Bf v tv mp e true X fs (tailL (setOp a 4))) := fun hok => by
  obtain ⟨hA, hX, hF, hl, hf⟩ := id hok
  have hp : preI (setOp a 4) = exprI a.e 0 ++ placeI a.base a.size a.ix 1 := by simp [preI]
  rw [hp] at hl
  simp only [List.length_append] at hl
  refine Sy.meets_ofY (k := 1) (ctxAl_holds y (setOp a 4) iv ev fv Bi Be Bf mp (slV tv) true X ([]) (X ++ exprI a.e 0 ++ placeI a.base a.size a.ix 1) _) mixed act_ent (bXchg_run rowQ _ ((fillB y tv fs).map Sy.ownOf ++ rdOf (Bi ++ (Be ++ Bf))) y a iv ev fv Bi Be Bf v mp (slV tv) e X ([]) (X ++ exprI a.e 0 ++ placeI a.base a.size a.ix 1)) (fun _ ns => ?_) hok
  simp only [bXchg_R, Sy.Res.holds]
  refine ⟨⟨(hA.e (by simp) (by simp) (by simp)), hX, by omega⟩, perm_first _ _ rfl, got_e _ _ _ _, fun k1 => ⟨⟨hA.p1 (by simp), k1, by simp; omega⟩, perm_next _ _ rfl, got_i _ _ _ _, fun k2 => ?_⟩⟩
  refine ⟨⟨⟨k2, by simp; omega⟩, by omega, by omega⟩, perm_next _ _ rfl, fun k3 => ?_⟩
  exact act_leaf k3 (List.mem_singleton_self _) rfl hF (by simp) (by simp) (by simp [hp, tailI, tailL]) (by simp [actE])
theorem bFadd_met : Sy.Meets Tryz.prog (actC rowQ fillQ y (setOp a 5) iv ev fv Bi Be Bf v tv mp e true X fs (tailL (setOp a 5))) := fun hok => by
  obtain ⟨hA, hX, hF, hl, hf⟩ := id hok
  have hp : preI (setOp a 5) = exprI a.e 0 ++ placeI a.base a.size a.ix 1 := by simp [preI]
  rw [hp] at hl
  simp only [List.length_append] at hl
  refine Sy.meets_ofY (k := 1) (ctxAl_holds y (setOp a 5) iv ev fv Bi Be Bf mp (slV tv) true X ([]) (X ++ exprI a.e 0 ++ placeI a.base a.size a.ix 1) _) mixed act_ent (bFadd_run rowQ _ ((fillB y tv fs).map Sy.ownOf ++ rdOf (Bi ++ (Be ++ Bf))) y a iv ev fv Bi Be Bf v mp (slV tv) e X ([]) (X ++ exprI a.e 0 ++ placeI a.base a.size a.ix 1)) (fun _ ns => ?_) hok
  simp only [bFadd_R, Sy.Res.holds]
  refine ⟨⟨(hA.e (by simp) (by simp) (by simp)), hX, by omega⟩, perm_first _ _ rfl, got_e _ _ _ _, fun k1 => ⟨⟨hA.p1 (by simp), k1, by simp; omega⟩, perm_next _ _ rfl, got_i _ _ _ _, fun k2 => ?_⟩⟩
  refine ⟨⟨⟨k2, by simp; omega⟩, by omega, by omega⟩, perm_next _ _ rfl, fun k3 => ?_⟩
  exact act_leaf k3 (List.mem_singleton_self _) rfl hF (by simp) (by simp) (by simp [hp, tailI, tailL]) (by simp [actE])
theorem bCas_met : Sy.Meets Tryz.prog (actC rowQ fillQ y (setOp a 6) iv ev fv Bi Be Bf v tv mp e true X fs (tailL (setOp a 6))) := fun hok => by
  obtain ⟨hA, hX, hF, hl, hf⟩ := id hok
  have hp : preI (setOp a 6) = exprI a.e 0 ++ exprI a.f 1 ++ placeI a.base a.size a.ix 2 := by simp [preI]
  rw [hp] at hl
  simp only [List.length_append] at hl
  refine Sy.meets_ofY (k := 1) (ctxAl_holds y (setOp a 6) iv ev fv Bi Be Bf mp (slV tv) true X ([]) (X ++ exprI a.e 0 ++ exprI a.f 1 ++ placeI a.base a.size a.ix 2) _) mixed act_ent (bCas_run rowQ _ ((fillB y tv fs).map Sy.ownOf ++ rdOf (Bi ++ (Be ++ Bf))) y a iv ev fv Bi Be Bf v mp (slV tv) e X ([]) (X ++ exprI a.e 0 ++ exprI a.f 1 ++ placeI a.base a.size a.ix 2)) (fun _ ns => ?_) hok
  simp only [bCas_R, Sy.Res.holds]
  refine ⟨⟨(hA.e (by simp) (by simp) (by simp)), hX, by omega⟩, perm_first _ _ rfl, got_e _ _ _ _, fun k1 => ⟨⟨hA.f rfl, k1, by simp; omega⟩, perm_next _ _ rfl, got_f _ _ _ _, fun k2 => ⟨⟨hA.p2 rfl, k2, by simp; omega⟩, perm_next _ _ rfl, got_i _ _ _ _, fun k3 => ?_⟩⟩⟩
  refine ⟨⟨⟨k3, by simp; omega⟩, by omega, by omega⟩, perm_next _ _ rfl, fun k4 => ?_⟩
  exact act_leaf k4 (List.mem_singleton_self _) rfl hF (by simp) (by simp) (by simp [hp, tailI, tailL]) (by simp [actE])
theorem bJump_met : Sy.Meets Tryz.prog (actC rowQ fillQ y (setOp a 9) iv ev fv Bi Be Bf v tv mp e true X fs (tailL (setOp a 9))) := fun hok => by
  obtain ⟨hA, hX, hF, hl, hf⟩ := id hok
  have hp : preI (setOp a 9) = [] := by simp [preI]
  rw [hp] at hl
  simp only [List.length_nil] at hl
  refine Sy.meets_ofY (k := 1) (ctxJp_holds y (setOp a 9) ev fv Be Bf mp tv true X X fs 18 0 [] _) mixed act_ent (bJump_run rowQ fillQ _ [] (rdOf (Bi ++ (Be ++ Bf))) y a iv ev fv Be Bf v mp tv e X X fs) (fun _ ns => ?_) hok
  simp only [bJump_R, Sy.Res.holds]
  refine ⟨⟨hX, hF, by omega, hf⟩, ?_, fun k => ?_⟩
  · show List.Perm _ ((rowB v X ++ fillB y tv fs).map Sy.ownOf ++ _)
    rw [List.map_append, List.append_assoc]
  · exact jmp_leaf (a := setOp a 9) k (List.mem_singleton_self _) rfl (.inl rfl) (by simp [tailI, tailL]) (by simp [hp]) (by simp [actE]) rfl
theorem bZero_met : Sy.Meets Tryz.prog (actC rowQ fillQ y (setOp a 10) iv ev fv Bi Be Bf v tv mp e true X fs (tailL (setOp a 10))) := fun hok => by
  obtain ⟨hA, hX, hF, hl, hf⟩ := id hok
  have hp : preI (setOp a 10) = exprI a.e 0 := by simp [preI]
  rw [hp] at hl
  refine Sy.meets_ofY (k := 1) (ctxJp_holds y (setOp a 10) ev fv Be Bf mp tv true X (X ++ exprI a.e 0) fs 20 24 _ _) mixed act_ent (bZero_run rowQ fillQ _ ((fillB y tv fs).map Sy.ownOf ++ rdOf (Bi ++ (Be ++ Bf))) (rdOf (Bi ++ (Be ++ Bf))) y a iv ev fv Be Bf v mp tv e X (X ++ exprI a.e 0) fs) (fun _ ns => ?_) hok
  simp only [bZero_R, Sy.Res.holds]
  refine ⟨⟨hA.e (by simp) (by simp) (by simp), hX, by omega⟩, perm_first _ _ rfl, got_e _ _ _ _, fun k1 => ⟨⟨k1, hF, by simp; omega, hf⟩, ?_, fun k => ?_⟩⟩
  · show List.Perm _ ((rowB (slV _) (X ++ exprI a.e 0) ++ fillB y tv fs).map Sy.ownOf ++ _)
    rw [List.map_append, List.append_assoc]
    exact List.perm_append_comm
  · exact jmp_leaf (a := setOp a 10) k (List.mem_singleton_self _) rfl (.inr rfl) (by simp [tailI, tailL]) (by simp [hp]) (by simp [actE]) rfl
theorem actL_met : Sy.Meets Tryz.prog (actC rowQ fillQ y a iv ev fv Bi Be Bf v tv mp e true X fs (tailL a)) := fun hok => by
  have key : ∀ k : Int, a.op = k → a = setOp a k := fun k hk => by subst hk; rfl
  rcases hok.1.op with h | h | h | h | h | h | h | h | h | h
  · have := bSet_met y a iv ev fv Bi Be Bf v tv mp e X fs
    rw [← key _ h] at this
    exact this hok
  · have := bLoad_met y a iv ev fv Bi Be Bf v tv mp e X fs
    rw [← key _ h] at this
    exact this hok
  · have := bStore_met y a iv ev fv Bi Be Bf v tv mp e X fs
    rw [← key _ h] at this
    exact this hok
  · have := bXchg_met y a iv ev fv Bi Be Bf v tv mp e X fs
    rw [← key _ h] at this
    exact this hok
  · have := bFadd_met y a iv ev fv Bi Be Bf v tv mp e X fs
    rw [← key _ h] at this
    exact this hok
  · have := bCas_met y a iv ev fv Bi Be Bf v tv mp e X fs
    rw [← key _ h] at this
    exact this hok
  · have := bFence_met y a iv ev fv Bi Be Bf v tv mp e X fs
    rw [← key _ h] at this
    exact this hok
  · have := bPrint_met y a iv ev fv Bi Be Bf v tv mp e X fs
    rw [← key _ h] at this
    exact this hok
  · have := bJump_met y a iv ev fv Bi Be Bf v tv mp e X fs
    rw [← key _ h] at this
    exact this hok
  · have := bZero_met y a iv ev fv Bi Be Bf v tv mp e X fs
    rw [← key _ h] at this
    exact this hok
end Go.Proofs.YtlpcnaeknbmjdaaGreat.Gn

namespace Go.Proofs.YtlpcnaeknbmjdaaGreat.Gn
open Go Go.RowKit
open Go.Proofs.YtlpcnaeknbmjdaaGreat.Sy (Let Blk HasL)
open Lw (I insCells tI)
abbrev tMp : TypeId := 129
def begL : Nat → List Int → List MapEntry
  | _, [] => []
  | i, x :: r => ⟨.int .i64 (Int.ofNat i), .int .i64 x, i⟩ :: begL (i + 1) r
def begM (bs : List Int) : Obj := .map (begL 0 bs).toArray bs.length
theorem begL_snoc (bs : List Int) (x : Int) : ∀ i, begL i (bs ++ [x]) = begL i bs ++ [⟨.int .i64 (Int.ofNat (i + bs.length)), .int .i64 x, i + bs.length⟩] := by
  induction bs with
  | nil => intro i; rfl
  | cons y r ih =>
    intro i
    show _ :: begL (i + 1) (r ++ [x]) = _ :: (begL (i + 1) r ++ _)
    rw [ih]
    simp only [List.length_cons]
    rw [show i + 1 + r.length = i + (r.length + 1) by omega]
theorem find_none (k : IntKind) (n : Nat) (bs : List Int) : ∀ i j, i + bs.length ≤ n → Instr.findNow (.int k) (.int .i64 (Int.ofNat n)) (begL i bs) j = some none := by
  induction bs with
  | nil => intro i j _; rfl
  | cons y r ih =>
    intro i j h
    have hne : ¬ (n = i) := by simp only [List.length_cons] at h; omega
    simp only [begL, Instr.findNow, Instr.sameNow]
    have : ((Int.ofNat n : Int) == Int.ofNat i) = false := by simp only [Int.ofNat_eq_natCast, beq_eq_false_iff_ne, ne_eq, Int.natCast_inj]; exact hne
    rw [this]
    simp only [if_true]
    exact ih _ _ (by simp only [List.length_cons] at h; omega)
theorem find_some (k : IntKind) (n : Nat) (x : Int) (bs : List Int) : ∀ i j, bs[n]? = some x → Instr.findNow (.int k) (.int .i64 (Int.ofNat (i + n))) (begL i bs) j = some (some (j + n, .int .i64 x)) := by
  induction bs generalizing n with
  | nil => intro i j h; simp at h
  | cons y r ih =>
    intro i j h
    simp only [begL, Instr.findNow, Instr.sameNow, if_true]
    cases n with
    | zero =>
      simp only [List.getElem?_cons_zero, Option.some.injEq] at h
      subst h
      simp
    | succ n =>
      have : ((Int.ofNat (i + (n + 1)) : Int) == Int.ofNat i) = false := by simp only [Int.ofNat_eq_natCast, beq_eq_false_iff_ne, ne_eq, Int.natCast_inj]; omega
      rw [this]
      have := ih n (i + 1) (j + 1) (by simpa using h)
      rw [show i + 1 + n = i + (n + 1) by omega, show j + 1 + n = j + (n + 1) by omega] at this
      exact this
theorem und_mp : Tryz.prog.underlying tMp = some (.map 3 3) := by kernel_rfl
theorem und_int : Tryz.prog.underlying 3 = some (.int .i64) := by kernel_rfl
theorem ck_run (b : Bool) (k : Int) (W : World) : (Instr.checkKey b 10000 3 (.int .i64 k)).run Tryz.prog W = .ok () W := by
  show (Instr.checkKey b (9999 + 1) _ _).run _ W = _
  generalize 9999 = m
  simp [Instr.checkKey, run_underlying und_int]
theorem fk_run {k : Int} {es : List MapEntry} {r : Option (Nat × Value)} (h : Instr.findNow (.int .i64) (.int .i64 k) es 0 = some r) (W : World) : (Instr.findKey 3 (.int .i64 k) es).run Tryz.prog W = .ok r W := by
  simp [Instr.findKey, run_underlying und_int, h]
theorem gm_run {W : World} {r : Nat} {es : Array MapEntry} {c : Nat} (h : W.heap[r]? = some (.map es c)) : (getObj r).run Tryz.prog W = .ok (.map es c) W := by
  simp [getObj, Sem.run, h]
theorem sm_run {W : World} {r : Nat} {es : Array MapEntry} {c : Nat} (h : W.heap[r]? = some (.map es c)) (o : Obj) : (setObj r o).run Tryz.prog W = .ok () { W with heap := W.heap.setIfInBounds r o } := by
  simp [setObj, Sem.run, h]
theorem upd_aux {W : World} {r : Nat} {es es' : List MapEntry} {c : Nat} {k : Int} {v : Value} (h : W.heap[r]? = some (.map es.toArray c)) (hf : Instr.findNow (.int .i64) (.int .i64 k) es 0 = some none) (e : es ++ [⟨.int .i64 k, v, c⟩] = es') : (Instr.mapUpdate tMp (.map (some r)) (.int .i64 k) v).run Tryz.prog W = .ok () { W with heap := W.heap.setIfInBounds r (.map es'.toArray (c + 1)) } := by
  subst e
  simp [Instr.mapUpdate, run_underlying und_mp, gm_run h, ck_run, fk_run hf, sm_run h]
theorem upd_run {W : World} {r : Nat} {bs : List Int} (h : W.heap[r]? = some (begM bs)) (x : Int) : (Instr.mapUpdate tMp (.map (some r)) (.int .i64 (Int.ofNat bs.length)) (.int .i64 x)).run Tryz.prog W = .ok () { W with heap := W.heap.setIfInBounds r (begM (bs ++ [x])) } := by
  rw [upd_aux (es' := begL 0 (bs ++ [x])) h (find_none .i64 bs.length bs 0 0 (by omega)) (by rw [begL_snoc]; simp)]
  unfold begM
  rw [List.length_append]
  rfl
end Go.Proofs.YtlpcnaeknbmjdaaGreat.Gn

namespace Go.Proofs.YtlpcnaeknbmjdaaGreat.Gn
set_option linter.unusedVariables false
set_option linter.unusedSimpArgs false
open Go Go.RowKit
open Go.Proofs.YtlpcnaeknbmjdaaGreat.Sy (Let Blk HasL)
open Lw (I insCells tI)
abbrev fLaid : FuncId := 35
noncomputable def bodyL : Code := Sy.loopBody Tryz.f35 0
noncomputable def bodyF : Code := Sy.loopBody Tryz.f35 1
noncomputable def upK (r : Nat) (bs : List Int) (x : Int) : Sy.OpK :=
  ⟨(do Instr.mapUpdate tMp (.map (some r)) (.int .i64 (Int.ofNat bs.length)) (.int .i64 x); pure .skip), True, ⟨⟨[], [(r, .obj (begM bs))], 0, []⟩, [(⟨fun _ => True, fun _ => [(r, .obj (begM (bs ++ [x])))], fun _ => []⟩, fun _ => none)]⟩⟩
noncomputable def tailB (b : Bool) (a : ActD) : List I := match b with
  | true => tailL a
  | false => tailI a
noncomputable def actBy (q : Rw) (w : Fw) (y : Nat) (a : ActD) (B : List (Nat × Sy.Cont)) (v tv mp : Value) (e : Int) (b : Bool) (X : List I) (fs : List Fl) (args : Array Value) : Sy.CallC :=
  ⟨fAct, args, ∃ iv ev fv, args = #[.pointer (some ⟨y, 0, none⟩), actV a iv ev fv] ∧ OkAct B B B a iv ev fv ∧ q.V v X ∧ w.V tv fs ∧ X.length + (preI a).length + 20 ≤ 2000000 ∧ fs.length ≤ 2000000,
    ⟨[], (y, layC (slV v) mp (slV tv) e b) :: (q.B v X ++ w.B y tv fs), 5, B⟩, [acO q w y mp e b X fs a (tailB b a)]⟩
noncomputable def ctxLa (q : Rw) (w : Fw) (y mb : Nat) (a : ActD) (B : List (Nat × Sy.Cont)) (v tv : Value) (b : Bool) (X : List I) (fs : List Fl) (bs : List Int) (R : List Blk) : Sy.Ctx :=
  Sy.mkU (Sy.mkS [] [] [(fLaid, 900000, fun _ _ => upK mb bs (Int.ofNat (Sy.lenS v)))]) [(fAct, fun args _ => (actBy q w y a B v tv (.map (some mb)) 0 b X fs args).toU [(y, layC (slV v) (.map (some mb)) (slV tv) 0 b)] (q.B v X ++ w.B y tv fs) R)] []
def slL (y p2 p5 : Nat) (av : Value) (k : Nat) : List (Nat × Value) := [(2, .pointer (some ⟨p2, 0, none⟩)), (4, .slice none 0 0), (5, .pointer (some ⟨p5, 0, none⟩)), (6, .pointer (some ⟨y, 0, none⟩)), (16, av), (17, .int .i64 (Int.ofNat (Sy.lenS av))), (18, .int .i64 (Int.ofNat k))]
def faultC (c l o : Int) : Sy.Cont := .obj (.cells #[.int .i64 c, .int .i64 l, .int .i64 o] 31 (0, 0))
def ll_o : Sy.O := (Sy.O.fork (Sy.O.pack 49 0x2308c220002010021000220340900008398a400003104010042000c21 (Sy.O.fork (Sy.O.pack 9 0x0 (Sy.O.fork (Sy.O.pack 39 0x800080606a500080e6004052000018820100000800000000 Sy.O.nil) (Sy.O.pack 3 0x0 (Sy.O.fork (Sy.O.pack 32 0x1000100c0d4a00101cc0080a4000031040200001 Sy.O.nil) Sy.O.nil)))) (Sy.O.pack 9 0x0 (Sy.O.fork (Sy.O.pack 32 0x1000100c0d4a00101cc0080a4000031040200001 Sy.O.nil) Sy.O.nil)))) Sy.O.nil)
noncomputable def ll_R (q : Rw) (w : Fw) (TL : List Blk) (R : List Blk) (y : Nat) (p2 : Nat) (p5 : Nat) (mb : Nat) (a : ActD) (B : List (Nat × Sy.Cont)) (av : Value) (v : Value) (tv : Value) (b : Bool) (X : List I) (fs : List Fl) (bs : List Int) (f : Nat → Value) (ns : Nat → Sy.Let) : Sy.Res (Exit × Nat × List Value × List Blk) :=
 let z0 := (List.length bs)
 let z1 := (Int.ofNat z0)
 let z2 := (Int.ofNat (Sy.lenS av))
 let z3 := (Sy.ptrS av)
 let z4 := (Sy.offS av + Int.toNat z1 * (11 : Nat))
 let z5 := (Sy.offS av + Int.toNat z1 * (11 : Nat) + (1 : Nat))
 let z6 := (Sy.offS av + Int.toNat z1 * (11 : Nat) + (1 : Nat) + (1 : Nat))
 let z7 := (Sy.offS av + Int.toNat z1 * (11 : Nat) + (1 : Nat) + (1 : Nat) + (1 : Nat))
 let z8 := (Sy.offS av + Int.toNat z1 * (11 : Nat) + (1 : Nat) + (1 : Nat) + (1 : Nat) + (1 : Nat))
 let z9 := (Sy.offS av + Int.toNat z1 * (11 : Nat) + (1 : Nat) + (1 : Nat) + (1 : Nat) + (1 : Nat) + (1 : Nat))
 let z10 := (Sy.offS av + Int.toNat z1 * (11 : Nat) + (1 : Nat) + (1 : Nat) + (1 : Nat) + (1 : Nat) + (1 : Nat) + (1 : Nat))
 let z11 := (Sy.offS av + Int.toNat z1 * (11 : Nat) + (1 : Nat) + (1 : Nat) + (1 : Nat) + (1 : Nat) + (1 : Nat) + (1 : Nat) + (1 : Nat))
 let z12 := (Sy.offS av + Int.toNat z1 * (11 : Nat) + (1 : Nat) + (1 : Nat) + (1 : Nat) + (1 : Nat) + (1 : Nat) + (1 : Nat) + (1 : Nat) + (1 : Nat))
 let z13 := (Sy.offS av + Int.toNat z1 * (11 : Nat) + (1 : Nat) + (1 : Nat) + (1 : Nat) + (1 : Nat) + (1 : Nat) + (1 : Nat) + (1 : Nat) + (1 : Nat) + (1 : Nat))
 let z14 := (Sy.offS av + Int.toNat z1 * (11 : Nat) + (1 : Nat) + (1 : Nat) + (1 : Nat) + (1 : Nat) + (1 : Nat) + (1 : Nat) + (1 : Nat) + (1 : Nat) + (1 : Nat) + (1 : Nat))
 let z15 := (some (Addr.mk y (0 : Nat) none))
 let z16 := [ns (12 : Nat), ns (13 : Nat), ns (14 : Nat), ns (15 : Nat), ns (16 : Nat)]
 let z17 := (letW z16 (0 : Nat))
 let z18 := (List.append X (preI a))
 let z19 := (List.append z18 (tailB b a))
 let z20 := (letW z16 (1 : Nat))
 let z21 := (List.append fs (brF a z16 z18))
 let z22 := (actE (0 : Int) a)
 let z23 := (Sy.lenS z17)
 let z24 := (some (Addr.mk p2 (0 : Nat) none))
 let z25 := (some (Addr.mk p5 (0 : Nat) none))
 let z26 := [Value.pointer z24, Value.slice none (0 : Nat) (0 : Nat), Value.pointer z25, Value.pointer z15, av, Value.int IntKind.i64 z2, Value.int IntKind.i64 z1]
 let z27 := (Sy.Cont.obj (Obj.cells (Array.mk [Value.slice (slP z17) z23 (slC z17), Value.map (some mb), Value.slice (slP z20) (Sy.lenS z20) (slC z20), Value.int IntKind.i64 z22, Value.bool b]) (132 : Nat)))
 let z28 := (faultC (0 : Int) (0 : Int) (0 : Int))
 Sy.Res.br (Ex.ltQ z1 z2) (Sy.Res.need ((∃ (n : Nat), ∃ (c : Nat), av = Value.slice (some (Addr.mk z3 (Sy.offS av) none)) n c) ∧ (0 : Int) ≤ Int.ofNat z0 ∧ Int.ofNat z0 < (↑(Sy.lenS av) : Int)) (Sy.Res.need (∃ (i : Int), HasL TL z3 z4 (Value.int IntKind.i64 i)) (Sy.Res.hyp (∀ (u : Value), HasL TL z3 z4 u → u = Value.int IntKind.i64 (Let.i (ns 0))) (Sy.Res.need (∃ (i : Int), HasL TL z3 z5 (Value.int IntKind.i64 i)) (Sy.Res.hyp (∀ (u : Value), HasL TL z3 z5 u → u = Value.int IntKind.i64 (Let.i (ns 1))) (Sy.Res.need (∃ (i : Int), HasL TL z3 z6 (Value.int IntKind.i64 i)) (Sy.Res.hyp (∀ (u : Value), HasL TL z3 z6 u → u = Value.int IntKind.i64 (Let.i (ns 2))) (Sy.Res.need (∃ (i : Int), HasL TL z3 z7 (Value.int IntKind.i64 i)) (Sy.Res.hyp (∀ (u : Value), HasL TL z3 z7 u → u = Value.int IntKind.i64 (Let.i (ns 3))) (Sy.Res.need (∃ (v : Value), HasL TL z3 z8 v) (Sy.Res.hyp (∀ (u : Value), HasL TL z3 z8 u → u = Let.v (ns 4)) (Sy.Res.need (∃ (v : Value), HasL TL z3 z9 v) (Sy.Res.hyp (∀ (u : Value), HasL TL z3 z9 u → u = Let.v (ns 5)) (Sy.Res.need (∃ (v : Value), HasL TL z3 z10 v) (Sy.Res.hyp (∀ (u : Value), HasL TL z3 z10 u → u = Let.v (ns 6)) (Sy.Res.need (∃ (i : Int), HasL TL z3 z11 (Value.int IntKind.i64 i)) (Sy.Res.hyp (∀ (u : Value), HasL TL z3 z11 u → u = Value.int IntKind.i64 (Let.i (ns 7))) (Sy.Res.need (∃ (i : Int), HasL TL z3 z12 (Value.int IntKind.i64 i)) (Sy.Res.hyp (∀ (u : Value), HasL TL z3 z12 u → u = Value.int IntKind.i64 (Let.i (ns 8))) (Sy.Res.need (∃ (i : Int), HasL TL
 z3 z13 (Value.int IntKind.i64 i)) (Sy.Res.hyp (∀ (u : Value), HasL TL z3 z13 u → u = Value.int IntKind.i64 (Let.i (ns 9))) (Sy.Res.need (∃ (i : Int), HasL TL z3 z14 (Value.int IntKind.i64 i)) (Sy.Res.hyp (∀ (u : Value), HasL TL z3 z14 u → u = Value.int IntKind.i64 (Let.i (ns 10))) (Sy.Res.need ((11 : Nat) = (11 : Nat) ∧ (11 : Nat) = (11 : Nat) ∧ Array.all (Array.mk [Value.int IntKind.i64 (Let.i (ns 0)), Value.int IntKind.i64 (Let.i (ns 1)), Value.int IntKind.i64 (Let.i (ns 2)), Value.int IntKind.i64 (Let.i (ns 3)), Let.v (ns 4), Let.v (ns 5), Let.v (ns 6), Value.int IntKind.i64 (Let.i (ns 7)), Value.int IntKind.i64 (Let.i (ns 8)), Value.int IntKind.i64 (Let.i (ns 9)), Value.int IntKind.i64 (Let.i (ns 10))]) (fun (x : Value) => Value.oneCell' x) (0 : Nat) (11 : Nat) = true) (Sy.Res.need True (Sy.Res.hyp True (Sy.Res.need (∃ (iv : Value), ∃ (ev : Value), ∃ (fv : Value), Array.mk [Value.pointer z15, Value.agg (Array.mk [Value.int IntKind.i64 (Let.i (ns 0)), Value.int IntKind.i64 (Let.i (ns 1)), Value.int IntKind.i64 (Let.i (ns 2)), Value.int IntKind.i64 (Let.i (ns 3)), Let.v (ns 4), Let.v (ns 5), Let.v (ns 6), Value.int IntKind.i64 (Let.i (ns 7)), Value.int IntKind.i64 (Let.i (ns 8)), Value.int IntKind.i64 (Let.i (ns 9)), Value.int IntKind.i64 (Let.i (ns 10))])] = Array.mk [Value.pointer z15, actV a iv ev fv] ∧ OkAct B B B a iv ev fv ∧ q.2 v X ∧ w.2 tv fs ∧ List.length X + List.length (preI a) + (20 : Nat) ≤ (2000000 : Nat) ∧ List.length fs ≤ (2000000 : Nat)) (Sy.Res.need
 (List.Perm TL (List.append (List.map (fun (p : Nat × Sy.Cont) => Blk.mk (Prod.fst p) (Prod.snd p) true) (List.append (q.1 v X) (w.1 y tv fs))) R)) (Sy.Res.need (Sy.GotL R B) (Sy.Res.hyp (q.2 z17 z19 ∧ w.2 z20 z21) (Sy.Res.br (Ex.eqQ z22 (0 : Int)) (Sy.Res.br (bif true then Ex.ltQ (16383 : Int) (Int.ofNat z23) else false) (Sy.Res.leaf (Exit.ret, (100 : Nat), z26, Blk.mk y (Sy.Cont.obj (Obj.cells (Array.mk [Value.slice (slP z17) z23 (slC z17), Value.map (some mb), Value.slice (slP z20) (Sy.lenS z20) (slC z20), Value.int IntKind.i64 (31 : Int), Value.bool b]) (132 : Nat))) true :: Blk.mk mb (Sy.Cont.obj (begM (List.append bs [Int.ofNat (Sy.lenS v)]))) true :: Blk.mk (Let.n (ns 11)) (Sy.Cont.obj (Obj.cells (Array.mk [Value.int IntKind.i64 (Let.i (ns 0)), Value.int IntKind.i64 (Let.i (ns 1)), Value.int IntKind.i64 (Let.i (ns 2)), Value.int IntKind.i64 (Let.i (ns 3)), Let.v (ns 4), Let.v (ns 5), Let.v (ns 6), Value.int IntKind.i64 (Let.i (ns 7)), Value.int IntKind.i64 (Let.i (ns 8)), Value.int IntKind.i64 (Let.i (ns 9)), Value.int IntKind.i64 (Let.i (ns 10))]) (46 : Nat))) true :: Blk.mk p5 (Sy.Cont.obj (Obj.cells (Array.mk [Value.int IntKind.i64 (31 : Int), Value.int IntKind.i64 (Let.i (ns 9)), Value.int IntKind.i64 (Let.i (ns 10))]) (31 : Nat))) true :: List.append R (List.map (fun (p : Nat × Sy.Cont) => Blk.mk (Prod.fst p) (Prod.snd p) true) (List.append (q.1 z17 z19) (w.1 y z20 z21))))) (Sy.Res.br (!Ex.eqQ z22 (0 : Int)) (Sy.Res.leaf (Exit.ret, (100 : Nat), z26, Blk.mk y z27
 true :: Blk.mk mb (Sy.Cont.obj (begM (List.append bs [Int.ofNat (Sy.lenS v)]))) true :: Blk.mk (Let.n (ns 11)) (Sy.Cont.obj (Obj.cells (Array.mk [Value.int IntKind.i64 (Let.i (ns 0)), Value.int IntKind.i64 (Let.i (ns 1)), Value.int IntKind.i64 (Let.i (ns 2)), Value.int IntKind.i64 (Let.i (ns 3)), Let.v (ns 4), Let.v (ns 5), Let.v (ns 6), Value.int IntKind.i64 (Let.i (ns 7)), Value.int IntKind.i64 (Let.i (ns 8)), Value.int IntKind.i64 (Let.i (ns 9)), Value.int IntKind.i64 (Let.i (ns 10))]) (46 : Nat))) true :: Blk.mk p5 (Sy.Cont.obj (Obj.cells (Array.mk [Value.int IntKind.i64 z22, Value.int IntKind.i64 (Let.i (ns 9)), Value.int IntKind.i64 (Let.i (ns 10))]) (31 : Nat))) true :: List.append R (List.map (fun (p : Nat × Sy.Cont) => Blk.mk (Prod.fst p) (Prod.snd p) true) (List.append (q.1 z17 z19) (w.1 y z20 z21))))) (Sy.Res.leaf (Exit.normal, (100 : Nat), [Value.pointer z24, Value.slice none (0 : Nat) (0 : Nat), Value.pointer z25, Value.pointer z15, av, Value.int IntKind.i64 z2, Value.int IntKind.i64 (Ex.wrapQ IntKind.i64 (Ex.addQ z1 (1 : Int)))], Blk.mk y z27 true :: Blk.mk mb (Sy.Cont.obj (begM (List.append bs [Int.ofNat (Sy.lenS v)]))) true :: Blk.mk (Let.n (ns 11)) (Sy.Cont.obj (Obj.cells (Array.mk [Value.int IntKind.i64 (Let.i (ns 0)), Value.int IntKind.i64 (Let.i (ns 1)), Value.int IntKind.i64 (Let.i (ns 2)), Value.int IntKind.i64 (Let.i (ns 3)), Let.v (ns 4), Let.v (ns 5), Let.v (ns 6), Value.int IntKind.i64 (Let.i (ns 7)), Value.int IntKind.i64 (Let.i (ns 8)), Value.int
 IntKind.i64 (Let.i (ns 9)), Value.int IntKind.i64 (Let.i (ns 10))]) (46 : Nat))) true :: Blk.mk p5 z28 true :: List.append R (List.map (fun (p : Nat × Sy.Cont) => Blk.mk (Prod.fst p) (Prod.snd p) true) (List.append (q.1 z17 z19) (w.1 y z20 z21))))))) (Sy.Res.br (!Ex.eqQ z22 (0 : Int)) (Sy.Res.leaf (Exit.ret, (100 : Nat), z26, Blk.mk y z27 true :: Blk.mk mb (Sy.Cont.obj (begM (List.append bs [Int.ofNat (Sy.lenS v)]))) true :: Blk.mk (Let.n (ns 11)) (Sy.Cont.obj (Obj.cells (Array.mk [Value.int IntKind.i64 (Let.i (ns 0)), Value.int IntKind.i64 (Let.i (ns 1)), Value.int IntKind.i64 (Let.i (ns 2)), Value.int IntKind.i64 (Let.i (ns 3)), Let.v (ns 4), Let.v (ns 5), Let.v (ns 6), Value.int IntKind.i64 (Let.i (ns 7)), Value.int IntKind.i64 (Let.i (ns 8)), Value.int IntKind.i64 (Let.i (ns 9)), Value.int IntKind.i64 (Let.i (ns 10))]) (46 : Nat))) true :: Blk.mk p5 (Sy.Cont.obj (Obj.cells (Array.mk [Value.int IntKind.i64 z22, Value.int IntKind.i64 (Let.i (ns 9)), Value.int IntKind.i64 (Let.i (ns 10))]) (31 : Nat))) true :: List.append R (List.map (fun (p : Nat × Sy.Cont) => Blk.mk (Prod.fst p) (Prod.snd p) true) (List.append (q.1 z17 z19) (w.1 y z20 z21))))) (Sy.Res.leaf (Exit.normal, (100 : Nat), [Value.pointer z24, Value.slice none (0 : Nat) (0 : Nat), Value.pointer z25, Value.pointer z15, av, Value.int IntKind.i64 z2, Value.int IntKind.i64 (Ex.wrapQ IntKind.i64 (Ex.addQ z1 (1 : Int)))], Blk.mk y z27 true :: Blk.mk mb (Sy.Cont.obj (begM (List.append bs [Int.ofNat (Sy.lenS v)]))) true ::
 Blk.mk (Let.n (ns 11)) (Sy.Cont.obj (Obj.cells (Array.mk [Value.int IntKind.i64 (Let.i (ns 0)), Value.int IntKind.i64 (Let.i (ns 1)), Value.int IntKind.i64 (Let.i (ns 2)), Value.int IntKind.i64 (Let.i (ns 3)), Let.v (ns 4), Let.v (ns 5), Let.v (ns 6), Value.int IntKind.i64 (Let.i (ns 7)), Value.int IntKind.i64 (Let.i (ns 8)), Value.int IntKind.i64 (Let.i (ns 9)), Value.int IntKind.i64 (Let.i (ns 10))]) (46 : Nat))) true :: Blk.mk p5 z28 true :: List.append R (List.map (fun (p : Nat × Sy.Cont) => Blk.mk (Prod.fst p) (Prod.snd p) true) (List.append (q.1 z17 z19) (w.1 y z20 z21))))))))))))))))))))))))))))))))))))) (Sy.Res.leaf (Exit.exit (0 : Nat), (100 : Nat), z26, Blk.mk y (layC (Value.slice (slP v) (Sy.lenS v) (slC v)) (Value.map (some mb)) (Value.slice (slP tv) (Sy.lenS tv) (slC tv)) (0 : Int) b) true :: Blk.mk mb (Sy.Cont.obj (begM bs)) true :: Blk.mk p5 z28 true :: TL))
theorem ll_run (q : Rw) (w : Fw) (TL R : List Blk) (y p2 p5 mb : Nat) (a : ActD) (B : List (Nat × Sy.Cont)) (av v tv : Value) (b : Bool) (X : List I) (fs : List Fl) (bs : List Int) (f : Nat → Value) : Sy.Ran (Sy.pieceT Tryz.prog (ctxLa q w y mb a B v tv b X fs bs R) 50 fLaid bodyL 100 (slL y p2 p5 av bs.length) ((List.range 100).map f) (⟨y, layC (slV v) (.map (some mb)) (slV tv) 0 b, true⟩ :: ⟨mb, .obj (begM bs), true⟩ :: ⟨p5, faultC 0 0 0, true⟩ :: TL) [2, 4, 5, 6, 16, 17, 18]) ll_o (ll_R q w TL R y p2 p5 mb a B av v tv b X fs bs f) := ⟨fun ns => by kernel_rfl, fun ns => by kernel_rfl⟩
end Go.Proofs.YtlpcnaeknbmjdaaGreat.Gn

namespace Go.Proofs.YtlpcnaeknbmjdaaGreat.Gn
open Go Go.RowKit
open Go.Proofs.YtlpcnaeknbmjdaaGreat.Sy (Let Blk HasL)
open Lw (I insCells tI)
theorem upK_met (r : Nat) (bs : List Int) (x : Int) : (upK r bs x).meets Tryz.prog := fun _ W hpre => by
  have hat : W.heap[r]? = some (begM bs) := hpre.use (r, .obj (begM bs)) (List.mem_singleton_self _)
  have hlt : r < W.heap.size := (Array.getElem?_eq_some_iff.1 hat).1
  refine ⟨_, List.mem_singleton_self _, [], { W with heap := W.heap.setIfInBounds r (begM (bs ++ [x])) }, ?_, ?_⟩
  · show (do Instr.mapUpdate tMp (.map (some r)) (.int .i64 (Int.ofNat bs.length)) (.int .i64 x); pure Next.skip : Sem Next).run _ W = _
    simp only [Sem.run_bind, upd_run hat x]
    rfl
  · refine ⟨rfl, trivial, rfl, rfl, rfl, by simp, fun k hk hu => ?_, fun p hp => ?_, by simp, fun p hp => (by cases hp), by simp, fun p hp q hq => (by cases hq)⟩
    · have : r ≠ k := hu (r, .obj (begM bs)) (List.mem_singleton_self _)
      simp only [Array.getElem?_setIfInBounds]
      rw [if_neg this]
    · rcases List.mem_singleton.1 hp with rfl
      refine ⟨.inr ⟨_, List.mem_singleton_self _, rfl⟩, ?_⟩
      show (W.heap.setIfInBounds r _)[r]? = some _
      simp [hlt]
theorem actBy_met (y : Nat) (a : ActD) (B : List (Nat × Sy.Cont)) (v tv mp : Value) (e : Int) (b : Bool) (X : List I) (fs : List Fl) (args : Array Value) : Sy.Meets Tryz.prog (actBy rowQ fillQ y a B v tv mp e b X fs args) := by
  rintro ⟨iv, ev, fv, rfl, hA, h⟩ W hpre
  have hm : Sy.Meets Tryz.prog (actC rowQ fillQ y a iv ev fv B B B v tv mp e b X fs (tailB b a)) := by
    cases b
    · exact act_met _ _ _ _ _ _ _ _ _ _ _ _ _ _
    · exact actL_met _ _ _ _ _ _ _ _ _ _ _ _ _ _
  refine Calls.mono (hm ⟨hA, h⟩ W ⟨hpre.rd, hpre.use, hpre.nodup, hpre.apart, fun p hp => ?_, fun p hp q hq => ?_⟩) ?_
  · simp only [actC, List.mem_append, or_self] at hp
    exact hpre.rb p hp
  · simp only [actC, List.mem_append, or_self] at hp
    exact hpre.apartB p hp q hq
  · rintro en W' ⟨o, ho, ns, he, h⟩
    exact ⟨o, ho, ns, he, ⟨h.len, h.hyp, h.os, h.tape, h.output, h.size, h.old, h.nw, h.nodup, h.nb, h.nodupB, h.apartB⟩⟩
theorem ctxLa_holds (y mb : Nat) (a : ActD) (B : List (Nat × Sy.Cont)) (v tv : Value) (b : Bool) (X : List I) (fs : List Fl) (bs : List Int) (R : List Blk) : (ctxLa rowQ fillQ y mb a B v tv b X fs bs R).holds Tryz.prog := Sy.mkU_holds (Sy.mkS_holds (fun _ h => (by cases h)) (fun _ h => (by cases h)) (fun p hp a L => by
  rcases List.mem_singleton.1 hp with rfl
  exact upK_met _ _ _)) (fun p hp args L => by
  rcases List.mem_singleton.1 hp with rfl
  exact actBy_met _ _ _ _ _ _ _ _ _ _ _) (fun _ h => (by cases h))
end Go.Proofs.YtlpcnaeknbmjdaaGreat.Gn

namespace Go.Proofs.YtlpcnaeknbmjdaaGreat.Gn
open Go Go.RowKit
open Go.Proofs.YtlpcnaeknbmjdaaGreat.Sy (Let Blk HasL)
open Lw (I insCells tI)
noncomputable def insA (b : Bool) (a : ActD) : List I := preI a ++ tailB b a
noncomputable def layL (b : Bool) : List ActD → List I
  | [] => []
  | a :: r => insA b a ++ layL b r
noncomputable def begF (b : Bool) : Nat → List ActD → List Int
  | _, [] => []
  | n, a :: r => Int.ofNat n :: begF b (n + (insA b a).length) r
noncomputable def posA (n : Nat) (a : ActD) : List (Int × Int) := if a.op = 9 ∨ a.op = 10 then [(a.to, Int.ofNat (n + (preI a).length))] else []
noncomputable def posF (b : Bool) : Nat → List ActD → List (Int × Int)
  | _, [] => []
  | n, a :: r => posA n a ++ posF b (n + (insA b a).length) r
noncomputable def faultF (b : Bool) : Nat → List ActD → Option (Int × Int × Int)
  | _, [] => none
  | n, a :: r => if actE 0 a ≠ 0 then some (actE 0 a, a.line, a.col) else if 16383 < n + (insA b a).length then some (31, a.line, a.col) else faultF b (n + (insA b a).length) r
def nameV (n : Nat) : Value := .map (some n)
def nameN (v : Value) : Nat := match v with
  | .map (some n) => n
  | _ => 0
def mkFs : List Value → List (Int × Int) → List Fl
  | x :: y :: z :: r, p :: q => ⟨nameN x, nameN y, nameN z, p.1, p.2⟩ :: mkFs r q
  | _, _ => []
def namesF : List Fl → List Value
  | [] => []
  | f :: r => nameV f.yb :: nameV f.tb :: nameV f.ab :: namesF r
def posOf (f : Fl) : Int × Int := (f.to, f.at')
theorem mkFs_of (fs : List Fl) : mkFs (namesF fs) (fs.map posOf) = fs := by
  induction fs with
  | nil => rfl
  | cons f r ih =>
    show _ :: mkFs (namesF r) (r.map posOf) = _
    rw [ih]
    rfl
def letL (ns : List Let) (i : Nat) : List Value := (ns.getD i Let.none).l
structure OkL (B : List (Nat × Sy.Cont)) (av : Value) (acts : List ActD) : Prop where
  at_ : ActsR B av acts
  ok : ∀ (i : Nat) (a : ActD), acts[i]? = some a → ∀ iv ev fv, OkX B iv a.ix → OkX B ev a.e → OkX B fv a.f → OkAct B B B a iv ev fv
  len : ∀ (i : Nat) (a : ActD), acts[i]? = some a → (preI a).length ≤ 1900000
noncomputable def fltV (b : Bool) (acts : List ActD) : Int × Int × Int := (faultF b 0 acts).getD (0, 0, 0)
noncomputable def fsL (b : Bool) (acts : List ActD) (ns : List Let) : List Fl := mkFs (letL ns 2) (posF b 0 acts)
noncomputable def laidC (y p2 p5 mb : Nat) (av : Value) (b : Bool) (acts : List ActD) (B : List (Nat × Sy.Cont)) : Sy.LoopC :=
  ⟨.loop bodyL, 100, slL y p2 p5 av 0, OkL B av acts, ⟨[], [(y, layC (.slice none 0 0) (.map (some mb)) (.slice none 0 0) 0 b), (mb, .obj (begM [])), (p5, faultC 0 0 0)], 3, B⟩,
    [(⟨fun _ => faultF b 0 acts ≠ none, fun _ => [(p5, faultC (fltV b acts).1 (fltV b acts).2.1 (fltV b acts).2.2)], fun _ => []⟩, .ret, fun _ => [(4, .slice none 0 0), (5, .pointer (some ⟨p5, 0, none⟩))]),
     (⟨fun ns => faultF b 0 acts = none ∧ RowV (letW ns 0) (layL b acts) ∧ FillV (letW ns 1) (fsL b acts ns) ∧ (fsL b acts ns).map posOf = posF b 0 acts ∧ (layL b acts).length ≤ 16383,
       fun ns => [(y, layC (slV (letW ns 0)) (.map (some mb)) (slV (letW ns 1)) 0 b), (mb, .obj (begM (begF b 0 acts))), (p5, faultC 0 0 0)],
       fun ns => rowB (letW ns 0) (layL b acts) ++ fillB y (letW ns 1) (fsL b acts ns)⟩, .exit 0, fun _ => [(2, .pointer (some ⟨p2, 0, none⟩)), (5, .pointer (some ⟨p5, 0, none⟩)), (6, .pointer (some ⟨y, 0, none⟩))])]⟩
structure StL where
  a : ActD
  v : Value
  tv : Value
  X : List I
  fs : List Fl
  bs : List Int
structure OkS (b : Bool) (B : List (Nat × Sy.Cont)) (av : Value) (acts : List ActD) (s : StL) : Prop where
  L : OkL B av acts
  k : s.bs.length ≤ acts.length
  X : layL b acts = s.X ++ layL b (acts.drop s.bs.length)
  bs : begF b 0 acts = s.bs ++ begF b s.X.length (acts.drop s.bs.length)
  fs : posF b 0 acts = s.fs.map posOf ++ posF b s.X.length (acts.drop s.bs.length)
  flt : faultF b 0 acts = faultF b s.X.length (acts.drop s.bs.length)
  V : RowV s.v s.X
  W : FillV s.tv s.fs
  n : s.X.length ≤ 16383
  m : s.fs.length ≤ s.X.length
  a : ∀ a, acts[s.bs.length]? = some a → s.a = a
noncomputable def memL (y p5 mb : Nat) (b : Bool) (B : List (Nat × Sy.Cont)) (s : StL) : List Blk :=
  ⟨y, layC (slV s.v) (.map (some mb)) (slV s.tv) 0 b, true⟩ :: ⟨mb, .obj (begM s.bs), true⟩ :: ⟨p5, faultC 0 0 0, true⟩ :: ((rowB s.v s.X ++ fillB y s.tv s.fs).map Sy.ownOf ++ rdOf B)
theorem drop_cons {acts : List ActD} {k : Nat} {a : ActD} (h : acts[k]? = some a) : acts.drop k = a :: acts.drop (k + 1) := by
  have hlt := (List.getElem?_eq_some_iff.1 h).1
  rw [List.drop_eq_getElem_cons hlt, (List.getElem?_eq_some_iff.1 h).2]
theorem laidC_met (y p2 p5 mb : Nat) (av : Value) (b : Bool) (acts : List ActD) (B : List (Nat × Sy.Cont)) : Sy.MeetsL Tryz.prog (laidC y p2 p5 mb av b acts B) := by
  refine Sy.loop_ofB (σ := StL) (S := fun s => ctxLa rowQ fillQ y mb s.a B s.v s.tv b s.X s.fs s.bs (rdOf B)) (n := 50) (fn := fLaid) (fun _ => ctxLa_holds _ _ _ _ _ _ _ _ _ _ _) mixed (body := bodyL) rfl [2, 4, 5, 6, 16, 17, 18] (fun s => slL y p2 p5 av s.bs.length)
    (fun s => memL y p5 mb b B s) (fun s => OkS b B av acts s) (fun s => acts.length - s.bs.length)
    ⟨acts.headD ⟨0, 0, 0, 0, [], [], [], 0, 0, 0, 0⟩, .slice none 0 0, .slice none 0 0, [], [], []⟩ (fun h => ⟨h, Nat.zero_le _, rfl, rfl, rfl, rfl, rowV_nil, fillV_nil, by simp, by simp, fun a ha => by cases acts <;> simp_all⟩) (fun p hp => hp) (Sy.Ent.refl _) (o := fun _ => ll_o)
    (R := fun s f => ll_R rowQ fillQ ((rowB s.v s.X ++ fillB y s.tv s.fs).map Sy.ownOf ++ rdOf B) (rdOf B) y p2 p5 mb s.a B av s.v s.tv b s.X s.fs s.bs f) (fun s f _ => ll_run rowQ fillQ _ (rdOf B) y p2 p5 mb s.a B av s.v s.tv b s.X s.fs s.bs f) ?_
  rintro - ⟨a, v, tv, X, fs, bs⟩ f hs ns
  obtain ⟨hL, hk, hX, hbs, hfs, hflt, hV, hW, hn, hm, ha⟩ := hs
  simp only at hk hX hbs hfs hflt hV hW hn hm ha
  have hR := hL.at_
  simp only [ll_R, Sy.Res.holds]
  refine ⟨fun hlt => ?_, fun hge => ?_⟩
  · have hlt : bs.length < acts.length := by rw [Ex.ltQ_eq, hR.len] at hlt; simpa using hlt
    obtain ⟨a', hg⟩ : ∃ n, acts[bs.length]? = some n := ⟨_, List.getElem?_eq_getElem hlt⟩
    obtain rfl : a = a' := ha a' hg
    obtain ⟨iv, ev, fv, hA⟩ := hR.act bs.length a hg
    have hd := drop_cons hg
    rw [hd] at hX hbs hfs hflt
    simp only [layL, begF, posF, faultF] at hX hbs hfs hflt
    have hl20 := hL.len _ _ hg
    have up : ∀ {x : Nat} {u : Value}, HasL (rdOf B) (Sy.ptrS av) x u → HasL ((rowB v X ++ fillB y tv fs).map Sy.ownOf ++ rdOf B) (Sy.ptrS av) x u := fun ⟨p, hp, h⟩ => ⟨p, List.mem_append_right _ hp, h⟩
    refine ⟨⟨hR.at_ (fun h => by rw [h] at hlt; simp at hlt), by simp, by rw [hR.len]; simpa using hlt⟩, ⟨_, up hA.op⟩, fun e0 => ⟨⟨_, up hA.dst⟩, fun e1 => ⟨⟨_, up hA.base⟩, fun e2 => ⟨⟨_, up hA.size⟩, fun e3 => ⟨⟨_, up hA.ivc⟩, fun e4 => ⟨⟨_, up hA.evc⟩, fun e5 => ⟨⟨_, up hA.fvc⟩, fun e6 => ⟨⟨_, up hA.mode⟩, fun e7 => ⟨⟨_, up hA.to⟩, fun e8 => ⟨⟨_, up hA.line⟩, fun e9 => ⟨⟨_, up hA.col⟩, fun e10 => ?_⟩⟩⟩⟩⟩⟩⟩⟩⟩⟩⟩
    have e0 := e0 _ (up hA.op)
    have e1 := e1 _ (up hA.dst)
    have e2 := e2 _ (up hA.base)
    have e3 := e3 _ (up hA.size)
    have e4 := e4 _ (up hA.ivc)
    have e5 := e5 _ (up hA.evc)
    have e6 := e6 _ (up hA.fvc)
    have e7 := e7 _ (up hA.mode)
    have e8 := e8 _ (up hA.to)
    have e9 := e9 _ (up hA.line)
    have e10 := e10 _ (up hA.col)
    simp only [Value.int.injEq, true_and] at e0 e1 e2 e3 e7 e8 e9 e10
    rw [← e0, ← e1, ← e2, ← e3, ← e4, ← e5, ← e6, ← e7, ← e8, ← e9, ← e10]
    refine ⟨⟨trivial, trivial, ?_⟩, trivial, fun _ => ⟨⟨iv, ev, fv, rfl, hL.ok _ _ hg iv ev fv hA.i hA.e hA.f, hV, hW, by omega, by omega⟩, List.Perm.refl _, gotL_of (fun p hp => hp), fun hk2 => ?_⟩⟩
    · obtain ⟨_, _, _, h1⟩ := hA.i.1.sl
      obtain ⟨_, _, _, h2⟩ := hA.e.1.sl
      obtain ⟨_, _, _, h3⟩ := hA.f.1.sl
      simp [h1, h2, h3, Value.oneCell']
    · obtain ⟨kV, kW⟩ := hk2
      have hlen : (X ++ preI a ++ tailB b a).length = X.length + (insA b a).length := by simp [insA]
      have hlv : Sy.lenS (letW [ns 12, ns 13, ns 14, ns 15, ns 16] 0) = X.length + (insA b a).length := by
        rw [RowV.len kV]
        exact hlen
      have hz : ∀ x : Int, Ex.eqQ x 0 = true ↔ x = 0 := fun x => by rw [Ex.eqQ_eq]; simp
      have hbig : ∀ n : Nat, Ex.ltQ 16383 (Int.ofNat n) = true ↔ 16383 < n := fun n => by rw [Ex.ltQ_eq]; simp; omega
      refine ⟨fun h0 => ?_, fun h0 => ?_⟩
      · have h0 := (hz _).1 h0
        rw [if_neg (by simp [h0])] at hflt
        refine ⟨fun hB => ?_, fun hB => ⟨fun hN => ?_, fun _ => ?_⟩⟩
        · simp only [cond_true] at hB
          rw [hlv] at hB
          rw [if_pos ((hbig _).1 hB)] at hflt
          have hf : fltV b acts = (31, a.line, a.col) := by rw [fltV, hflt]; rfl
          refine ⟨rfl, .inr ⟨by simp, _, List.mem_cons_self, rfl, [Let.none, Let.none, Let.none], rfl, ⟨[1, 2], rfl⟩, ?_, by rw [hflt]; simp⟩⟩
          show Sy.Ent _ [⟨p5, faultC (fltV b acts).1 (fltV b acts).2.1 (fltV b acts).2.2, true⟩]
          rw [hf]
          exact Sy.Ent.sub (.cons _ (.cons _ (.cons _ (.cons_cons _ (List.nil_sublist _)))))
        · rw [h0] at hN
          exact absurd hN (by rw [Ex.eqQ_eq]; simp)
        · simp only [cond_true] at hB
          rw [hlv] at hB
          have hB : ¬ 16383 < X.length + (insA b a).length := fun h => by
            rw [(hbig _).2 h] at hB
            cases hB
          rw [if_neg hB] at hflt
          have hbl : (bs ++ [Int.ofNat (Sy.lenS v)]).length = bs.length + 1 := by simp
          refine ⟨rfl, .inl ⟨rfl, ⟨acts.getD (bs.length + 1) a, letW [ns 12, ns 13, ns 14, ns 15, ns 16] 0, letW [ns 12, ns 13, ns 14, ns 15, ns 16] 1, X ++ preI a ++ tailB b a, fs ++ brF a [ns 12, ns 13, ns 14, ns 15, ns 16] (X ++ preI a), bs ++ [Int.ofNat (Sy.lenS v)]⟩, ?_, ?_, ?_, ?_⟩⟩
          · refine ⟨hL, by rw [hbl]; exact hlt, ?_, ?_, ?_, ?_, kV, kW, ?_, ?_, fun x hx => ?_⟩
            · rw [hbl, hX]
              simp [insA]
            · rw [hbl, hbs, hlen, hV.len]
              simp
            · rw [hbl, hfs, hlen, List.map_append]
              have : (brF a [ns 12, ns 13, ns 14, ns 15, ns 16] (X ++ preI a)).map posOf = posA X.length a := by
                unfold brF posA
                split
                · simp [posOf, newF]
                · rfl
              rw [this, List.append_assoc]
            · rw [hbl, hflt, hlen]
            · show (X ++ preI a ++ tailB b a).length ≤ 16383
              omega
            · show (fs ++ brF a _ (X ++ preI a)).length ≤ (X ++ preI a ++ tailB b a).length
              have : (brF a [ns 12, ns 13, ns 14, ns 15, ns 16] (X ++ preI a)).length ≤ (tailB b a).length := by
                unfold brF
                split
                · rename_i hop
                  rcases hop with hop | hop <;> cases b <;> simp [tailB, tailL, tailI, hop]
                · simp
              simp only [List.length_append] at this ⊢
              omega
            · show acts.getD (bs.length + 1) a = x
              rw [List.getD_eq_getElem?_getD]
              simp only [hbl] at hx
              rw [hx]
              rfl
          · show acts.length - (bs ++ [_]).length < acts.length - bs.length
            rw [hbl]
            omega
          · show _ = slL y p2 p5 av (bs ++ [_]).length
            rw [hbl, w_succ (by have := hR.lt; omega)]
            rfl
          · show Sy.Ent _ (memL y p5 mb b B _)
            unfold memL
            rw [h0]
            refine Sy.Ent.trans (Sy.Ent.sub (.cons_cons _ (.cons_cons _ (.cons _ (.cons_cons _ (.refl _)))))) (Sy.Ent.perm (.cons _ (.cons _ (.cons _ ?_))))
            exact List.perm_append_comm
      · have h0 : actE 0 a ≠ 0 := fun h => by
          rw [(hz _).2 h] at h0
          cases h0
        rw [if_pos h0] at hflt
        refine ⟨fun _ => ?_, fun hN => ?_⟩
        · have hf : fltV b acts = (actE 0 a, a.line, a.col) := by rw [fltV, hflt]; rfl
          refine ⟨rfl, .inr ⟨by simp, _, List.mem_cons_self, rfl, [Let.none, Let.none, Let.none], rfl, ⟨[1, 2], rfl⟩, ?_, by rw [hflt]; simp⟩⟩
          show Sy.Ent _ [⟨p5, faultC (fltV b acts).1 (fltV b acts).2.1 (fltV b acts).2.2, true⟩]
          rw [hf]
          exact Sy.Ent.sub (.cons _ (.cons _ (.cons _ (.cons_cons _ (List.nil_sublist _)))))
        · have : Ex.eqQ (actE 0 a) 0 = true := by simpa using hN
          exact absurd ((hz _).1 this) h0
  · have hge : bs.length = acts.length := by rw [Ex.ltQ_eq, hR.len] at hge; simp at hge; omega
    rw [hge, List.drop_length] at hX hbs hfs hflt
    simp only [layL, begF, posF, faultF, List.append_nil] at hX hbs hfs hflt
    have hfl : fsL b acts [letV v, letV tv, ⟨0, 0, false, undef, namesF fs⟩] = fs := by
      show mkFs (namesF fs) (posF b 0 acts) = fs
      rw [hfs]
      exact mkFs_of fs
    refine ⟨rfl, .inr ⟨by simp, _, List.mem_cons_of_mem _ (List.mem_singleton_self _), rfl, [letV v, letV tv, ⟨0, 0, false, undef, namesF fs⟩], rfl, ⟨[0, 2, 3], rfl⟩, ?_, ?_⟩⟩
    · show Sy.Ent _ (([(y, layC (slV v) (.map (some mb)) (slV tv) 0 b), (mb, .obj (begM (begF b 0 acts))), (p5, faultC 0 0 0)] ++ (rowB v (layL b acts) ++ fillB y tv (fsL b acts [letV v, letV tv, ⟨0, 0, false, undef, namesF fs⟩]))).map Sy.ownOf)
      rw [hfl, hX, hbs]
      exact Sy.Ent.sub (.cons_cons _ (.cons_cons _ (.cons_cons _ (List.sublist_append_left _ _))))
    · refine ⟨hflt, ?_, ?_, ?_, ?_⟩
      · rw [hX]
        exact hV
      · rw [hfl]
        exact hW
      · rw [hfl, hfs]
      · rw [hX]
        exact hn
end Go.Proofs.YtlpcnaeknbmjdaaGreat.Gn

namespace Go.Proofs.YtlpcnaeknbmjdaaGreat.Gn
set_option linter.unusedVariables false
set_option linter.unusedSimpArgs false
open Go Go.RowKit
open Go.Proofs.YtlpcnaeknbmjdaaGreat.Sy (Let Blk HasL)
open Lw (I insCells tI)
theorem lk_aux {W : World} {r : Nat} {es : List MapEntry} {c i : Nat} {k : Int} {v : Value} (h : W.heap[r]? = some (.map es.toArray c)) (hf : Instr.findNow (.int .i64) (.int .i64 k) es 0 = some (some (i, v))) : (Instr.lookup tMp (.map (some r)) (.int .i64 k) false).run Tryz.prog W = .ok v W := by
  simp [Instr.lookup, run_underlying und_mp, gm_run h, ck_run, fk_run hf]
theorem lk_run {W : World} {r : Nat} {bs : List Int} (h : W.heap[r]? = some (begM bs)) {n : Nat} {x : Int} (hx : bs[n]? = some x) : (Instr.lookup tMp (.map (some r)) (.int .i64 (Int.ofNat n)) false).run Tryz.prog W = .ok (.int .i64 x) W := by
  have := find_some .i64 n x bs 0 0 hx
  rw [Nat.zero_add] at this
  exact lk_aux h this
noncomputable def lkK (r : Nat) (bs : List Int) (n : Nat) (x : Int) : Sy.OpK :=
  ⟨Sy.opV (Instr.lookup tMp (.map (some r)) (.int .i64 (Int.ofNat n)) false), bs[n]? = some x, ⟨⟨[(r, .obj (begM bs))], [], 0, []⟩, [(⟨fun _ => True, fun _ => [], fun _ => []⟩, fun _ => some (.int .i64 x))]⟩⟩
theorem lkK_met (r : Nat) (bs : List Int) (n : Nat) (x : Int) : (lkK r bs n x).meets Tryz.prog := fun hx W hpre => by
  have hat : W.heap[r]? = some (begM bs) := hpre.rd (r, .obj (begM bs)) (List.mem_singleton_self _)
  refine ⟨_, List.mem_singleton_self _, [], W, Sy.opV_run (lk_run hat hx), ⟨rfl, trivial, rfl, rfl, rfl, Nat.le_refl _, fun k hk hu => rfl, fun p hp => (by cases hp), by simp, fun p hp => (by cases hp), by simp, fun p hp q hq => (by cases hq)⟩⟩
noncomputable def ctxFi (mb : Nat) (bs : List Int) (n : Nat) (x : Int) : Sy.Ctx := Sy.mkS [] [] [(fFill, 13, fun _ _ => lkK mb bs n x)]
theorem ctxFi_holds (mb : Nat) (bs : List Int) (n : Nat) (x : Int) : (ctxFi mb bs n x).holds Tryz.prog := Sy.mkS_holds (fun _ h => (by cases h)) (fun _ h => (by cases h)) (fun p hp a L => by
  rcases List.mem_singleton.1 hp with rfl
  exact lkK_met _ _ _ _)
def fi_o : Sy.O := (Sy.O.pack 32 0x900405802049cc0000a010082080000080100001 (Sy.O.fork (Sy.O.pack 43 0xc41004202c9c1035831040100000202420800100c121040008060 Sy.O.nil) (Sy.O.pack 9 0x121040008060 (Sy.O.fork (Sy.O.pack 34 0x62080210164e081ac1882008000010121040008060 Sy.O.nil) (Sy.O.pack 34 0x62080210164e081a3104010101260c410040000080 Sy.O.nil)))))
noncomputable def fi_R (y : Nat) (yb : Nat) (tb : Nat) (ab : Nat) (mb : Nat) (g : Nat) (cap : Nat) (len : Nat) (at' : Nat) (to : Nat) (tv : Value) (b : Bool) (bs : List Int) (x : Int) (xs : List Value) (ns : Nat → Sy.Let) : Sy.Res (Value × List Blk) :=
 let z0 := (Int.ofNat at')
 let z1 := (Nat.succ (Nat.succ (Nat.succ ((0 : Nat) + Int.toNat z0 * (6 : Nat)))))
 Sy.Res.both (Sy.Res.need (bs[to]? = some x) (Sy.Res.hyp True (Sy.Res.need ((0 : Int) ≤ Int.ofNat at' ∧ Int.ofNat at' < (↑len : Int)) (Sy.Res.need (Nat.succ z1 < List.length xs) (Sy.Res.leaf (Value.tuple (Array.mk []), [Blk.mk mb (Sy.Cont.obj (begM bs)) false, Blk.mk yb (Sy.Cont.obj (Obj.cells (Array.mk [Value.pointer (some (Addr.mk y (0 : Nat) none))]) (128 : Nat))) false, Blk.mk tb (Sy.Cont.obj (Obj.cells (Array.mk [Value.int IntKind.i64 (Int.ofNat to)]) (3 : Nat))) false, Blk.mk ab (Sy.Cont.obj (Obj.cells (Array.mk [Value.int IntKind.i64 z0]) (3 : Nat))) false, Blk.mk y (layC (Value.slice (some (Addr.mk g (0 : Nat) none)) len cap) (Value.map (some mb)) (Value.slice (slP tv) (Sy.lenS tv) (slC tv)) (0 : Int) b) false, Blk.mk g (Sy.Cont.row (49 : Nat) (6 : Nat) len cap (List.set xs (Nat.succ z1) (Value.int IntKind.i64 (Ex.wrapQ IntKind.i64 (Ex.subQ' x z0))))) true])))))) (Sy.Res.both (Sy.Res.need (bs[to]? = some x) (Sy.Res.hyp True (Sy.Res.need ((0 : Int) ≤ Int.ofNat at' ∧ Int.ofNat at' < (↑len : Int)) (Sy.Res.need (Nat.succ z1 < List.length xs) (Sy.Res.leaf (Value.tuple (Array.mk []), [Blk.mk mb (Sy.Cont.obj (begM bs)) false, Blk.mk yb (Sy.Cont.obj (Obj.cells (Array.mk [Value.pointer (some (Addr.mk y (0 : Nat) none))]) (128 : Nat))) false, Blk.mk tb (Sy.Cont.obj (Obj.cells (Array.mk [Value.int IntKind.i64 (Int.ofNat to)]) (3 : Nat))) false, Blk.mk ab (Sy.Cont.obj (Obj.cells (Array.mk [Value.int IntKind.i64 z0]) (3 : Nat))) false, Blk.mk y (layC (Value.slice (some (Addr.mk g
 (0 : Nat) none)) len cap) (Value.map (some mb)) (Value.slice (slP tv) (Sy.lenS tv) (slC tv)) (0 : Int) b) false, Blk.mk g (Sy.Cont.row (49 : Nat) (6 : Nat) len cap (List.set xs (Nat.succ z1) (Value.int IntKind.i64 (Ex.wrapQ IntKind.i64 (Ex.subQ' x z0))))) true])))))) (Sy.Res.need (bs[to]? = some x) (Sy.Res.hyp True (Sy.Res.need ((0 : Int) ≤ Int.ofNat at' ∧ Int.ofNat at' < (↑len : Int)) (Sy.Res.need (Nat.succ z1 < List.length xs) (Sy.Res.leaf (Value.tuple (Array.mk []), [Blk.mk mb (Sy.Cont.obj (begM bs)) false, Blk.mk yb (Sy.Cont.obj (Obj.cells (Array.mk [Value.pointer (some (Addr.mk y (0 : Nat) none))]) (128 : Nat))) false, Blk.mk tb (Sy.Cont.obj (Obj.cells (Array.mk [Value.int IntKind.i64 (Int.ofNat to)]) (3 : Nat))) false, Blk.mk ab (Sy.Cont.obj (Obj.cells (Array.mk [Value.int IntKind.i64 z0]) (3 : Nat))) false, Blk.mk y (layC (Value.slice (some (Addr.mk g (0 : Nat) none)) len cap) (Value.map (some mb)) (Value.slice (slP tv) (Sy.lenS tv) (slC tv)) (0 : Int) b) false, Blk.mk g (Sy.Cont.row (49 : Nat) (6 : Nat) len cap (List.set xs (Nat.succ z1) (Value.int IntKind.i64 (Ex.wrapQ IntKind.i64 (Ex.subQ' x z0))))) true])))))))
theorem fi_run (y yb tb ab mb g cap len at' to : Nat) (tv : Value) (b : Bool) (bs : List Int) (x : Int) (xs : List Value) : Sy.Ran (Sy.inB Tryz.prog (ctxFi mb bs to x) 50 fFill #[.pointer (some ⟨yb, 0, none⟩), .pointer (some ⟨tb, 0, none⟩), .pointer (some ⟨ab, 0, none⟩)] [⟨yb, .obj (.cells #[.pointer (some ⟨y, 0, none⟩)] 128 (0, 0)), false⟩, ⟨tb, .obj (.cells #[.int .i64 (Int.ofNat to)] 3 (0, 0)), false⟩, ⟨ab, .obj (.cells #[.int .i64 (Int.ofNat at')] 3 (0, 0)), false⟩, ⟨y, layC (.slice (some ⟨g, 0, none⟩) len cap) (.map (some mb)) (slV tv) 0 b, false⟩, ⟨mb, .obj (begM bs), false⟩, ⟨g, .row tI 6 len cap xs, true⟩]) fi_o (fi_R y yb tb ab mb g cap len at' to tv b bs x xs) := ⟨fun ns => by kernel_rfl, fun ns => by kernel_rfl⟩
end Go.Proofs.YtlpcnaeknbmjdaaGreat.Gn

namespace Go.Proofs.YtlpcnaeknbmjdaaGreat.Gn
open Go Go.RowKit
open Go.Proofs.YtlpcnaeknbmjdaaGreat.Sy (Let Blk HasL)
open Lw (I insCells tI)
def setImm : List I → Nat → Int → List I
  | [], _, _ => []
  | i :: r, 0, v => { i with imm := v } :: r
  | i :: r, n + 1, v => i :: setImm r n v
theorem setImm_len (X : List I) (n : Nat) (v : Int) : (setImm X n v).length = X.length := by
  induction X generalizing n with
  | nil => rfl
  | cons i r ih => cases n <;> simp [setImm, ih]
theorem insCells_cons (i : I) (r : List I) : insCells (i :: r) = .int .i64 i.op :: .int .i64 i.rd :: .int .i64 i.rn :: .int .i64 i.rm :: .int .i64 i.imm :: .int .i64 i.cond :: insCells r := rfl
theorem setImm_cells (X : List I) (n : Nat) (v : Int) : insCells (setImm X n v) = (insCells X).set (n * 6 + 4) (.int .i64 v) := by
  induction X generalizing n with
  | nil => simp [setImm, insCells]
  | cons i r ih =>
    cases n with
    | zero => simp [setImm, insCells_cons]
    | succ n =>
      simp only [setImm, insCells_cons]
      rw [ih, show (n + 1) * 6 + 4 = (n * 6 + 4) + 6 by omega]
      rfl
noncomputable def fiC (y yb tb ab mb g cap at' to : Nat) (tv : Value) (b : Bool) (bs : List Int) (x : Int) (X : List I) : Sy.CallC :=
  ⟨fFill, #[.pointer (some ⟨yb, 0, none⟩), .pointer (some ⟨tb, 0, none⟩), .pointer (some ⟨ab, 0, none⟩)], bs[to]? = some x ∧ at' < X.length ∧ X.length ≤ 2000000 ∧ 0 ≤ x ∧ x ≤ 2000000,
    ⟨[(yb, .obj (.cells #[.pointer (some ⟨y, 0, none⟩)] 128 (0, 0))), (tb, .obj (.cells #[.int .i64 (Int.ofNat to)] 3 (0, 0))), (ab, .obj (.cells #[.int .i64 (Int.ofNat at')] 3 (0, 0))), (y, layC (.slice (some ⟨g, 0, none⟩) X.length cap) (.map (some mb)) (slV tv) 0 b), (mb, .obj (begM bs))],
      [(g, .row tI 6 X.length cap (insCells X))], 0, []⟩, [(⟨fun _ => True, fun _ => [(g, .row tI 6 X.length cap (insCells (setImm X at' (x - at'))))], fun _ => []⟩, fun _ => .tuple #[])]⟩
theorem fiC_met (y yb tb ab mb g cap at' to : Nat) (tv : Value) (b : Bool) (bs : List Int) (x : Int) (X : List I) : Sy.Meets Tryz.prog (fiC y yb tb ab mb g cap at' to tv b bs x X) := by
  refine Sy.meets_ofB (ctxFi_holds mb bs to x) mixed (L := [⟨yb, .obj (.cells #[.pointer (some ⟨y, 0, none⟩)] 128 (0, 0)), false⟩, ⟨tb, .obj (.cells #[.int .i64 (Int.ofNat to)] 3 (0, 0)), false⟩, ⟨ab, .obj (.cells #[.int .i64 (Int.ofNat at')] 3 (0, 0)), false⟩, ⟨y, layC (.slice (some ⟨g, 0, none⟩) X.length cap) (.map (some mb)) (slV tv) 0 b, false⟩, ⟨mb, .obj (begM bs), false⟩, ⟨g, .row tI 6 X.length cap (insCells X), true⟩]) (Sy.Ent.refl _) (fi_run y yb tb ab mb g cap X.length at' to tv b bs x (insCells X)) fun hok ns => ?_
  obtain ⟨hx, hat, hl, h0, h1⟩ := hok
  have hw : Ex.wrapQ .i64 (Ex.subQ' x (Int.ofNat at')) = x - at' := by
    rw [Ex.wrapQ_eq, Ex.subQ_eq]
    simp [IntKind.wrap, IntKind.signed, IntKind.bits]
    omega
  have hi : Nat.succ (Nat.succ (Nat.succ (Nat.succ (0 + Int.toNat (Int.ofNat at') * 6)))) = at' * 6 + 4 := by
    simp only [Int.ofNat_eq_natCast, Int.toNat_natCast]
    omega
  simp only [fi_R, Sy.Res.holds]
  rw [hw, hi, ← setImm_cells]
  have key : ∀ A : List Blk, Sy.leafB (fiC y yb tb ab mb g cap at' to tv b bs x X) (.tuple #[], A ++ [⟨g, .row tI 6 X.length cap (insCells (setImm X at' (x - at'))), true⟩]) := fun A =>
    ⟨_, List.mem_singleton_self _, [], rfl, rfl, Sy.Ent.sub (List.sublist_append_right _ _), trivial⟩
  have hlt : at' * 6 + 4 < (insCells X).length := by
    rw [ins_len]
    omega
  have hb : (0 : Int) ≤ Int.ofNat at' ∧ Int.ofNat at' < (X.length : Int) := ⟨by simp, by simpa using hat⟩
  exact ⟨⟨hx, fun _ => ⟨hb, hlt, key [_, _, _, _, _]⟩⟩, ⟨hx, fun _ => ⟨hb, hlt, key [_, _, _, _, _]⟩⟩, ⟨hx, fun _ => ⟨hb, hlt, key [_, _, _, _, _]⟩⟩⟩
end Go.Proofs.YtlpcnaeknbmjdaaGreat.Gn

namespace Go.Proofs.YtlpcnaeknbmjdaaGreat.Gn
set_option linter.unusedVariables false
set_option linter.unusedSimpArgs false
open Go Go.RowKit
open Go.Proofs.YtlpcnaeknbmjdaaGreat.Sy (Let Blk HasL)
open Lw (I insCells tI)
def Sy.adr (v : Value) : Addr := match v with
  | .pointer (some a) => a
  | _ => ⟨0, 0, none⟩
noncomputable def ldK (w : Fw) (y : Nat) (tv : Value) (fs : List Fl) (j : Nat) (f : Fl) (a : Sy.F) : Sy.OpK :=
  ⟨Sy.opV (loadVar tFn (Sy.adr (a.get 90))), w.V tv fs ∧ Sy.adr (a.get 90) = ⟨Sy.ptrS (slV tv), j, none⟩ ∧ fs[j]? = some f, ⟨⟨[], [], 0, w.B y tv fs⟩, [(⟨fun _ => True, fun _ => [], fun _ => []⟩, fun _ => some (flV f))]⟩⟩
noncomputable def fiB (q : Rw) (y mb : Nat) (v tv : Value) (b : Bool) (bs : List Int) (x : Int) (X : List I) (f : Fl) (args : Array Value) : Sy.CallC :=
  ⟨fFill, args, args = #[.pointer (some ⟨f.yb, 0, none⟩), .pointer (some ⟨f.tb, 0, none⟩), .pointer (some ⟨f.ab, 0, none⟩)] ∧ q.V v X ∧ 0 ≤ f.to ∧ 0 ≤ f.at' ∧ bs[f.to.toNat]? = some x ∧ f.at'.toNat < X.length ∧ X.length ≤ 2000000 ∧ 0 ≤ x ∧ x ≤ 2000000,
    ⟨[(y, layC (slV v) (.map (some mb)) (slV tv) 0 b), (mb, .obj (begM bs))], q.B v X, 0, flB y f⟩, [(⟨fun _ => True, fun _ => [], fun _ => q.B v (setImm X f.at'.toNat (x - f.at'))⟩, fun _ => .tuple #[])]⟩
noncomputable def ctxFl (q : Rw) (w : Fw) (y mb : Nat) (v tv : Value) (b : Bool) (bs : List Int) (x : Int) (X : List I) (fs : List Fl) (j : Nat) (f : Fl) (R : List Blk) : Sy.Ctx :=
  Sy.mkU (Sy.mkS [] [] [(fLaid, 91, fun a _ => ldK w y tv fs j f a)]) [(fFill, fun args _ => (fiB q y mb v tv b bs x X f args).toU [] (q.B v X) R)] []
def slF (y p5 : Nat) (tv : Value) (j : Nat) : List (Nat × Value) := [(5, .pointer (some ⟨p5, 0, none⟩)), (6, .pointer (some ⟨y, 0, none⟩)), (86, slV tv), (87, .int .i64 (Int.ofNat (Sy.lenS tv))), (88, .int .i64 (Int.ofNat j))]
def lf_o : Sy.O := (Sy.O.fork (Sy.O.pack 15 0x441004010002010401 Sy.O.nil) Sy.O.nil)
noncomputable def lf_R (q : Rw) (w : Fw) (TL : List Blk) (R : List Blk) (y : Nat) (p5 : Nat) (mb : Nat) (v : Value) (tv : Value) (b : Bool) (bs : List Int) (x : Int) (X : List I) (fs : List Fl) (j : Nat) (f : Fl) (h : Nat → Value) (ns : Nat → Sy.Let) : Sy.Res (Exit × Nat × List Value × List Blk) :=
 let z0 := (Int.ofNat j)
 let z1 := (Sy.lenS tv)
 let z2 := (Int.ofNat z1)
 let z3 := (Value.slice (slP tv) z1 (slC tv))
 let z4 := (Sy.ptrS z3)
 let z5 := [Value.pointer (some (Addr.mk (Fl.yb f) (0 : Nat) none)), Value.pointer (some (Addr.mk (Fl.tb f) (0 : Nat) none)), Value.pointer (some (Addr.mk (Fl.ab f) (0 : Nat) none))]
 let z6 := (some (Addr.mk y (0 : Nat) none))
 let z7 := (some (Addr.mk p5 (0 : Nat) none))
 let z8 := (layC (Value.slice (slP v) (Sy.lenS v) (slC v)) (Value.map (some mb)) z3 (0 : Int) b)
 let z9 := (Sy.Cont.obj (begM bs))
 Sy.Res.br (Ex.ltQ z0 z2) (Sy.Res.need ((∃ (n : Nat), ∃ (c : Nat), Value.slice (slP tv) z1 (slC tv) = Value.slice (some (Addr.mk z4 (Sy.offS z3) none)) n c) ∧ (0 : Int) ≤ Int.ofNat j ∧ Int.ofNat j < (↑z1 : Int)) (Sy.Res.need (w.2 tv fs ∧ Addr.mk z4 (Sy.offS z3 + Int.toNat z0 * (1 : Nat)) none = Addr.mk z4 j none ∧ fs[j]? = some f) (Sy.Res.need (Sy.GotL TL (w.1 y tv fs)) (Sy.Res.hyp True (Sy.Res.need (Array.mk z5 = Array.mk z5 ∧ q.2 v X ∧ (0 : Int) ≤ Fl.to f ∧ (0 : Int) ≤ Fl.at' f ∧ bs[Int.toNat (Fl.to f)]? = some x ∧ Int.toNat (Fl.at' f) < List.length X ∧ List.length X ≤ (2000000 : Nat) ∧ (0 : Int) ≤ x ∧ x ≤ (2000000 : Int)) (Sy.Res.need (List.Perm TL (List.append (List.map (fun (p : Nat × Sy.Cont) => Blk.mk (Prod.fst p) (Prod.snd p) true) (q.1 v X)) R)) (Sy.Res.need (Sy.GotL R [(Fl.ab f, Sy.Cont.obj (Obj.cells (Array.mk [Value.int IntKind.i64 (Fl.at' f)]) (3 : Nat))), (Fl.tb f, Sy.Cont.obj (Obj.cells (Array.mk [Value.int IntKind.i64 (Fl.to f)]) (3 : Nat))), (Fl.yb f, Sy.Cont.obj (Obj.cells (Array.mk [Value.pointer z6]) (128 : Nat)))]) (Sy.Res.hyp True (Sy.Res.leaf (Exit.normal, (100 : Nat), [Value.pointer z7, Value.pointer z6, Value.slice (slP tv) z1 (slC tv), Value.int IntKind.i64 z2, Value.int IntKind.i64 (Ex.wrapQ IntKind.i64 (Ex.addQ z0 (1 : Int)))], Blk.mk y z8 true :: Blk.mk mb z9 true :: List.append R (List.map (fun (p : Nat × Sy.Cont) => Blk.mk (Prod.fst p) (Prod.snd p) true) (q.1 v (setImm X (Int.toNat (Fl.at' f)) (x - Fl.at' f)))))))))))))) (Sy.Res.leaf (Exit.exit
 (2 : Nat), (100 : Nat), [Value.pointer z7, Value.pointer z6, Value.slice (slP tv) z1 (slC tv), Value.int IntKind.i64 z2, Value.int IntKind.i64 z0], Blk.mk y z8 true :: Blk.mk mb z9 true :: TL))
theorem lf_run (q : Rw) (w : Fw) (TL R : List Blk) (y p5 mb : Nat) (v tv : Value) (b : Bool) (bs : List Int) (x : Int) (X : List I) (fs : List Fl) (j : Nat) (f : Fl) (h : Nat → Value) : Sy.Ran (Sy.pieceT Tryz.prog (ctxFl q w y mb v tv b bs x X fs j f R) 50 fLaid bodyF 100 (slF y p5 tv j) ((List.range 100).map h) (⟨y, layC (slV v) (.map (some mb)) (slV tv) 0 b, true⟩ :: ⟨mb, .obj (begM bs), true⟩ :: TL) [5, 6, 86, 87, 88]) lf_o (lf_R q w TL R y p5 mb v tv b bs x X fs j f h) := ⟨fun ns => by kernel_rfl, fun ns => by kernel_rfl⟩
end Go.Proofs.YtlpcnaeknbmjdaaGreat.Gn

namespace Go.Proofs.YtlpcnaeknbmjdaaGreat.Gn
open Go Go.RowKit
open Go.Proofs.YtlpcnaeknbmjdaaGreat.Sy (Let Blk HasL)
open Lw (I insCells tI)
theorem agg_fn : Sy.aggOf Tryz.prog tFn = some false := by kernel_rfl
theorem ldK_met (y : Nat) (tv : Value) (fs : List Fl) (j : Nat) (f : Fl) (a : Sy.F) : (ldK fillQ y tv fs j f a).meets Tryz.prog := by
  rintro ⟨hF, hadr, hj⟩ W hpre
  rcases hF with ⟨rfl, -⟩ | ⟨g, hg, hn, hc, hne⟩
  · simp at hj
  have hrow : frowB tv fs = [(g, .row tFn 1 fs.length (slC tv) (fs.map flV))] := by
    unfold frowB
    rw [hg]
    rfl
  have hat := hpre.rb (g, .row tFn 1 fs.length (slC tv) (fs.map flV)) (by
    show _ ∈ fillB y tv fs
    rw [fillB, hrow]
    exact List.mem_cons_self)
  have hp : Sy.ptrS (slV tv) = g := by
    show Sy.ptrS (.slice (slP tv) _ _) = g
    rw [hg]
    rfl
  rw [hp] at hadr
  have hct : (Sy.Cont.row tFn 1 fs.length (slC tv) (fs.map flV)).at j = some (flV f) := by
    show (fs.map flV)[j]? = some (flV f)
    rw [List.getElem?_map, hj]
    rfl
  refine ⟨_, List.mem_singleton_self _, [], W, ?_, ⟨rfl, trivial, rfl, rfl, rfl, Nat.le_refl _, fun k hk hu => rfl, fun p hp => (by cases hp), by simp, fun p hp => (by cases hp), by simp, fun p hp q hq => (by cases hq)⟩⟩
  show (Sy.opV (loadVar tFn (Sy.adr (a.get 90)))).run _ W = .ok (.value (flV f)) W
  rw [hadr]
  refine Sy.opV_run ?_
  have h0 : W.cell? ⟨g, j, none⟩ = some (flV f) := Sy.cell_at rfl hat rfl hct
  unfold loadVar
  simp [Sy.run_isAgg agg_fn, h0]
theorem fiB_met (y mb : Nat) (v tv : Value) (b : Bool) (bs : List Int) (x : Int) (X : List I) (f : Fl) (args : Array Value) : Sy.Meets Tryz.prog (fiB rowQ y mb v tv b bs x X f args) := by
  rintro ⟨rfl, hX, hto, hat, hx, hlt, hl, h0, h1⟩ W hpre
  rcases hX with ⟨rfl, -⟩ | ⟨g, hg, hn, hc, hne⟩
  · simp at hlt
  have hrow : ∀ Z : List I, rowB v Z = [(g, .row tI 6 Z.length (slC v) (insCells Z))] := fun Z => by
    unfold rowB
    rw [hg]
    rfl
  have hv : slV v = .slice (some ⟨g, 0, none⟩) X.length (slC v) := by rw [slV, hg, hn]
  have e1 : f.to = Int.ofNat f.to.toNat := by simp only [Int.ofNat_eq_natCast]; omega
  have e2 : f.at' = Int.ofNat f.at'.toNat := by simp only [Int.ofNat_eq_natCast]; omega
  have hu : (fiB rowQ y mb v tv b bs x X f #[.pointer (some ⟨f.yb, 0, none⟩), .pointer (some ⟨f.tb, 0, none⟩), .pointer (some ⟨f.ab, 0, none⟩)]).mem.use = [(g, .row tI 6 X.length (slC v) (insCells X))] := hrow X
  have hL : (y, layC (slV v) (.map (some mb)) (slV tv) 0 b) ∈ (fiB rowQ y mb v tv b bs x X f #[.pointer (some ⟨f.yb, 0, none⟩), .pointer (some ⟨f.tb, 0, none⟩), .pointer (some ⟨f.ab, 0, none⟩)]).mem.rd := List.mem_cons_self
  have hM : (mb, Sy.Cont.obj (begM bs)) ∈ (fiB rowQ y mb v tv b bs x X f #[.pointer (some ⟨f.yb, 0, none⟩), .pointer (some ⟨f.tb, 0, none⟩), .pointer (some ⟨f.ab, 0, none⟩)]).mem.rd := List.mem_cons_of_mem _ List.mem_cons_self
  have hB : ∀ p ∈ flB y f, p ∈ (fiB rowQ y mb v tv b bs x X f #[.pointer (some ⟨f.yb, 0, none⟩), .pointer (some ⟨f.tb, 0, none⟩), .pointer (some ⟨f.ab, 0, none⟩)]).mem.rb := fun p hp => hp
  have hmem : ∀ p ∈ (fiC y f.yb f.tb f.ab mb g (slC v) f.at'.toNat f.to.toNat tv b bs x X).mem.rd, p ∈ [(y, layC (slV v) (.map (some mb)) (slV tv) 0 b), (mb, Sy.Cont.obj (begM bs))] ∨ p ∈ flB y f := fun p hp => by
    simp only [fiC, List.mem_cons, List.not_mem_nil, or_false] at hp
    rcases hp with rfl | rfl | rfl | rfl | rfl
    · exact .inr (List.mem_cons_of_mem _ (List.mem_cons_of_mem _ List.mem_cons_self))
    · rw [← e1]
      exact .inr (List.mem_cons_of_mem _ List.mem_cons_self)
    · rw [← e2]
      exact .inr List.mem_cons_self
    · rw [← hv]
      exact .inl List.mem_cons_self
    · exact .inl (List.mem_cons_of_mem _ List.mem_cons_self)
  refine Calls.mono (fiC_met y f.yb f.tb f.ab mb g (slC v) f.at'.toNat f.to.toNat tv b bs x X ⟨hx, hlt, hl, h0, h1⟩ W ⟨fun p hp => ?_, fun p hp => ?_, List.nodup_cons.2 ⟨by simp, List.nodup_nil⟩, fun p hp q hq => ?_, fun p hp => (by cases hp), fun p hp => (by cases hp)⟩) ?_
  · rcases hmem p hp with h | h
    · exact hpre.rd p h
    · exact hpre.rb p h
  · exact hpre.use p (by rw [hu]; exact hp)
  · have hq : q ∈ (fiB rowQ y mb v tv b bs x X f #[.pointer (some ⟨f.yb, 0, none⟩), .pointer (some ⟨f.tb, 0, none⟩), .pointer (some ⟨f.ab, 0, none⟩)]).mem.use := by rw [hu]; exact hq
    rcases hmem p hp with h | h
    · exact hpre.apart p h q hq
    · exact hpre.apartB p h q hq
  · rintro en W' ⟨o, ho, ns, he, h⟩
    rcases List.mem_singleton.1 ho with rfl
    have hnb : rowB v (setImm X f.at'.toNat (x - f.at')) = [(g, .row tI 6 X.length (slC v) (insCells (setImm X f.at'.toNat (x - f.at'.toNat))))] := by
      rw [hrow, setImm_len, Int.toNat_of_nonneg hat]
    refine ⟨_, List.mem_singleton_self _, ns, he, ⟨h.len, trivial, h.os, h.tape, h.output, h.size, fun k hk hq => h.old k hk (fun p hp => hq p (by rw [hu]; exact hp)), fun p hp => (by cases hp), List.nodup_nil, fun p hp => ?_, ?_, fun p hp => (by cases hp)⟩⟩
    · have hp : p ∈ rowB v (setImm X f.at'.toNat (x - f.at')) := hp
      rw [hnb] at hp
      have := h.nw p hp
      refine ⟨?_, this.2⟩
      rw [hu]
      exact this.1
    · show ((rowB v (setImm X f.at'.toNat (x - f.at'))).map (·.1)).Nodup
      rw [hnb]
      exact h.nodup
end Go.Proofs.YtlpcnaeknbmjdaaGreat.Gn

namespace Go.Proofs.YtlpcnaeknbmjdaaGreat.Gn
open Go Go.RowKit
open Go.Proofs.YtlpcnaeknbmjdaaGreat.Sy (Let Blk HasL)
open Lw (I insCells tI)
def begAt (bs : List Int) (f : Fl) : Int := bs.getD f.to.toNat 0
def fill1 (bs : List Int) (X : List I) (f : Fl) : List I := setImm X f.at'.toNat (begAt bs f - f.at')
def fillAll (bs : List Int) (X : List I) (fs : List Fl) : List I := fs.foldl (fill1 bs) X
theorem fillAll_len (bs : List Int) (X : List I) (fs : List Fl) : (fillAll bs X fs).length = X.length := by
  induction fs generalizing X with
  | nil => rfl
  | cons f r ih =>
    show (fillAll bs (fill1 bs X f) r).length = _
    rw [ih, fill1, setImm_len]
structure OkF (bs : List Int) (X : List I) (fs : List Fl) : Prop where
  f : ∀ (j : Nat) (f : Fl), fs[j]? = some f → 0 ≤ f.to ∧ 0 ≤ f.at' ∧ f.to.toNat < bs.length ∧ f.at'.toNat < X.length
  b : ∀ (i : Nat) (x : Int), bs[i]? = some x → 0 ≤ x ∧ x ≤ 2000000
  n : X.length ≤ 2000000
  m : fs.length ≤ 2000000
noncomputable def fillsC (q : Rw) (w : Fw) (y p5 mb : Nat) (v tv : Value) (b : Bool) (bs : List Int) (X : List I) (fs : List Fl) : Sy.LoopC :=
  ⟨.loop bodyF, 100, slF y p5 tv 0, q.V v X ∧ w.V tv fs ∧ OkF bs X fs, ⟨[], [(y, layC (slV v) (.map (some mb)) (slV tv) 0 b), (mb, .obj (begM bs))] ++ q.B v X, 0, w.B y tv fs⟩,
    [(⟨fun _ => True, fun _ => [(y, layC (slV v) (.map (some mb)) (slV tv) 0 b), (mb, .obj (begM bs))], fun _ => q.B v (fillAll bs X fs)⟩, .exit 2, fun _ => [(5, .pointer (some ⟨p5, 0, none⟩)), (6, .pointer (some ⟨y, 0, none⟩))])]⟩
theorem ctxFl_holds (y mb : Nat) (v tv : Value) (b : Bool) (bs : List Int) (x : Int) (X : List I) (fs : List Fl) (j : Nat) (f : Fl) (R : List Blk) : (ctxFl rowQ fillQ y mb v tv b bs x X fs j f R).holds Tryz.prog := Sy.mkU_holds (Sy.mkS_holds (fun _ h => (by cases h)) (fun _ h => (by cases h)) (fun p hp a L => by
  rcases List.mem_singleton.1 hp with rfl
  exact ldK_met _ _ _ _ _ _)) (fun p hp args L => by
  rcases List.mem_singleton.1 hp with rfl
  exact fiB_met _ _ _ _ _ _ _ _ _ _) (fun _ h => (by cases h))
theorem RowV.to {v : Value} {X Z : List I} (h : RowV v X) (hl : Z.length = X.length) : RowV v Z := by
  rcases h with ⟨rfl, h⟩ | ⟨g, h1, h2, h3, h4⟩
  · exact .inl ⟨List.eq_nil_of_length_eq_zero (by simpa using hl), h⟩
  · exact .inr ⟨g, h1, by rw [h2, hl], by rw [hl]; exact h3, fun he => h4 (List.eq_nil_of_length_eq_zero (by rw [← hl, he]; rfl))⟩
theorem fillsC_met (y p5 mb : Nat) (v tv : Value) (b : Bool) (bs : List Int) (X : List I) (fs : List Fl) : Sy.MeetsL Tryz.prog (fillsC rowQ fillQ y p5 mb v tv b bs X fs) := by
  refine Sy.loop_ofB (σ := Nat × Fl × List I) (S := fun s => ctxFl rowQ fillQ y mb v tv b bs (begAt bs s.2.1) s.2.2 fs s.1 s.2.1 (rdOf (fillB y tv fs))) (n := 50) (fn := fLaid) (fun _ => ctxFl_holds _ _ _ _ _ _ _ _ _ _ _ _) mixed (body := bodyF) rfl [5, 6, 86, 87, 88] (fun s => slF y p5 tv s.1)
    (fun s => ⟨y, layC (slV v) (.map (some mb)) (slV tv) 0 b, true⟩ :: ⟨mb, .obj (begM bs), true⟩ :: ((rowB v s.2.2).map Sy.ownOf ++ rdOf (fillB y tv fs)))
    (fun s => s.1 ≤ fs.length ∧ (RowV v X ∧ FillV tv fs ∧ OkF bs X fs) ∧ s.2.2.length = X.length ∧ fillAll bs X fs = fillAll bs s.2.2 (fs.drop s.1) ∧ ∀ f, fs[s.1]? = some f → s.2.1 = f) (fun s => fs.length - s.1)
    (0, fs.headD ⟨0, 0, 0, 0, 0⟩, X) (fun h => ⟨Nat.zero_le _, h, rfl, rfl, fun a ha => by cases fs <;> simp_all⟩) (fun p hp => hp) (Sy.Ent.refl _) (o := fun _ => lf_o)
    (R := fun s h => lf_R rowQ fillQ ((rowB v s.2.2).map Sy.ownOf ++ rdOf (fillB y tv fs)) (rdOf (fillB y tv fs)) y p5 mb v tv b bs (begAt bs s.2.1) s.2.2 fs s.1 s.2.1 h) (fun s h _ => lf_run rowQ fillQ _ (rdOf (fillB y tv fs)) y p5 mb v tv b bs (begAt bs s.2.1) s.2.2 fs s.1 s.2.1 h) ?_
  rintro - ⟨j, f, Z⟩ h ⟨hj, ⟨hV, hF, hO⟩, hZ, hall, hf⟩ ns
  simp only at hj hZ hall hf
  have hlen : Sy.lenS tv = fs.length := by
    rcases hF with ⟨rfl, -, h, -⟩ | ⟨_, -, h, -⟩
    · simpa using h
    · exact h
  simp only [lf_R, Sy.Res.holds]
  refine ⟨fun hlt => ?_, fun hge => ?_⟩
  · have hlt : j < fs.length := by rw [Ex.ltQ_eq, hlen] at hlt; simpa using hlt
    obtain ⟨f', hg⟩ : ∃ n, fs[j]? = some n := ⟨_, List.getElem?_eq_getElem hlt⟩
    obtain rfl : f = f' := hf f' hg
    obtain ⟨o1, o2, o3, o4⟩ := hO.f _ _ hg
    have hd : fs.drop j = f :: fs.drop (j + 1) := by
      rw [List.drop_eq_getElem_cons hlt, (List.getElem?_eq_some_iff.1 hg).2]
    have hx : bs[f.to.toNat]? = some (begAt bs f) := by
      rw [begAt, List.getD_eq_getElem?_getD, List.getElem?_eq_getElem o3]
      rfl
    obtain ⟨x0, x1⟩ := hO.b _ _ hx
    have hslit : ∃ g, slP tv = some ⟨g, 0, none⟩ := by
      rcases hF with ⟨rfl, -⟩ | ⟨g, h, -⟩
      · simp at hlt
      · exact ⟨g, h⟩
    obtain ⟨g, hg'⟩ := hslit
    refine ⟨⟨⟨_, _, by rw [hg']; rfl⟩, by simp, by rw [hlen]; simpa using hlt⟩, ⟨hF, ?_, hg⟩, gotL_of (fun p hp => List.mem_append_right _ hp), fun _ => ⟨⟨trivial, hV.to hZ, o1, o2, hx, by rw [hZ]; exact o4, by rw [hZ]; exact hO.n, x0, x1⟩, List.Perm.refl _, gotL_of (fun p hp => ?_), fun _ => ?_⟩⟩
    · rw [hg']
      simp [Sy.offS]
    · refine List.mem_map.2 ?_
      obtain ⟨p', hp', rfl⟩ := List.mem_map.1 hp
      refine ⟨p', List.mem_append_right _ ?_, rfl⟩
      have hbox : ∀ (l : List Fl), f ∈ l → ∀ p ∈ flB y f, p ∈ boxB y l := fun l => by
        induction l with
        | nil => intro h; cases h
        | cons g r ih =>
          intro h p hp
          rcases List.mem_cons.1 h with rfl | h
          · exact List.mem_append_right _ hp
          · exact List.mem_append_left _ (ih h p hp)
      exact hbox fs (List.mem_of_getElem? hg) p' hp'
    · refine ⟨rfl, .inl ⟨rfl, (j + 1, fs.getD (j + 1) f, fill1 bs Z f), ⟨hlt, ⟨hV, hF, hO⟩, by rw [fill1, setImm_len, hZ], ?_, fun x hx => ?_⟩, ?_, ?_, ?_⟩⟩
      · rw [hall, hd]
        rfl
      · simp only at hx
        show fs.getD (j + 1) f = x
        rw [List.getD_eq_getElem?_getD, hx]
        rfl
      · show fs.length - (j + 1) < fs.length - j
        omega
      · rw [w_succ (by have := hO.m; omega)]
        rfl
      · exact Sy.Ent.perm (.cons _ (.cons _ List.perm_append_comm))
  · have hge : j = fs.length := by rw [Ex.ltQ_eq, hlen] at hge; simp at hge; omega
    subst hge
    rw [List.drop_length] at hall
    refine ⟨rfl, .inr ⟨by simp, _, List.mem_singleton_self _, rfl, [], rfl, ⟨[0, 1], rfl⟩, ?_, trivial⟩⟩
    show Sy.Ent _ (([(y, layC (slV v) (.map (some mb)) (slV tv) 0 b), (mb, .obj (begM bs))] ++ rowB v (fillAll bs X fs)).map Sy.ownOf)
    rw [hall]
    exact Sy.Ent.sub (.cons_cons _ (.cons_cons _ (List.sublist_append_left _ _)))
end Go.Proofs.YtlpcnaeknbmjdaaGreat.Gn

namespace Go.Proofs.YtlpcnaeknbmjdaaGreat.Gn
set_option linter.unusedVariables false
set_option linter.unusedSimpArgs false
open Go Go.RowKit
open Go.Proofs.YtlpcnaeknbmjdaaGreat.Sy (Let Blk HasL)
open Lw (I insCells tI)
noncomputable def others (T U : List Blk) : List Blk := @Classical.epsilon (List Blk) ⟨[]⟩ fun R => T.Perm (U ++ R)
theorem others_spec {T U R : List Blk} (h : T.Perm (U ++ R)) : T.Perm (U ++ others T U) ∧ (others T U).Perm R := by
  have h1 : T.Perm (U ++ others T U) := @Classical.epsilon_spec _ (fun R => T.Perm (U ++ R)) ⟨R, h⟩
  exact ⟨h1, (List.perm_append_left_iff U).1 (h1.symm.trans h)⟩
noncomputable def fsIn (y : Nat) (tv : Value) (pos : List (Int × Int)) (L : List Blk) : List Fl := @Classical.epsilon (List Fl) ⟨[]⟩ fun fs => Sy.GotL L (fillB y tv fs) ∧ FillV tv fs ∧ fs.map posOf = pos
theorem fsIn_spec {y : Nat} {tv : Value} {pos : List (Int × Int)} {L : List Blk} {fs : List Fl} (h : Sy.GotL L (fillB y tv fs) ∧ FillV tv fs ∧ fs.map posOf = pos) : Sy.GotL L (fillB y tv (fsIn y tv pos L)) ∧ FillV tv (fsIn y tv pos L) ∧ (fsIn y tv pos L).map posOf = pos :=
  @Classical.epsilon_spec _ (fun fs => Sy.GotL L (fillB y tv fs) ∧ FillV tv fs ∧ fs.map posOf = pos) ⟨fs, h⟩
noncomputable def Sy.tvY (L : List Blk) : Value := Sy.nthV (Sy.newest tY L) 2
noncomputable def Sy.mbY (L : List Blk) : Nat := match Sy.nthV (Sy.newest tY L) 1 with
  | .map (some r) => r
  | _ => 0
noncomputable def Sy.dropB (n : Nat) (L : List Blk) : List Blk := @Nat.rec (fun _ => List Blk → List Blk) (fun l => l) (fun _ ih l => match l with
  | _ :: r => ih r
  | [] => []) n L
noncomputable def upN (r : Nat) (bs : List Int) (n : Nat) (x z : Int) : Sy.OpK :=
  ⟨(do Instr.mapUpdate tMp (.map (some r)) (.int .i64 (Int.ofNat n)) (.int .i64 x); pure .skip), n = bs.length ∧ x = z, (upK r bs z).c⟩
theorem upN_met (r : Nat) (bs : List Int) (n : Nat) (x z : Int) : (upN r bs n x z).meets Tryz.prog := fun h => by
  obtain ⟨h, h2⟩ : n = bs.length ∧ x = z := h
  subst h h2
  exact upK_met r bs x trivial
abbrev hltI : I := ⟨34, 0, 0, 0, 0, 0⟩
noncomputable def begAll (b : Bool) (acts : List ActD) : List Int := begF b 0 acts ++ [Int.ofNat (layL b acts).length]
noncomputable def hltL (b : Bool) (acts : List ActD) : List I := layL b acts ++ [hltI]
noncomputable def fillU (q : Rw) (w : Fw) (b : Bool) (acts : List ActD) (k : Nat) (bs : List Int) (a : Sy.F) (L : List Blk) : Sy.LoopU :=
  (fillsC q w (Sy.ptrN (a.get 6)) (Sy.ptrN (a.get 5)) (Sy.mbY L) (Sy.vY L) (Sy.tvY L) b bs (hltL b acts) (fsIn (Sy.ptrN (a.get 6)) (Sy.tvY L) (posF b 0 acts) (others (Sy.dropB k L) ((q.B (Sy.vY L) (hltL b acts)).map Sy.ownOf)))).toU
    [(Sy.ptrN (a.get 6), layC (slV (Sy.vY L)) (.map (some (Sy.mbY L))) (slV (Sy.tvY L)) 0 b), (Sy.mbY L, .obj (begM bs))] (q.B (Sy.vY L) (hltL b acts)) (others (Sy.dropB k L) ((q.B (Sy.vY L) (hltL b acts)).map Sy.ownOf))
noncomputable def ctxLd (q : Rw) (w : Fw) (b : Bool) (acts : List ActD) (av : Value) (B : List (Nat × Sy.Cont)) (k1 k2 : Nat) : Sy.Ctx :=
  Sy.mkU (Sy.mkS [] [(fLaid, fun a L => laidC (Sy.ptrN (a.get 6)) (Sy.ptrN (a.get 2)) (Sy.ptrN (a.get 5)) (Sy.mbY L) av b acts B)] [(fLaid, 900000, fun a L => upN (Sy.mbY L) (begF b 0 acts) (Sy.lenS av) (Int.ofNat (Sy.lenS (Sy.vY L))) (Int.ofNat (layL b acts).length))])
    [(fPut, fun a L => (putL q (Sy.ptrN (Sy.argV a 0)) (Sy.ptrN (Sy.argV a 1)) (Sy.capN (Sy.argV a 1)) (Sy.vY L) (.map (some (Sy.mbY L))) (slV (Sy.tvY L)) 0 b (layL b acts) [hltI]).toU [(Sy.ptrN (Sy.argV a 0), layC (slV (Sy.vY L)) (.map (some (Sy.mbY L))) (slV (Sy.tvY L)) 0 b)] (q.B (Sy.vY L) (layL b acts)) (others (Sy.dropB k1 L) ((q.B (Sy.vY L) (layL b acts)).map Sy.ownOf)))]
    [(fLaid, fillU q w b acts k2 (begAll b acts))]
def ld0_o : Sy.O := (Sy.O.pack 14 0x21080200800108060 (Sy.O.fork (Sy.O.pack 6 0x4000020 Sy.O.nil) (Sy.O.pack 73 0x500c00180000046118421000000002018421000230042000420781600814941c21300002900100c410000300421 Sy.O.nil)))
noncomputable def ld0_R (q : Rw) (w : Fw) (TL : List Blk) (b : Bool) (acts : List ActD) (loc : Int) (av : Value) (B : List (Nat × Sy.Cont)) (ns : Nat → Sy.Let) : Sy.Res (Value × List Blk) :=
 let z0 := (Prod.snd (fltV b acts))
 let z1 := [ns (4 : Nat), ns (5 : Nat), ns (6 : Nat)]
 let z2 := (letW z1 (0 : Nat))
 let z3 := (layL b acts)
 let z4 := (letW z1 (1 : Nat))
 let z5 := (fsL b acts z1)
 let z6 := (begF b (0 : Nat) acts)
 let z7 := (Value.slice (slP z2) (Sy.lenS z2) (slC z2))
 let z8 := [I.mk (34 : Int) (0 : Int) (0 : Int) (0 : Int) (0 : Int) (0 : Int)]
 let z9 := (lv0 [ns (9 : Nat)])
 let z10 := (List.append z3 z8)
 let z11 := (Value.slice (slP z9) (Sy.lenS z9) (slC z9))
 let z12 := (Sy.lenS z4)
 let z13 := (Value.slice (slP z4) z12 (slC z4))
 let z14 := (List.append z6 [Int.ofNat (List.length z3)])
 Sy.Res.need (∃ (p : Option Addr), ∃ (n : Nat), ∃ (c : Nat), av = Value.slice p n c) (Sy.Res.need (OkL B av acts) (Sy.Res.need (Sy.GotL TL B) (Sy.Res.both (Sy.Res.hyp (faultF b (0 : Nat) acts = none → False) (Sy.Res.leaf (Value.tuple (Array.mk [Value.slice none (0 : Nat) (0 : Nat), Value.agg (Array.mk [Value.int IntKind.i64 (Prod.fst (fltV b acts)), Value.int IntKind.i64 (Prod.fst z0), Value.int IntKind.i64 (Prod.snd z0)])]), TL))) (Sy.Res.hyp (faultF b (0 : Nat) acts = none ∧ RowV z2 z3 ∧ FillV z4 z5 ∧ List.map posOf z5 = posF b (0 : Nat) acts ∧ List.length z3 ≤ (16383 : Nat)) (Sy.Res.need (∃ (p : Option Addr), ∃ (n : Nat), ∃ (c : Nat), av = Value.slice p n c) (Sy.Res.need (Sy.lenS av = List.length z6 ∧ Int.ofNat (Sy.lenS z2) = Int.ofNat (List.length z3)) (Sy.Res.hyp True (Sy.Res.need (q.2 z7 z3 ∧ z8 ≠ [] ∧ List.length z3 + (1 : Nat) ≤ (2000000 : Nat)) (Sy.Res.need (List.Perm (List.append TL (List.map (fun (p : Nat × Sy.Cont) => Blk.mk (Prod.fst p) (Prod.snd p) true) (List.append (rowB z2 z3) (List.append (frowB z4 z5) (boxB (Let.n (ns 3)) z5))))) (List.append (List.map (fun (p : Nat × Sy.Cont) => Blk.mk (Prod.fst p) (Prod.snd p) true) (q.1 z7 z3)) (others (List.append TL (List.map (fun (p : Nat × Sy.Cont) => Blk.mk (Prod.fst p) (Prod.snd p) true) (List.append (rowB z2 z3) (List.append (frowB z4 z5) (boxB (Let.n (ns 3)) z5))))) (List.map (fun (p : Nat × Sy.Cont) => Blk.mk (Prod.fst p) (Prod.snd p) true) (q.1 z7 z3))))) (Sy.Res.hyp (q.2 z9 z10) (Sy.Res.need (q.2 z11 z10 ∧ w.2
 z13 (fsIn (Let.n (ns 3)) z13 (posF b (0 : Nat) acts) (others (List.append (others (List.append TL (List.map (fun (p : Nat × Sy.Cont) => Blk.mk (Prod.fst p) (Prod.snd p) true) (List.append (rowB z2 z3) (List.append (frowB z4 z5) (boxB (Let.n (ns 3)) z5))))) (List.map (fun (p : Nat × Sy.Cont) => Blk.mk (Prod.fst p) (Prod.snd p) true) (q.1 z7 z3))) (List.map (fun (p : Nat × Sy.Cont) => Blk.mk (Prod.fst p) (Prod.snd p) true) (q.1 z9 z10))) (List.map (fun (p : Nat × Sy.Cont) => Blk.mk (Prod.fst p) (Prod.snd p) true) (q.1 z11 z10)))) ∧ OkF z14 z10 (fsIn (Let.n (ns 3)) z13 (posF b (0 : Nat) acts) (others (List.append (others (List.append TL (List.map (fun (p : Nat × Sy.Cont) => Blk.mk (Prod.fst p) (Prod.snd p) true) (List.append (rowB z2 z3) (List.append (frowB z4 z5) (boxB (Let.n (ns 3)) z5))))) (List.map (fun (p : Nat × Sy.Cont) => Blk.mk (Prod.fst p) (Prod.snd p) true) (q.1 z7 z3))) (List.map (fun (p : Nat × Sy.Cont) => Blk.mk (Prod.fst p) (Prod.snd p) true) (q.1 z9 z10))) (List.map (fun (p : Nat × Sy.Cont) => Blk.mk (Prod.fst p) (Prod.snd p) true) (q.1 z11 z10))))) (Sy.Res.need (List.Perm (List.append (others (List.append TL (List.map (fun (p : Nat × Sy.Cont) => Blk.mk (Prod.fst p) (Prod.snd p) true) (List.append (rowB z2 z3) (List.append (frowB z4 z5) (boxB (Let.n (ns 3)) z5))))) (List.map (fun (p : Nat × Sy.Cont) => Blk.mk (Prod.fst p) (Prod.snd p) true) (q.1 z7 z3))) (List.map (fun (p : Nat × Sy.Cont) => Blk.mk (Prod.fst p) (Prod.snd p) true) (q.1 z9 z10))) (List.append
 (List.map (fun (p : Nat × Sy.Cont) => Blk.mk (Prod.fst p) (Prod.snd p) true) (q.1 z11 z10)) (Sy.LoopU.rest (Sy.LoopU.mk (Code.loop bodyF) (100 : Nat) [((5 : Nat), Value.pointer (some (Addr.mk (Let.n (ns 1)) (0 : Nat) none))), ((6 : Nat), Value.pointer (some (Addr.mk (Let.n (ns 3)) (0 : Nat) none))), ((86 : Nat), Value.slice (slP z4) z12 (slC z4)), ((87 : Nat), Value.int IntKind.i64 (Int.ofNat z12)), ((88 : Nat), Value.int IntKind.i64 (0 : Int))] (q.2 z11 z10 ∧ w.2 z13 (fsIn (Let.n (ns 3)) z13 (posF b (0 : Nat) acts) (others (List.append (others (List.append TL (List.map (fun (p : Nat × Sy.Cont) => Blk.mk (Prod.fst p) (Prod.snd p) true) (List.append (rowB z2 z3) (List.append (frowB z4 z5) (boxB (Let.n (ns 3)) z5))))) (List.map (fun (p : Nat × Sy.Cont) => Blk.mk (Prod.fst p) (Prod.snd p) true) (q.1 z7 z3))) (List.map (fun (p : Nat × Sy.Cont) => Blk.mk (Prod.fst p) (Prod.snd p) true) (q.1 z9 z10))) (List.map (fun (p : Nat × Sy.Cont) => Blk.mk (Prod.fst p) (Prod.snd p) true) (q.1 z11 z10)))) ∧ OkF z14 z10 (fsIn (Let.n (ns 3)) z13 (posF b (0 : Nat) acts) (others (List.append (others (List.append TL (List.map (fun (p : Nat × Sy.Cont) => Blk.mk (Prod.fst p) (Prod.snd p) true) (List.append (rowB z2 z3) (List.append (frowB z4 z5) (boxB (Let.n (ns 3)) z5))))) (List.map (fun (p : Nat × Sy.Cont) => Blk.mk (Prod.fst p) (Prod.snd p) true) (q.1 z7 z3))) (List.map (fun (p : Nat × Sy.Cont) => Blk.mk (Prod.fst p) (Prod.snd p) true) (q.1 z9 z10))) (List.map (fun (p : Nat × Sy.Cont) => Blk.mk
 (Prod.fst p) (Prod.snd p) true) (q.1 z11 z10))))) [] (0 : Nat) (w.1 (Let.n (ns 3)) z13 (fsIn (Let.n (ns 3)) z13 (posF b (0 : Nat) acts) (others (List.append (others (List.append TL (List.map (fun (p : Nat × Sy.Cont) => Blk.mk (Prod.fst p) (Prod.snd p) true) (List.append (rowB z2 z3) (List.append (frowB z4 z5) (boxB (Let.n (ns 3)) z5))))) (List.map (fun (p : Nat × Sy.Cont) => Blk.mk (Prod.fst p) (Prod.snd p) true) (q.1 z7 z3))) (List.map (fun (p : Nat × Sy.Cont) => Blk.mk (Prod.fst p) (Prod.snd p) true) (q.1 z9 z10))) (List.map (fun (p : Nat × Sy.Cont) => Blk.mk (Prod.fst p) (Prod.snd p) true) (q.1 z11 z10))))) [(Sy.OutM.mk (fun (x : List Let) => True) (fun (x : List Let) => [(Let.n (ns 3), layC z11 (Value.map (some (Let.n (ns 2)))) z13 (0 : Int) b), (Let.n (ns 2), Sy.Cont.obj (begM z14))]) fun (x : List Let) => q.1 z11 (fillAll z14 z10 (fsIn (Let.n (ns 3)) z13 (posF b (0 : Nat) acts) (others (List.append (others (List.append TL (List.map (fun (p : Nat × Sy.Cont) => Blk.mk (Prod.fst p) (Prod.snd p) true) (List.append (rowB z2 z3) (List.append (frowB z4 z5) (boxB (Let.n (ns 3)) z5))))) (List.map (fun (p : Nat × Sy.Cont) => Blk.mk (Prod.fst p) (Prod.snd p) true) (q.1 z7 z3))) (List.map (fun (p : Nat × Sy.Cont) => Blk.mk (Prod.fst p) (Prod.snd p) true) (q.1 z9 z10))) (List.map (fun (p : Nat × Sy.Cont) => Blk.mk (Prod.fst p) (Prod.snd p) true) (q.1 z11 z10))))), Exit.exit (2 : Nat), fun (x : List Let) => [((5 : Nat), Value.pointer (some (Addr.mk (Let.n (ns 1)) (0 : Nat) none))),
 ((6 : Nat), Value.pointer (some (Addr.mk (Let.n (ns 3)) (0 : Nat) none)))])] [(Let.n (ns 3), layC z11 (Value.map (some (Let.n (ns 2)))) z13 (0 : Int) b), (Let.n (ns 2), Sy.Cont.obj (begM z14))] (q.1 z11 z10) (others (List.append (others (List.append TL (List.map (fun (p : Nat × Sy.Cont) => Blk.mk (Prod.fst p) (Prod.snd p) true) (List.append (rowB z2 z3) (List.append (frowB z4 z5) (boxB (Let.n (ns 3)) z5))))) (List.map (fun (p : Nat × Sy.Cont) => Blk.mk (Prod.fst p) (Prod.snd p) true) (q.1 z7 z3))) (List.map (fun (p : Nat × Sy.Cont) => Blk.mk (Prod.fst p) (Prod.snd p) true) (q.1 z9 z10))) (List.map (fun (p : Nat × Sy.Cont) => Blk.mk (Prod.fst p) (Prod.snd p) true) (q.1 z11 z10))))))) (Sy.Res.need (Sy.GotL (Sy.LoopU.rest (Sy.LoopU.mk (Code.loop bodyF) (100 : Nat) [((5 : Nat), Value.pointer (some (Addr.mk (Let.n (ns 1)) (0 : Nat) none))), ((6 : Nat), Value.pointer (some (Addr.mk (Let.n (ns 3)) (0 : Nat) none))), ((86 : Nat), Value.slice (slP z4) z12 (slC z4)), ((87 : Nat), Value.int IntKind.i64 (Int.ofNat z12)), ((88 : Nat), Value.int IntKind.i64 (0 : Int))] (q.2 z11 z10 ∧ w.2 z13 (fsIn (Let.n (ns 3)) z13 (posF b (0 : Nat) acts) (others (List.append (others (List.append TL (List.map (fun (p : Nat × Sy.Cont) => Blk.mk (Prod.fst p) (Prod.snd p) true) (List.append (rowB z2 z3) (List.append (frowB z4 z5) (boxB (Let.n (ns 3)) z5))))) (List.map (fun (p : Nat × Sy.Cont) => Blk.mk (Prod.fst p) (Prod.snd p) true) (q.1 z7 z3))) (List.map (fun (p : Nat × Sy.Cont) => Blk.mk (Prod.fst p)
 (Prod.snd p) true) (q.1 z9 z10))) (List.map (fun (p : Nat × Sy.Cont) => Blk.mk (Prod.fst p) (Prod.snd p) true) (q.1 z11 z10)))) ∧ OkF z14 z10 (fsIn (Let.n (ns 3)) z13 (posF b (0 : Nat) acts) (others (List.append (others (List.append TL (List.map (fun (p : Nat × Sy.Cont) => Blk.mk (Prod.fst p) (Prod.snd p) true) (List.append (rowB z2 z3) (List.append (frowB z4 z5) (boxB (Let.n (ns 3)) z5))))) (List.map (fun (p : Nat × Sy.Cont) => Blk.mk (Prod.fst p) (Prod.snd p) true) (q.1 z7 z3))) (List.map (fun (p : Nat × Sy.Cont) => Blk.mk (Prod.fst p) (Prod.snd p) true) (q.1 z9 z10))) (List.map (fun (p : Nat × Sy.Cont) => Blk.mk (Prod.fst p) (Prod.snd p) true) (q.1 z11 z10))))) [] (0 : Nat) (w.1 (Let.n (ns 3)) z13 (fsIn (Let.n (ns 3)) z13 (posF b (0 : Nat) acts) (others (List.append (others (List.append TL (List.map (fun (p : Nat × Sy.Cont) => Blk.mk (Prod.fst p) (Prod.snd p) true) (List.append (rowB z2 z3) (List.append (frowB z4 z5) (boxB (Let.n (ns 3)) z5))))) (List.map (fun (p : Nat × Sy.Cont) => Blk.mk (Prod.fst p) (Prod.snd p) true) (q.1 z7 z3))) (List.map (fun (p : Nat × Sy.Cont) => Blk.mk (Prod.fst p) (Prod.snd p) true) (q.1 z9 z10))) (List.map (fun (p : Nat × Sy.Cont) => Blk.mk (Prod.fst p) (Prod.snd p) true) (q.1 z11 z10))))) [(Sy.OutM.mk (fun (x : List Let) => True) (fun (x : List Let) => [(Let.n (ns 3), layC z11 (Value.map (some (Let.n (ns 2)))) z13 (0 : Int) b), (Let.n (ns 2), Sy.Cont.obj (begM z14))]) fun (x : List Let) => q.1 z11 (fillAll z14 z10 (fsIn (Let.n (ns 3)) z13 (posF
 b (0 : Nat) acts) (others (List.append (others (List.append TL (List.map (fun (p : Nat × Sy.Cont) => Blk.mk (Prod.fst p) (Prod.snd p) true) (List.append (rowB z2 z3) (List.append (frowB z4 z5) (boxB (Let.n (ns 3)) z5))))) (List.map (fun (p : Nat × Sy.Cont) => Blk.mk (Prod.fst p) (Prod.snd p) true) (q.1 z7 z3))) (List.map (fun (p : Nat × Sy.Cont) => Blk.mk (Prod.fst p) (Prod.snd p) true) (q.1 z9 z10))) (List.map (fun (p : Nat × Sy.Cont) => Blk.mk (Prod.fst p) (Prod.snd p) true) (q.1 z11 z10))))), Exit.exit (2 : Nat), fun (x : List Let) => [((5 : Nat), Value.pointer (some (Addr.mk (Let.n (ns 1)) (0 : Nat) none))), ((6 : Nat), Value.pointer (some (Addr.mk (Let.n (ns 3)) (0 : Nat) none)))])] [(Let.n (ns 3), layC z11 (Value.map (some (Let.n (ns 2)))) z13 (0 : Int) b), (Let.n (ns 2), Sy.Cont.obj (begM z14))] (q.1 z11 z10) (others (List.append (others (List.append TL (List.map (fun (p : Nat × Sy.Cont) => Blk.mk (Prod.fst p) (Prod.snd p) true) (List.append (rowB z2 z3) (List.append (frowB z4 z5) (boxB (Let.n (ns 3)) z5))))) (List.map (fun (p : Nat × Sy.Cont) => Blk.mk (Prod.fst p) (Prod.snd p) true) (q.1 z7 z3))) (List.map (fun (p : Nat × Sy.Cont) => Blk.mk (Prod.fst p) (Prod.snd p) true) (q.1 z9 z10))) (List.map (fun (p : Nat × Sy.Cont) => Blk.mk (Prod.fst p) (Prod.snd p) true) (q.1 z11 z10))))) (w.1 (Let.n (ns 3)) z13 (fsIn (Let.n (ns 3)) z13 (posF b (0 : Nat) acts) (others (List.append (others (List.append TL (List.map (fun (p : Nat × Sy.Cont) => Blk.mk (Prod.fst p) (Prod.snd p)
 true) (List.append (rowB z2 z3) (List.append (frowB z4 z5) (boxB (Let.n (ns 3)) z5))))) (List.map (fun (p : Nat × Sy.Cont) => Blk.mk (Prod.fst p) (Prod.snd p) true) (q.1 z7 z3))) (List.map (fun (p : Nat × Sy.Cont) => Blk.mk (Prod.fst p) (Prod.snd p) true) (q.1 z9 z10))) (List.map (fun (p : Nat × Sy.Cont) => Blk.mk (Prod.fst p) (Prod.snd p) true) (q.1 z11 z10)))))) (Sy.Res.hyp True (Sy.Res.leaf (Value.tuple (Array.mk [Value.slice (slP z9) (Sy.lenS z9) (slC z9), Value.agg (Array.mk [Value.int IntKind.i64 (0 : Int), Value.int IntKind.i64 (0 : Int), Value.int IntKind.i64 (0 : Int)])]), List.append (Sy.LoopU.rest (Sy.LoopU.mk (Code.loop bodyF) (100 : Nat) [((5 : Nat), Value.pointer (some (Addr.mk (Let.n (ns 1)) (0 : Nat) none))), ((6 : Nat), Value.pointer (some (Addr.mk (Let.n (ns 3)) (0 : Nat) none))), ((86 : Nat), Value.slice (slP z4) z12 (slC z4)), ((87 : Nat), Value.int IntKind.i64 (Int.ofNat z12)), ((88 : Nat), Value.int IntKind.i64 (0 : Int))] (q.2 z11 z10 ∧ w.2 z13 (fsIn (Let.n (ns 3)) z13 (posF b (0 : Nat) acts) (others (List.append (others (List.append TL (List.map (fun (p : Nat × Sy.Cont) => Blk.mk (Prod.fst p) (Prod.snd p) true) (List.append (rowB z2 z3) (List.append (frowB z4 z5) (boxB (Let.n (ns 3)) z5))))) (List.map (fun (p : Nat × Sy.Cont) => Blk.mk (Prod.fst p) (Prod.snd p) true) (q.1 z7 z3))) (List.map (fun (p : Nat × Sy.Cont) => Blk.mk (Prod.fst p) (Prod.snd p) true) (q.1 z9 z10))) (List.map (fun (p : Nat × Sy.Cont) => Blk.mk (Prod.fst p) (Prod.snd p) true) (q.1
 z11 z10)))) ∧ OkF z14 z10 (fsIn (Let.n (ns 3)) z13 (posF b (0 : Nat) acts) (others (List.append (others (List.append TL (List.map (fun (p : Nat × Sy.Cont) => Blk.mk (Prod.fst p) (Prod.snd p) true) (List.append (rowB z2 z3) (List.append (frowB z4 z5) (boxB (Let.n (ns 3)) z5))))) (List.map (fun (p : Nat × Sy.Cont) => Blk.mk (Prod.fst p) (Prod.snd p) true) (q.1 z7 z3))) (List.map (fun (p : Nat × Sy.Cont) => Blk.mk (Prod.fst p) (Prod.snd p) true) (q.1 z9 z10))) (List.map (fun (p : Nat × Sy.Cont) => Blk.mk (Prod.fst p) (Prod.snd p) true) (q.1 z11 z10))))) [] (0 : Nat) (w.1 (Let.n (ns 3)) z13 (fsIn (Let.n (ns 3)) z13 (posF b (0 : Nat) acts) (others (List.append (others (List.append TL (List.map (fun (p : Nat × Sy.Cont) => Blk.mk (Prod.fst p) (Prod.snd p) true) (List.append (rowB z2 z3) (List.append (frowB z4 z5) (boxB (Let.n (ns 3)) z5))))) (List.map (fun (p : Nat × Sy.Cont) => Blk.mk (Prod.fst p) (Prod.snd p) true) (q.1 z7 z3))) (List.map (fun (p : Nat × Sy.Cont) => Blk.mk (Prod.fst p) (Prod.snd p) true) (q.1 z9 z10))) (List.map (fun (p : Nat × Sy.Cont) => Blk.mk (Prod.fst p) (Prod.snd p) true) (q.1 z11 z10))))) [(Sy.OutM.mk (fun (x : List Let) => True) (fun (x : List Let) => [(Let.n (ns 3), layC z11 (Value.map (some (Let.n (ns 2)))) z13 (0 : Int) b), (Let.n (ns 2), Sy.Cont.obj (begM z14))]) fun (x : List Let) => q.1 z11 (fillAll z14 z10 (fsIn (Let.n (ns 3)) z13 (posF b (0 : Nat) acts) (others (List.append (others (List.append TL (List.map (fun (p : Nat × Sy.Cont) => Blk.mk
 (Prod.fst p) (Prod.snd p) true) (List.append (rowB z2 z3) (List.append (frowB z4 z5) (boxB (Let.n (ns 3)) z5))))) (List.map (fun (p : Nat × Sy.Cont) => Blk.mk (Prod.fst p) (Prod.snd p) true) (q.1 z7 z3))) (List.map (fun (p : Nat × Sy.Cont) => Blk.mk (Prod.fst p) (Prod.snd p) true) (q.1 z9 z10))) (List.map (fun (p : Nat × Sy.Cont) => Blk.mk (Prod.fst p) (Prod.snd p) true) (q.1 z11 z10))))), Exit.exit (2 : Nat), fun (x : List Let) => [((5 : Nat), Value.pointer (some (Addr.mk (Let.n (ns 1)) (0 : Nat) none))), ((6 : Nat), Value.pointer (some (Addr.mk (Let.n (ns 3)) (0 : Nat) none)))])] [(Let.n (ns 3), layC z11 (Value.map (some (Let.n (ns 2)))) z13 (0 : Int) b), (Let.n (ns 2), Sy.Cont.obj (begM z14))] (q.1 z11 z10) (others (List.append (others (List.append TL (List.map (fun (p : Nat × Sy.Cont) => Blk.mk (Prod.fst p) (Prod.snd p) true) (List.append (rowB z2 z3) (List.append (frowB z4 z5) (boxB (Let.n (ns 3)) z5))))) (List.map (fun (p : Nat × Sy.Cont) => Blk.mk (Prod.fst p) (Prod.snd p) true) (q.1 z7 z3))) (List.map (fun (p : Nat × Sy.Cont) => Blk.mk (Prod.fst p) (Prod.snd p) true) (q.1 z9 z10))) (List.map (fun (p : Nat × Sy.Cont) => Blk.mk (Prod.fst p) (Prod.snd p) true) (q.1 z11 z10))))) (List.map (fun (p : Nat × Sy.Cont) => Blk.mk (Prod.fst p) (Prod.snd p) true) (q.1 z11 (fillAll z14 z10 (fsIn (Let.n (ns 3)) z13 (posF b (0 : Nat) acts) (others (List.append (others (List.append TL (List.map (fun (p : Nat × Sy.Cont) => Blk.mk (Prod.fst p) (Prod.snd p) true) (List.append (rowB z2 z3)
 (List.append (frowB z4 z5) (boxB (Let.n (ns 3)) z5))))) (List.map (fun (p : Nat × Sy.Cont) => Blk.mk (Prod.fst p) (Prod.snd p) true) (q.1 z7 z3))) (List.map (fun (p : Nat × Sy.Cont) => Blk.mk (Prod.fst p) (Prod.snd p) true) (q.1 z9 z10))) (List.map (fun (p : Nat × Sy.Cont) => Blk.mk (Prod.fst p) (Prod.snd p) true) (q.1 z11 z10)))))))))))))))))))))))
theorem ld0_run (q : Rw) (w : Fw) (TL : List Blk) (b : Bool) (acts : List ActD) (loc : Int) (av : Value) (B : List (Nat × Sy.Cont)) : Sy.Ran (Sy.inY Tryz.prog (ctxLd q w b acts av B 5 5) 50 fLaid #[thrV loc av, .bool b] TL 0) ld0_o (ld0_R q w TL b acts loc av B) := ⟨fun ns => by kernel_rfl, fun ns => by kernel_rfl⟩
end Go.Proofs.YtlpcnaeknbmjdaaGreat.Gn

namespace Go.Proofs.YtlpcnaeknbmjdaaGreat.Gn
open Go Go.RowKit
open Go.Proofs.YtlpcnaeknbmjdaaGreat.Sy (Let Blk HasL)
open Lw (I insCells tI)
def fillP (bs : List Int) (X : List I) (pos : List (Int × Int)) : List I := pos.foldl (fun X p => setImm X p.2.toNat (bs.getD p.1.toNat 0 - p.2)) X
theorem fillAll_pos (bs : List Int) (X : List I) (fs : List Fl) : fillAll bs X fs = fillP bs X (fs.map posOf) := by
  induction fs generalizing X with
  | nil => rfl
  | cons f r ih => exact ih _
noncomputable def doneI (b : Bool) (acts : List ActD) : List I := fillP (begAll b acts) (hltL b acts) (posF b 0 acts)
theorem begF_len (b : Bool) (n : Nat) (acts : List ActD) : (begF b n acts).length = acts.length := by
  induction acts generalizing n with
  | nil => rfl
  | cons a r ih => simp [begF, ih]
theorem layL_cons (b : Bool) (a : ActD) (r : List ActD) : (layL b (a :: r)).length = (insA b a).length + (layL b r).length := by simp [layL]
theorem begF_bd (b : Bool) (n : Nat) (acts : List ActD) (i : Nat) (x : Int) (h : (begF b n acts)[i]? = some x) : (n : Int) ≤ x ∧ x ≤ (n : Int) + (layL b acts).length := by
  induction acts generalizing n i with
  | nil => simp [begF] at h
  | cons a r ih =>
    have hl := layL_cons b a r
    cases i with
    | zero =>
      simp only [begF, List.getElem?_cons_zero, Option.some.injEq, Int.ofNat_eq_natCast] at h
      omega
    | succ i =>
      simp only [begF, List.getElem?_cons_succ] at h
      have := ih _ _ h
      omega
theorem tail_pos (b : Bool) (a : ActD) (h : a.op = 9 ∨ a.op = 10) : (tailB b a).length = 1 := by
  rcases h with h | h <;> cases b <;> simp [tailB, tailL, tailI, h]
theorem posF_bd (b : Bool) (n : Nat) (acts : List ActD) (p : Int × Int) (h : p ∈ posF b n acts) : (∃ a ∈ acts, (a.op = 9 ∨ a.op = 10) ∧ p.1 = a.to) ∧ (n : Int) ≤ p.2 ∧ p.2 < (n : Int) + (layL b acts).length := by
  induction acts generalizing n with
  | nil => cases h
  | cons a r ih =>
    have hl := layL_cons b a r
    simp only [posF, List.mem_append] at h
    rcases h with h | h
    · unfold posA at h
      split at h
      · rename_i hop
        rcases List.mem_singleton.1 h with rfl
        have ht := tail_pos b a hop
        have : (insA b a).length = (preI a).length + (tailB b a).length := by simp [insA]
        refine ⟨⟨a, List.mem_cons_self, hop, rfl⟩, ?_, ?_⟩
        · simp only [Int.ofNat_eq_natCast]
          omega
        · simp only [Int.ofNat_eq_natCast]
          omega
      · cases h
    · obtain ⟨⟨x, hx, h1⟩, h2, h3⟩ := ih _ h
      exact ⟨⟨x, List.mem_cons_of_mem _ hx, h1⟩, by omega, by omega⟩
noncomputable def laidF (q : Rw) (loc : Int) (av : Value) (b : Bool) (acts : List ActD) (B : List (Nat × Sy.Cont)) : Sy.CallC :=
  ⟨fLaid, #[thrV loc av, .bool b], OkL B av acts ∧ ∀ a ∈ acts, a.op = 9 ∨ a.op = 10 → 0 ≤ a.to ∧ a.to ≤ acts.length, ⟨[], [], 1, B⟩,
    [(⟨fun _ => faultF b 0 acts ≠ none, fun _ => [], fun _ => []⟩, fun _ => .tuple #[.slice none 0 0, .agg #[.int .i64 (fltV b acts).1, .int .i64 (fltV b acts).2.1, .int .i64 (fltV b acts).2.2]]),
     (⟨fun ns => faultF b 0 acts = none ∧ q.V (lv0 ns) (doneI b acts), fun _ => [], fun ns => q.B (lv0 ns) (doneI b acts)⟩, fun ns => .tuple #[slV (lv0 ns), .agg #[.int .i64 0, .int .i64 0, .int .i64 0]])]⟩
theorem okF_of {b : Bool} {acts : List ActD} {fs : List Fl} (hT : ∀ a ∈ acts, a.op = 9 ∨ a.op = 10 → 0 ≤ a.to ∧ a.to ≤ acts.length) (hp : fs.map posOf = posF b 0 acts) (hn : (layL b acts).length ≤ 16383) (hm : fs.length ≤ 2000000) : OkF (begAll b acts) (hltL b acts) fs := by
  refine ⟨fun j f hf => ?_, fun i x hx => ?_, by simp [hltL]; omega, hm⟩
  · have hmem : posOf f ∈ posF b 0 acts := by
      rw [← hp]
      exact List.mem_map.2 ⟨f, List.mem_of_getElem? hf, rfl⟩
    obtain ⟨⟨a, ha, hop, he⟩, h1, h2⟩ := posF_bd b 0 acts _ hmem
    have he : f.to = a.to := he
    have h1 : (0 : Int) ≤ f.at' := by simpa [posOf] using h1
    have h2 : f.at' < (layL b acts).length := by simpa [posOf] using h2
    obtain ⟨t1, t2⟩ := hT a ha hop
    refine ⟨by omega, h1, ?_, ?_⟩
    · simp only [begAll, List.length_append, begF_len, List.length_singleton]
      omega
    · simp only [hltL, List.length_append, List.length_singleton]
      omega
  · unfold begAll at hx
    by_cases hi : i < (begF b 0 acts).length
    · rw [List.getElem?_append_left hi] at hx
      have := begF_bd b 0 acts i x hx
      omega
    · rw [List.getElem?_append_right (by omega)] at hx
      have : x = Int.ofNat (layL b acts).length := by
        rcases List.getElem?_eq_some_iff.1 hx with ⟨h, h'⟩
        simpa using h'.symm
      rw [this]
      simp only [Int.ofNat_eq_natCast]
      omega
theorem fs_len {b : Bool} {acts : List ActD} {fs : List Fl} (hp : fs.map posOf = posF b 0 acts) : fs.length ≤ (layL b acts).length := by
  have h : ∀ (l : List ActD) (n : Nat), (posF b n l).length ≤ (layL b l).length := fun l => by
    induction l with
    | nil => intro n; exact Nat.le_refl _
    | cons a r ih =>
      intro n
      have := ih (n + (insA b a).length)
      have h2 : (posA n a).length ≤ (insA b a).length := by
        unfold posA
        split
        · rename_i hop
          have := tail_pos b a hop
          simp only [List.length_singleton, insA, List.length_append]
          omega
        · simp
      rw [layL_cons]
      simp only [posF, List.length_append]
      omega
  have := h acts 0
  rw [← hp, List.length_map] at this
  exact this
theorem ctxLd_holds (b : Bool) (acts : List ActD) (av : Value) (B : List (Nat × Sy.Cont)) (k1 k2 : Nat) : (ctxLd rowQ fillQ b acts av B k1 k2).holds Tryz.prog := Sy.mkU_holds (Sy.mkS_holds (fun _ h => (by cases h)) (fun p hp a L => by
  rcases List.mem_singleton.1 hp with rfl
  exact laidC_met _ _ _ _ _ _ _ _) (fun p hp a L => by
  rcases List.mem_singleton.1 hp with rfl
  exact upN_met _ _ _ _ _)) (fun p hp args L => by
  rcases List.mem_singleton.1 hp with rfl
  exact putL_met _ _ _ _ _ _ _ _ _ _) (fun p hp a L => by
  rcases List.mem_singleton.1 hp with rfl
  exact fillsC_met _ _ _ _ _ _ _ _ _)
theorem laidF_met (loc : Int) (av : Value) (b : Bool) (acts : List ActD) (B : List (Nat × Sy.Cont)) : Sy.Meets Tryz.prog (laidF rowQ loc av b acts B) := by
  refine Sy.meets_ofY (k := 0) (ctxLd_holds b acts av B 5 5) mixed (L := rdOf B) (Sy.Ent.refl _) (ld0_run rowQ fillQ (rdOf B) b acts loc av B) fun hok ns => ?_
  obtain ⟨hL, hT⟩ := hok
  have hR := hL.at_
  simp only [ld0_R, Sy.Res.holds]
  refine ⟨hR.sl, hL, gotL_of (fun p hp => hp), ⟨fun h1 => ?_, fun h1 => ?_⟩⟩
  · exact ⟨_, List.mem_cons_self, [Let.none], rfl, rfl, Sy.Ent.sub (List.nil_sublist _), h1⟩
  · obtain ⟨hf, hV, hW, hp, hn⟩ := h1
    have o1 : ∀ v X, (rdOf B ++ ((rowB v X ++ fillB (ns 3).n (letW [ns 4, ns 5, ns 6] 1) (fsL b acts [ns 4, ns 5, ns 6])).map Sy.ownOf)).Perm ((rowB (slV v) X).map Sy.ownOf ++ others (rdOf B ++ ((rowB v X ++ fillB (ns 3).n (letW [ns 4, ns 5, ns 6] 1) (fsL b acts [ns 4, ns 5, ns 6])).map Sy.ownOf)) ((rowB (slV v) X).map Sy.ownOf)) ∧
        (others (rdOf B ++ ((rowB v X ++ fillB (ns 3).n (letW [ns 4, ns 5, ns 6] 1) (fsL b acts [ns 4, ns 5, ns 6])).map Sy.ownOf)) ((rowB (slV v) X).map Sy.ownOf)).Perm (rdOf B ++ (fillB (ns 3).n (letW [ns 4, ns 5, ns 6] 1) (fsL b acts [ns 4, ns 5, ns 6])).map Sy.ownOf) := fun v X => by
      refine others_spec ?_
      rw [List.map_append]
      exact List.perm_append_comm_assoc _ _ _
    refine ⟨hR.sl, ⟨by rw [begF_len, hR.len], by rw [hV.len]⟩, fun _ => ⟨⟨hV, by simp, by omega⟩, ?_, fun k9 => ?_⟩⟩
    · exact (o1 _ _).1
    · have o2 : ∀ U : List Blk, (others (rdOf B ++ ((rowB (letW [ns 4, ns 5, ns 6] 0) (layL b acts) ++ fillB (ns 3).n (letW [ns 4, ns 5, ns 6] 1) (fsL b acts [ns 4, ns 5, ns 6])).map Sy.ownOf)) ((rowB (slV (letW [ns 4, ns 5, ns 6] 0)) (layL b acts)).map Sy.ownOf) ++ U).Perm (U ++ others (rdOf B ++ ((rowB (letW [ns 4, ns 5, ns 6] 0) (layL b acts) ++ fillB (ns 3).n (letW [ns 4, ns 5, ns 6] 1) (fsL b acts [ns 4, ns 5, ns 6])).map Sy.ownOf)) ((rowB (slV (letW [ns 4, ns 5, ns 6] 0)) (layL b acts)).map Sy.ownOf)) := fun U => List.perm_append_comm
      have p2 := others_spec (T := _ ++ (rowB (lv0 [ns 9]) (layL b acts ++ [hltI])).map Sy.ownOf) (U := (rowB (slV (lv0 [ns 9])) (layL b acts ++ [hltI])).map Sy.ownOf) (o2 ((rowB (lv0 [ns 9]) (layL b acts ++ [hltI])).map Sy.ownOf))
      have hgot : Sy.GotL (others (others (rdOf B ++ ((rowB (letW [ns 4, ns 5, ns 6] 0) (layL b acts) ++ fillB (ns 3).n (letW [ns 4, ns 5, ns 6] 1) (fsL b acts [ns 4, ns 5, ns 6])).map Sy.ownOf)) ((rowB (slV (letW [ns 4, ns 5, ns 6] 0)) (layL b acts)).map Sy.ownOf) ++ (rowB (lv0 [ns 9]) (layL b acts ++ [hltI])).map Sy.ownOf) ((rowB (slV (lv0 [ns 9])) (layL b acts ++ [hltI])).map Sy.ownOf)) (fillB (ns 3).n (slV (letW [ns 4, ns 5, ns 6] 1)) (fsL b acts [ns 4, ns 5, ns 6])) := got_self _ _ fun p hp => by
        refine ⟨Sy.ownOf p, ?_, rfl, rfl⟩
        refine p2.2.symm.subset ((o1 _ _).2.symm.subset (List.mem_append_right _ (List.mem_map.2 ⟨p, hp, rfl⟩)))
      have sp := fsIn_spec (pos := posF b 0 acts) ⟨hgot, hW, hp⟩
      have hm := fs_len sp.2.2
      have hd : ∀ fs : List Fl, fs.map posOf = posF b 0 acts → doneI b acts = fillAll (begAll b acts) (hltL b acts) fs := fun fs h => by rw [fillAll_pos, h]; rfl
      have hd := hd _ sp.2.2
      have hact : (layL b acts).length ≤ 2000000 := by omega
      refine ⟨⟨k9, sp.2.1, okF_of hT sp.2.2 hn (Nat.le_trans hm hact)⟩, p2.1, sp.1, fun _ => ?_⟩
      refine ⟨_, List.mem_cons_of_mem _ (List.mem_singleton_self _), [ns 9], rfl, rfl, ?_, hf, ?_⟩
      · show Sy.Ent _ ((rowB (slV (lv0 [ns 9])) (doneI b acts)).map Sy.ownOf)
        rw [hd]
        exact Sy.Ent.sub (List.sublist_append_right _ _)
      · show RowV (lv0 [ns 9]) (doneI b acts)
        rw [hd]
        exact RowV.to k9 (fillAll_len _ _ _)
end Go.Proofs.YtlpcnaeknbmjdaaGreat.Gn

namespace Go.Proofs.YtlpcnaeknbmjdaaGreat.Gn
set_option linter.unusedVariables false
set_option linter.unusedSimpArgs false
open Go Go.RowKit
open Go.Proofs.YtlpcnaeknbmjdaaGreat.Sy (Let Blk HasL)
open Lw (I insCells tI)
def OkT (acts : List ActD) : Prop := ∀ a ∈ acts, a.op = 9 ∨ a.op = 10 → 0 ≤ a.to ∧ a.to ≤ acts.length
noncomputable def laidBy (q : Rw) (b : Bool) (acts : List ActD) (B : List (Nat × Sy.Cont)) (args : Array Value) : Sy.CallC :=
  { laidF q 0 undef b acts B with args := args, ok := ∃ loc av, args = #[thrV loc av, .bool b] ∧ OkL B av acts ∧ OkT acts }
theorem laidBy_met (b : Bool) (acts : List ActD) (B : List (Nat × Sy.Cont)) (args : Array Value) : Sy.Meets Tryz.prog (laidBy rowQ b acts B args) := by
  rintro ⟨loc, av, rfl, h⟩
  exact laidF_met loc av b acts B h
noncomputable def ctxOn (q : Rw) (b : Bool) (acts : List ActD) (B : List (Nat × Sy.Cont)) (tv : Value) (l : List ThreadD) (cells : Int) : Sy.Ctx := Sy.mkS [(fWhole, fun _ _ => wholeC B tv l cells), (fLaid, fun a _ => laidBy q b acts B a)] [] []
theorem ctxOn_holds (b : Bool) (acts : List ActD) (B : List (Nat × Sy.Cont)) (tv : Value) (l : List ThreadD) (cells : Int) : (ctxOn rowQ b acts B tv l cells).holds Tryz.prog := Sy.mkS_holds (fun p hp a L => by
  rcases List.mem_cons.1 hp with rfl | hp
  · exact wholeC_met _ _ _ _
  rcases List.mem_singleton.1 hp with rfl
  exact laidBy_met _ _ _ _) (fun _ h => (by cases h)) (fun _ h => (by cases h))
abbrev fOne : FuncId := 25
def on_o : Sy.O := (Sy.O.pack 14 0x80210804100020 (Sy.O.fork (Sy.O.pack 7 0x80000000 Sy.O.nil) (Sy.O.pack 10 0x410082100020 (Sy.O.fork (Sy.O.pack 9 0x20000000020 Sy.O.nil) (Sy.O.pack 9 0x20000000021 Sy.O.nil)))))
noncomputable def on_R (q : Rw) (TL : List Blk) (b : Bool) (acts : List ActD) (B : List (Nat × Sy.Cont)) (g : Nat) (o : Nat) (n : Nat) (c : Nat) (l : List ThreadD) (cells : Int) (th : Int) (ns : Nat → Sy.Let) : Sy.Res (Value × List Blk) :=
 let z0 := (o + Int.toNat th * (2 : Nat))
 let z1 := (o + Int.toNat th * (2 : Nat) + (1 : Nat))
 let z2 := (Prod.snd (fltV b acts))
 let z3 := (lv0 [ns (4 : Nat)])
 Sy.Res.need (ThreadsR B (Value.slice (some (Addr.mk g o none)) n c) l) (Sy.Res.need (Sy.GotL TL B) (Sy.Res.hyp True (Sy.Res.br (bif bif !wholeF cells l then true else Ex.ltQ th (0 : Int) then true else Ex.leQ (Int.ofNat n) th) (Sy.Res.leaf (Value.tuple (Array.mk [Value.slice none (0 : Nat) (0 : Nat), Value.agg (Array.mk [Value.int IntKind.i64 (1 : Int), Value.int IntKind.i64 (0 : Int), Value.int IntKind.i64 (0 : Int)])]), TL)) (Sy.Res.need ((0 : Int) ≤ th ∧ th < (↑n : Int)) (Sy.Res.need (∃ (i : Int), HasL TL g z0 (Value.int IntKind.i64 i)) (Sy.Res.hyp (∀ (u : Value), HasL TL g z0 u → u = Value.int IntKind.i64 (Let.i (ns 2))) (Sy.Res.need (∃ (v : Value), HasL TL g z1 v) (Sy.Res.hyp (∀ (u : Value), HasL TL g z1 u → u = Let.v (ns 3)) (Sy.Res.need (∃ (loc : Int), ∃ (av : Value), Array.mk [Value.agg (Array.mk [Value.int IntKind.i64 (Let.i (ns 2)), Let.v (ns 3)]), Value.bool b] = Array.mk [thrV loc av, Value.bool b] ∧ OkL B av acts ∧ OkT acts) (Sy.Res.need (Sy.GotL TL B) (Sy.Res.both (Sy.Res.hyp (faultF b (0 : Nat) acts = none → False) (Sy.Res.leaf (Value.tuple (Array.mk [Value.slice none (0 : Nat) (0 : Nat), Value.agg (Array.mk [Value.int IntKind.i64 (Prod.fst (fltV b acts)), Value.int IntKind.i64 (Prod.fst z2), Value.int IntKind.i64 (Prod.snd z2)])]), TL))) (Sy.Res.hyp (faultF b (0 : Nat) acts = none ∧ q.2 z3 (doneI b acts)) (Sy.Res.leaf (Value.tuple (Array.mk [Value.slice (slP z3) (Sy.lenS z3) (slC z3), Value.agg (Array.mk [Value.int IntKind.i64 (0 : Int), Value.int IntKind.i64
 (0 : Int), Value.int IntKind.i64 (0 : Int)])]), List.append TL (List.map (fun (p : Nat × Sy.Cont) => Blk.mk (Prod.fst p) (Prod.snd p) true) (q.1 z3 (doneI b acts)))))))))))))))))
theorem on_run (q : Rw) (TL : List Blk) (b : Bool) (acts : List ActD) (B : List (Nat × Sy.Cont)) (g o n c : Nat) (l : List ThreadD) (cells th : Int) : Sy.Ran (Sy.inY Tryz.prog (ctxOn q b acts B (.slice (some ⟨g, o, none⟩) n c) l cells) 50 fOne #[progV cells (.slice (some ⟨g, o, none⟩) n c), .int .i64 th, .bool b] TL 0) on_o (on_R q TL b acts B g o n c l cells th) := ⟨fun ns => by kernel_rfl, fun ns => by kernel_rfl⟩
end Go.Proofs.YtlpcnaeknbmjdaaGreat.Gn

namespace Go.Proofs.YtlpcnaeknbmjdaaGreat.Gn
set_option linter.unusedVariables false
set_option linter.unusedSimpArgs false
open Go Go.RowKit
open Go.Proofs.YtlpcnaeknbmjdaaGreat.Sy (Let Blk HasL)
open Lw (I insCells tI)
noncomputable def wholeN (B : List (Nat × Sy.Cont)) (tv : Value) (l : List ThreadD) (cells : Int) : Sy.CallC := { wholeC B tv l cells with ok := ThreadsR B tv l ∧ wholeF cells l = false, outs := [Sy.plainO (.bool false)] }
theorem wholeN_met (B : List (Nat × Sy.Cont)) (tv : Value) (l : List ThreadD) (cells : Int) : Sy.Meets Tryz.prog (wholeN B tv l cells) := by
  rintro ⟨h, hf⟩
  have := wholeC_met B tv l cells h
  rw [wholeC, hf] at this
  exact this
noncomputable def ctxO0 (B : List (Nat × Sy.Cont)) (tv : Value) (l : List ThreadD) (cells : Int) : Sy.Ctx := Sy.mkS [(fWhole, fun _ _ => wholeN B tv l cells)] [] []
theorem ctxO0_holds (B : List (Nat × Sy.Cont)) (tv : Value) (l : List ThreadD) (cells : Int) : (ctxO0 B tv l cells).holds Tryz.prog := Sy.mkS_holds (fun p hp a L => by
  rcases List.mem_singleton.1 hp with rfl
  exact wholeN_met _ _ _ _) (fun _ h => (by cases h)) (fun _ h => (by cases h))
def o0_o : Sy.O := (Sy.O.pack 30 0x4000000000000000000000000000804100020 Sy.O.nil)
noncomputable def o0_R (TL : List Blk) (b : Bool) (B : List (Nat × Sy.Cont)) (tv : Value) (l : List ThreadD) (cells : Int) (th : Int) (ns : Nat → Sy.Let) : Sy.Res (Value × List Blk) :=
 Sy.Res.need (ThreadsR B tv l ∧ wholeF cells l = false) (Sy.Res.need (Sy.GotL TL B) (Sy.Res.hyp True (Sy.Res.leaf (Value.tuple (Array.mk [Value.slice none (0 : Nat) (0 : Nat), Value.agg (Array.mk [Value.int IntKind.i64 (1 : Int), Value.int IntKind.i64 (0 : Int), Value.int IntKind.i64 (0 : Int)])]), TL))))
theorem o0_run (TL : List Blk) (b : Bool) (B : List (Nat × Sy.Cont)) (tv : Value) (l : List ThreadD) (cells th : Int) : Sy.Ran (Sy.inY Tryz.prog (ctxO0 B tv l cells) 50 fOne #[progV cells tv, .int .i64 th, .bool b] TL 0) o0_o (o0_R TL b B tv l cells th) := ⟨fun ns => by kernel_rfl, fun ns => by kernel_rfl⟩
def o2_o : Sy.O := (Sy.O.pack 14 0x80210804100020 (Sy.O.fork (Sy.O.pack 7 0x80000000 Sy.O.nil) (Sy.O.pack 9 0x20804108020 (Sy.O.fork (Sy.O.pack 9 0x20000000020 Sy.O.nil) (Sy.O.pack 9 0x20000000021 Sy.O.nil)))))
noncomputable def o2_R (q : Rw) (TL : List Blk) (b : Bool) (acts : List ActD) (B : List (Nat × Sy.Cont)) (c : Nat) (l : List ThreadD) (cells : Int) (th : Int) (ns : Nat → Sy.Let) : Sy.Res (Value × List Blk) :=
 let z0 := ((0 : Nat) + Int.toNat th * (2 : Nat))
 let z1 := ((0 : Nat) + Int.toNat th * (2 : Nat) + (1 : Nat))
 let z2 := (Prod.snd (fltV b acts))
 let z3 := (lv0 [ns (4 : Nat)])
 Sy.Res.need (ThreadsR B (Value.slice none (0 : Nat) c) l) (Sy.Res.need (Sy.GotL TL B) (Sy.Res.hyp True (Sy.Res.br (bif bif !wholeF cells l then true else Ex.ltQ th (0 : Int) then true else Ex.leQ (0 : Int) th) (Sy.Res.leaf (Value.tuple (Array.mk [Value.slice none (0 : Nat) (0 : Nat), Value.agg (Array.mk [Value.int IntKind.i64 (1 : Int), Value.int IntKind.i64 (0 : Int), Value.int IntKind.i64 (0 : Int)])]), TL)) (Sy.Res.need ((∃ (n : Nat), ∃ (c_1 : Nat), Value.slice none (0 : Nat) c = Value.slice (some (Addr.mk (0 : Nat) (0 : Nat) none)) n c_1) ∧ (0 : Int) ≤ th ∧ th < (0 : Int)) (Sy.Res.need (∃ (i : Int), HasL TL (0 : Nat) z0 (Value.int IntKind.i64 i)) (Sy.Res.hyp (∀ (u : Value), HasL TL (0 : Nat) z0 u → u = Value.int IntKind.i64 (Let.i (ns 2))) (Sy.Res.need (∃ (v : Value), HasL TL (0 : Nat) z1 v) (Sy.Res.hyp (∀ (u : Value), HasL TL (0 : Nat) z1 u → u = Let.v (ns 3)) (Sy.Res.need (∃ (loc : Int), ∃ (av : Value), Array.mk [Value.agg (Array.mk [Value.int IntKind.i64 (Let.i (ns 2)), Let.v (ns 3)]), Value.bool b] = Array.mk [thrV loc av, Value.bool b] ∧ OkL B av acts ∧ OkT acts) (Sy.Res.need (Sy.GotL TL B) (Sy.Res.both (Sy.Res.hyp (faultF b (0 : Nat) acts = none → False) (Sy.Res.leaf (Value.tuple (Array.mk [Value.slice none (0 : Nat) (0 : Nat), Value.agg (Array.mk [Value.int IntKind.i64 (Prod.fst (fltV b acts)), Value.int IntKind.i64 (Prod.fst z2), Value.int IntKind.i64 (Prod.snd z2)])]), TL))) (Sy.Res.hyp (faultF b (0 : Nat) acts = none ∧ q.2 z3 (doneI b acts)) (Sy.Res.leaf
 (Value.tuple (Array.mk [Value.slice (slP z3) (Sy.lenS z3) (slC z3), Value.agg (Array.mk [Value.int IntKind.i64 (0 : Int), Value.int IntKind.i64 (0 : Int), Value.int IntKind.i64 (0 : Int)])]), List.append TL (List.map (fun (p : Nat × Sy.Cont) => Blk.mk (Prod.fst p) (Prod.snd p) true) (q.1 z3 (doneI b acts)))))))))))))))))
theorem o2_run (q : Rw) (TL : List Blk) (b : Bool) (acts : List ActD) (B : List (Nat × Sy.Cont)) (c : Nat) (l : List ThreadD) (cells th : Int) : Sy.Ran (Sy.inY Tryz.prog (ctxOn q b acts B (.slice none 0 c) l cells) 50 fOne #[progV cells (.slice none 0 c), .int .i64 th, .bool b] TL 0) o2_o (o2_R q TL b acts B c l cells th) := ⟨fun ns => by kernel_rfl, fun ns => by kernel_rfl⟩
def o3_o : Sy.O := (Sy.O.pack 14 0x80210804100020 (Sy.O.fork (Sy.O.pack 7 0x80000000 Sy.O.nil) (Sy.O.pack 9 0x20804108020 (Sy.O.fork (Sy.O.pack 9 0x20000000020 Sy.O.nil) (Sy.O.pack 9 0x20000000021 Sy.O.nil)))))
noncomputable def o3_R (q : Rw) (TL : List Blk) (b : Bool) (acts : List ActD) (B : List (Nat × Sy.Cont)) (g : Nat) (o : Nat) (c : Nat) (sp : Nat) (l : List ThreadD) (cells : Int) (th : Int) (ns : Nat → Sy.Let) : Sy.Res (Value × List Blk) :=
 let z0 := (some (Addr.mk g o (some sp)))
 let z1 := (Value.slice z0 (0 : Nat) c)
 let z2 := (Sy.offS z1 + Int.toNat th * (2 : Nat))
 let z3 := (Sy.offS z1 + Int.toNat th * (2 : Nat) + (1 : Nat))
 let z4 := (Prod.snd (fltV b acts))
 let z5 := (lv0 [ns (4 : Nat)])
 Sy.Res.need (ThreadsR B z1 l) (Sy.Res.need (Sy.GotL TL B) (Sy.Res.hyp True (Sy.Res.br (bif bif !wholeF cells l then true else Ex.ltQ th (0 : Int) then true else Ex.leQ (0 : Int) th) (Sy.Res.leaf (Value.tuple (Array.mk [Value.slice none (0 : Nat) (0 : Nat), Value.agg (Array.mk [Value.int IntKind.i64 (1 : Int), Value.int IntKind.i64 (0 : Int), Value.int IntKind.i64 (0 : Int)])]), TL)) (Sy.Res.need ((∃ (n : Nat), ∃ (c_1 : Nat), Value.slice z0 (0 : Nat) c = Value.slice (some (Addr.mk (Sy.ptrS z1) (Sy.offS z1) none)) n c_1) ∧ (0 : Int) ≤ th ∧ th < (0 : Int)) (Sy.Res.need (∃ (i : Int), HasL TL g z2 (Value.int IntKind.i64 i)) (Sy.Res.hyp (∀ (u : Value), HasL TL g z2 u → u = Value.int IntKind.i64 (Let.i (ns 2))) (Sy.Res.need (∃ (v : Value), HasL TL g z3 v) (Sy.Res.hyp (∀ (u : Value), HasL TL g z3 u → u = Let.v (ns 3)) (Sy.Res.need (∃ (loc : Int), ∃ (av : Value), Array.mk [Value.agg (Array.mk [Value.int IntKind.i64 (Let.i (ns 2)), Let.v (ns 3)]), Value.bool b] = Array.mk [thrV loc av, Value.bool b] ∧ OkL B av acts ∧ OkT acts) (Sy.Res.need (Sy.GotL TL B) (Sy.Res.both (Sy.Res.hyp (faultF b (0 : Nat) acts = none → False) (Sy.Res.leaf (Value.tuple (Array.mk [Value.slice none (0 : Nat) (0 : Nat), Value.agg (Array.mk [Value.int IntKind.i64 (Prod.fst (fltV b acts)), Value.int IntKind.i64 (Prod.fst z4), Value.int IntKind.i64 (Prod.snd z4)])]), TL))) (Sy.Res.hyp (faultF b (0 : Nat) acts = none ∧ q.2 z5 (doneI b acts)) (Sy.Res.leaf (Value.tuple (Array.mk [Value.slice (slP z5) (Sy.lenS z5) (slC
 z5), Value.agg (Array.mk [Value.int IntKind.i64 (0 : Int), Value.int IntKind.i64 (0 : Int), Value.int IntKind.i64 (0 : Int)])]), List.append TL (List.map (fun (p : Nat × Sy.Cont) => Blk.mk (Prod.fst p) (Prod.snd p) true) (q.1 z5 (doneI b acts)))))))))))))))))
theorem o3_run (q : Rw) (TL : List Blk) (b : Bool) (acts : List ActD) (B : List (Nat × Sy.Cont)) (g o c sp : Nat) (l : List ThreadD) (cells th : Int) : Sy.Ran (Sy.inY Tryz.prog (ctxOn q b acts B (.slice (some ⟨g, o, some sp⟩) 0 c) l cells) 50 fOne #[progV cells (.slice (some ⟨g, o, some sp⟩) 0 c), .int .i64 th, .bool b] TL 0) o3_o (o3_R q TL b acts B g o c sp l cells th) := ⟨fun ns => by kernel_rfl, fun ns => by kernel_rfl⟩
noncomputable def goodT (cells : Int) (l : List ThreadD) (th : Int) : Prop := wholeF cells l = true ∧ 0 ≤ th ∧ th < (l.length : Int)
def actsOf (l : List ThreadD) (th : Int) : List ActD := (l.getD th.toNat ⟨0, []⟩).acts
structure OkOne (B : List (Nat × Sy.Cont)) (tv : Value) (l : List ThreadD) (cells : Int) : Prop where
  t : ThreadsR B tv l
  ok : wholeF cells l = true → ∀ (i : Nat) (t : ThreadD), l[i]? = some t → ∀ av, ActsR B av t.acts → OkL B av t.acts ∧ OkT t.acts
def faultVal (c l o : Int) : Value := .agg #[.int .i64 c, .int .i64 l, .int .i64 o]
noncomputable def outsOne (q : Rw) (b : Bool) (l : List ThreadD) (cells th : Int) : List (Sy.OutM × (List Let → Value)) :=
  [(⟨fun _ => ¬ goodT cells l th, fun _ => [], fun _ => []⟩, fun _ => .tuple #[.slice none 0 0, faultVal 1 0 0]),
   (⟨fun _ => goodT cells l th ∧ faultF b 0 (actsOf l th) ≠ none, fun _ => [], fun _ => []⟩, fun _ => .tuple #[.slice none 0 0, faultVal (fltV b (actsOf l th)).1 (fltV b (actsOf l th)).2.1 (fltV b (actsOf l th)).2.2]),
   (⟨fun ns => goodT cells l th ∧ faultF b 0 (actsOf l th) = none ∧ q.V (lv0 ns) (doneI b (actsOf l th)), fun _ => [], fun ns => q.B (lv0 ns) (doneI b (actsOf l th))⟩, fun ns => .tuple #[slV (lv0 ns), faultVal 0 0 0])]
noncomputable def oneC (q : Rw) (b : Bool) (B : List (Nat × Sy.Cont)) (tv : Value) (l : List ThreadD) (cells th : Int) : Sy.CallC :=
  ⟨fOne, #[progV cells tv, .int .i64 th, .bool b], OkOne B tv l cells, ⟨[], [], 1, B⟩, outsOne q b l cells th⟩
theorem oneC_met (b : Bool) (B : List (Nat × Sy.Cont)) (tv : Value) (l : List ThreadD) (cells th : Int) : Sy.Meets Tryz.prog (oneC rowQ b B tv l cells th) := fun hok => by
  obtain ⟨hT, hA⟩ := id hok
  have leaf1 : ∀ L : List Blk, ¬ goodT cells l th → Sy.leafB (oneC rowQ b B tv l cells th) (.tuple #[.slice none 0 0, faultVal 1 0 0], L) := fun L h => ⟨_, List.mem_cons_self, [Let.none], rfl, rfl, Sy.Ent.sub (List.nil_sublist _), h⟩
  cases hw : wholeF cells l with
  | false =>
    refine Sy.meets_ofY (k := 0) (ctxO0_holds B tv l cells) mixed (L := rdOf B) (Sy.Ent.refl _) (o0_run (rdOf B) b B tv l cells th) (fun _ ns => ?_) hok
    have hng : ¬ goodT cells l th := fun h => by rw [h.1] at hw; cases hw
    simp only [o0_R, Sy.Res.holds]
    exact ⟨⟨hT, hw⟩, gotL_of (fun p hp => hp), fun _ => leaf1 _ hng⟩
  | true =>
    have hl : (∃ c, tv = .slice none 0 c ∧ l = []) ∨ (∃ g o c sp, tv = .slice (some ⟨g, o, some sp⟩) 0 c ∧ l = []) ∨ ∃ g o n c, tv = .slice (some ⟨g, o, none⟩) n c := by
      obtain ⟨p, n, c, hv⟩ := hT.sl
      have hn : n = l.length := by rw [← hT.len, hv]; rfl
      by_cases hne : l = []
      · rw [hne] at hn
        have hn : n = 0 := hn
        subst hn
        match p, hv with
        | none, hv => exact .inl ⟨c, hv, hne⟩
        | some ⟨g, o, none⟩, hv => exact .inr (.inr ⟨g, o, 0, c, hv⟩)
        | some ⟨g, o, some sp⟩, hv => exact .inr (.inl ⟨g, o, c, sp, hv, hne⟩)
      · obtain ⟨n, c, hv⟩ := hT.at_ hne
        exact .inr (.inr ⟨_, _, n, c, hv⟩)
    have hend : (bif bif !wholeF cells [] then true else Ex.ltQ th 0 then true else Ex.leQ (Int.ofNat 0) th) = false → False := fun hb => by
      cases hw0 : wholeF cells [] <;> rw [hw0] at hb
      · cases hb
      rw [Ex.ltQ_eq, Ex.leQ_eq] at hb
      simp only [Bool.not_true, cond_false] at hb
      by_cases h : th < 0
      · simp [h] at hb
      · have : 0 ≤ th := by omega
        simp [h, this] at hb
    have hng0 : ¬ goodT cells [] th := fun h => by
      have := h.2
      simp at this
      omega
    rcases hl with ⟨c, rfl, rfl⟩ | ⟨g, o, c, sp, rfl, rfl⟩ | ⟨g, o, n, c, hv⟩
    · refine Sy.meets_ofY (k := 0) (ctxOn_holds b (actsOf [] th) B (.slice none 0 c) [] cells) mixed (L := rdOf B) (Sy.Ent.refl _) (o2_run rowQ (rdOf B) b (actsOf [] th) B c [] cells th) (fun _ ns => ?_) hok
      simp only [o2_R, Sy.Res.holds]
      exact ⟨hT, gotL_of (fun p hp => hp), fun _ => ⟨fun _ => leaf1 _ hng0, fun hb => (hend hb).elim⟩⟩
    · refine Sy.meets_ofY (k := 0) (ctxOn_holds b (actsOf [] th) B (.slice (some ⟨g, o, some sp⟩) 0 c) [] cells) mixed (L := rdOf B) (Sy.Ent.refl _) (o3_run rowQ (rdOf B) b (actsOf [] th) B g o c sp [] cells th) (fun _ ns => ?_) hok
      simp only [o3_R, Sy.Res.holds]
      exact ⟨hT, gotL_of (fun p hp => hp), fun _ => ⟨fun _ => leaf1 _ hng0, fun hb => (hend hb).elim⟩⟩
    subst hv
    refine Sy.meets_ofY (k := 0) (ctxOn_holds b (actsOf l th) B (.slice (some ⟨g, o, none⟩) n c) l cells) mixed (L := rdOf B) (Sy.Ent.refl _) (on_run rowQ (rdOf B) b (actsOf l th) B g o n c l cells th) (fun _ ns => ?_) hok
    have hn : n = l.length := hT.len
    subst hn
    simp only [on_R, Sy.Res.holds]
    refine ⟨hT, gotL_of (fun p hp => hp), fun _ => ⟨fun hb => leaf1 _ fun hg => ?_, fun hb => ?_⟩⟩
    · rw [hw] at hb
      obtain ⟨-, g1, g2⟩ := hg
      rw [Ex.ltQ_eq, Ex.leQ_eq] at hb
      have e1 : decide (th < 0) = false := by simp; omega
      have e2 : decide (((l.length : Nat) : Int) ≤ th) = false := by simp; omega
      simp only [Bool.not_true, cond_false, Int.ofNat_eq_natCast] at hb
      rw [e1, e2] at hb
      cases hb
    · rw [hw, Ex.ltQ_eq, Ex.leQ_eq] at hb
      simp only [Bool.not_true, cond_false, Int.ofNat_eq_natCast] at hb
      have g1 : 0 ≤ th := by
        by_cases h : th < 0
        · simp [h] at hb
        · omega
      have g2 : th < (l.length : Int) := by
        by_cases h : ((l.length : Nat) : Int) ≤ th
        · have : ¬ th < 0 := by omega
          simp [h, this] at hb
        · omega
      have hgood : goodT cells l th := ⟨hw, g1, g2⟩
      have hlt : th.toNat < l.length := by omega
      obtain ⟨t, ht⟩ : ∃ t, l[th.toNat]? = some t := ⟨_, List.getElem?_eq_getElem hlt⟩
      have hacts : actsOf l th = t.acts := by
        rw [actsOf, List.getD_eq_getElem?_getD, ht]
        rfl
      obtain ⟨av, c1, c2, c3⟩ := hT.thr _ _ ht
      obtain ⟨k1, k2⟩ := hA hw _ _ ht av c3
      have c1 : HasL (rdOf B) g (o + th.toNat * 2) (.int .i64 t.locals) := c1
      have c2 : HasL (rdOf B) g (o + th.toNat * 2 + 1) av := c2
      refine ⟨⟨g1, g2⟩, ⟨_, c1⟩, fun e1 => ⟨⟨_, c2⟩, fun e2 => ?_⟩⟩
      have e1 := e1 _ c1
      have e2 := e2 _ c2
      simp only [Value.int.injEq, true_and] at e1
      rw [← e1, ← e2]
      refine ⟨⟨t.locals, av, rfl, by rw [hacts]; exact k1, by rw [hacts]; exact k2⟩, gotL_of (fun p hp => hp), fun h1 => ?_, fun h1 => ?_⟩
      · exact ⟨_, List.mem_cons_of_mem _ List.mem_cons_self, [Let.none], rfl, rfl, Sy.Ent.sub (List.nil_sublist _), hgood, h1⟩
      · exact ⟨_, List.mem_cons_of_mem _ (List.mem_cons_of_mem _ (List.mem_singleton_self _)), [ns 4], rfl, rfl, Sy.Ent.sub (List.sublist_append_right _ _), hgood, h1.1, h1.2⟩
end Go.Proofs.YtlpcnaeknbmjdaaGreat.Gn

namespace Go.Proofs.YtlpcnaeknbmjdaaGreat.Gn
set_option linter.unusedVariables false
set_option linter.unusedSimpArgs false
open Go Go.RowKit
open Go.Proofs.YtlpcnaeknbmjdaaGreat.Sy (Let Blk HasL)
open Lw (I insCells tI)
abbrev fThread : FuncId := 10
abbrev fLseThread : FuncId := 11
noncomputable def ctxTh (q : Rw) (b : Bool) (B : List (Nat × Sy.Cont)) (tv : Value) (l : List ThreadD) (cells th : Int) : Sy.Ctx := Sy.mkS [(fOne, fun _ _ => oneC q b B tv l cells th)] [] []
theorem ctxTh_holds (b : Bool) (B : List (Nat × Sy.Cont)) (tv : Value) (l : List ThreadD) (cells th : Int) : (ctxTh rowQ b B tv l cells th).holds Tryz.prog := Sy.mkS_holds (fun p hp a L => by
  rcases List.mem_singleton.1 hp with rfl
  exact oneC_met _ _ _ _ _ _) (fun _ h => (by cases h)) (fun _ h => (by cases h))
def th1_o : Sy.O := (Sy.O.pack 6 0x4100020 (Sy.O.fork (Sy.O.pack 9 0x20000000020 Sy.O.nil) (Sy.O.fork (Sy.O.pack 9 0x20000000020 Sy.O.nil) (Sy.O.pack 9 0x20000000021 Sy.O.nil))))
noncomputable def th1_R (q : Rw) (TL : List Blk) (B : List (Nat × Sy.Cont)) (tv : Value) (l : List ThreadD) (cells : Int) (th : Int) (ns : Nat → Sy.Let) : Sy.Res (Value × List Blk) :=
 let z0 := (actsOf l th)
 let z1 := (Prod.snd (fltV false z0))
 let z2 := (lv0 [ns (2 : Nat)])
 Sy.Res.need (OkOne B tv l cells) (Sy.Res.need (Sy.GotL TL B) (Sy.Res.both (Sy.Res.hyp (goodT cells l th → False) (Sy.Res.leaf (Value.tuple (Array.mk [Value.slice none (0 : Nat) (0 : Nat), Value.agg (Array.mk [Value.int IntKind.i64 (1 : Int), Value.int IntKind.i64 (0 : Int), Value.int IntKind.i64 (0 : Int)])]), TL))) (Sy.Res.both (Sy.Res.hyp (goodT cells l th ∧ faultF false (0 : Nat) z0 ≠ none) (Sy.Res.leaf (Value.tuple (Array.mk [Value.slice none (0 : Nat) (0 : Nat), Value.agg (Array.mk [Value.int IntKind.i64 (Prod.fst (fltV false z0)), Value.int IntKind.i64 (Prod.fst z1), Value.int IntKind.i64 (Prod.snd z1)])]), TL))) (Sy.Res.hyp (goodT cells l th ∧ faultF false (0 : Nat) z0 = none ∧ q.2 z2 (doneI false z0)) (Sy.Res.leaf (Value.tuple (Array.mk [Value.slice (slP z2) (Sy.lenS z2) (slC z2), Value.agg (Array.mk [Value.int IntKind.i64 (0 : Int), Value.int IntKind.i64 (0 : Int), Value.int IntKind.i64 (0 : Int)])]), List.append TL (List.map (fun (p : Nat × Sy.Cont) => Blk.mk (Prod.fst p) (Prod.snd p) true) (q.1 z2 (doneI false z0)))))))))
theorem th1_run (q : Rw) (TL : List Blk) (B : List (Nat × Sy.Cont)) (tv : Value) (l : List ThreadD) (cells th : Int) : Sy.Ran (Sy.inY Tryz.prog (ctxTh q false B tv l cells th) 50 fThread #[progV cells tv, .int .i64 th] TL 0) th1_o (th1_R q TL B tv l cells th) := ⟨fun ns => by kernel_rfl, fun ns => by kernel_rfl⟩
def th2_o : Sy.O := (Sy.O.pack 6 0x4100020 (Sy.O.fork (Sy.O.pack 9 0x20000000020 Sy.O.nil) (Sy.O.fork (Sy.O.pack 9 0x20000000020 Sy.O.nil) (Sy.O.pack 9 0x20000000021 Sy.O.nil))))
noncomputable def th2_R (q : Rw) (TL : List Blk) (B : List (Nat × Sy.Cont)) (tv : Value) (l : List ThreadD) (cells : Int) (th : Int) (ns : Nat → Sy.Let) : Sy.Res (Value × List Blk) :=
 let z0 := (actsOf l th)
 let z1 := (Prod.snd (fltV true z0))
 let z2 := (lv0 [ns (2 : Nat)])
 Sy.Res.need (OkOne B tv l cells) (Sy.Res.need (Sy.GotL TL B) (Sy.Res.both (Sy.Res.hyp (goodT cells l th → False) (Sy.Res.leaf (Value.tuple (Array.mk [Value.slice none (0 : Nat) (0 : Nat), Value.agg (Array.mk [Value.int IntKind.i64 (1 : Int), Value.int IntKind.i64 (0 : Int), Value.int IntKind.i64 (0 : Int)])]), TL))) (Sy.Res.both (Sy.Res.hyp (goodT cells l th ∧ faultF true (0 : Nat) z0 ≠ none) (Sy.Res.leaf (Value.tuple (Array.mk [Value.slice none (0 : Nat) (0 : Nat), Value.agg (Array.mk [Value.int IntKind.i64 (Prod.fst (fltV true z0)), Value.int IntKind.i64 (Prod.fst z1), Value.int IntKind.i64 (Prod.snd z1)])]), TL))) (Sy.Res.hyp (goodT cells l th ∧ faultF true (0 : Nat) z0 = none ∧ q.2 z2 (doneI true z0)) (Sy.Res.leaf (Value.tuple (Array.mk [Value.slice (slP z2) (Sy.lenS z2) (slC z2), Value.agg (Array.mk [Value.int IntKind.i64 (0 : Int), Value.int IntKind.i64 (0 : Int), Value.int IntKind.i64 (0 : Int)])]), List.append TL (List.map (fun (p : Nat × Sy.Cont) => Blk.mk (Prod.fst p) (Prod.snd p) true) (q.1 z2 (doneI true z0)))))))))
theorem th2_run (q : Rw) (TL : List Blk) (B : List (Nat × Sy.Cont)) (tv : Value) (l : List ThreadD) (cells th : Int) : Sy.Ran (Sy.inY Tryz.prog (ctxTh q true B tv l cells th) 50 fLseThread #[progV cells tv, .int .i64 th] TL 0) th2_o (th2_R q TL B tv l cells th) := ⟨fun ns => by kernel_rfl, fun ns => by kernel_rfl⟩
noncomputable def threadC (q : Rw) (f : FuncId) (b : Bool) (B : List (Nat × Sy.Cont)) (tv : Value) (l : List ThreadD) (cells th : Int) : Sy.CallC :=
  ⟨f, #[progV cells tv, .int .i64 th], OkOne B tv l cells, ⟨[], [], 1, B⟩, outsOne q b l cells th⟩
theorem thread_met (B : List (Nat × Sy.Cont)) (tv : Value) (l : List ThreadD) (cells th : Int) : Sy.Meets Tryz.prog (threadC rowQ fThread false B tv l cells th) := by
  refine Sy.meets_ofY (k := 0) (ctxTh_holds false B tv l cells th) mixed (L := rdOf B) (Sy.Ent.refl _) (th1_run rowQ (rdOf B) B tv l cells th) fun hok ns => ?_
  simp only [th1_R, Sy.Res.holds]
  refine ⟨hok, gotL_of (fun p hp => hp), fun h => ?_, fun h => ?_, fun h => ?_⟩
  · exact ⟨_, List.mem_cons_self, [Let.none], rfl, rfl, Sy.Ent.sub (List.nil_sublist _), h⟩
  · exact ⟨_, List.mem_cons_of_mem _ List.mem_cons_self, [Let.none], rfl, rfl, Sy.Ent.sub (List.nil_sublist _), h⟩
  · exact ⟨_, List.mem_cons_of_mem _ (List.mem_cons_of_mem _ (List.mem_singleton_self _)), [ns 2], rfl, rfl, Sy.Ent.sub (List.sublist_append_right _ _), h⟩
theorem lseThread_met (B : List (Nat × Sy.Cont)) (tv : Value) (l : List ThreadD) (cells th : Int) : Sy.Meets Tryz.prog (threadC rowQ fLseThread true B tv l cells th) := by
  refine Sy.meets_ofY (k := 0) (ctxTh_holds true B tv l cells th) mixed (L := rdOf B) (Sy.Ent.refl _) (th2_run rowQ (rdOf B) B tv l cells th) fun hok ns => ?_
  simp only [th2_R, Sy.Res.holds]
  refine ⟨hok, gotL_of (fun p hp => hp), fun h => ?_, fun h => ?_, fun h => ?_⟩
  · exact ⟨_, List.mem_cons_self, [Let.none], rfl, rfl, Sy.Ent.sub (List.nil_sublist _), h⟩
  · exact ⟨_, List.mem_cons_of_mem _ List.mem_cons_self, [Let.none], rfl, rfl, Sy.Ent.sub (List.nil_sublist _), h⟩
  · exact ⟨_, List.mem_cons_of_mem _ (List.mem_cons_of_mem _ (List.mem_singleton_self _)), [ns 2], rfl, rfl, Sy.Ent.sub (List.sublist_append_right _ _), h⟩
end Go.Proofs.YtlpcnaeknbmjdaaGreat.Gn

namespace Go.Proofs.YtlpcnaeknbmjdaaGreat.Gn
open Go Go.RowKit
open Lw (Nd isExpr goodN nodeOk nodesOk refs onceOk isPow geoOk zeroOk)
theorem getD_set2 {α : Type} (l : List α) (i j : Nat) (x d : α) (h : i < l.length) : (l.set i x).getD j d = if i = j then x else l.getD j d := by
  rw [List.getD_eq_getElem?_getD, List.getElem?_set]
  by_cases hij : i = j
  · subst hij
    simp [h]
  · simp [hij, List.getD_eq_getElem?_getD]
theorem beqI {a b : Int} (h : a = b) : (a == b) = true := by simp [h]
theorem bneI {a b : Int} (h : ¬ a = b) : (a == b) = false := beq_eq_false_iff_ne.2 h
theorem dec0 {p : Prop} [Decidable p] (h : ¬ p) : decide p = false := decide_eq_false h
theorem dec1 {p : Prop} [Decidable p] (h : p) : decide p = true := decide_eq_true h
theorem badX_ok {loc : Int} {i : Nat} {n : NodeD} (h : badX loc i n = false) (hg : Lw.goodU n.val) (h0 : 0 ≤ loc) (h1 : loc ≤ 24) : nodeOk 24 i ⟨n.op, n.val, n.a, n.b⟩ := by
  have hw : Ex.wrapQ .u64 loc = loc := Lw.wrapU h0 (by omega)
  unfold badX at h
  rw [hw] at h
  simp only [Ex.eqQ_eq, Ex.leQ_eq, Ex.ltQ_eq] at h
  unfold nodeOk
  simp only
  by_cases e1 : n.op = 1
  · rw [beqI e1] at h
    by_cases ha : n.a = 0 <;> by_cases hb : n.b = 0 <;> simp_all
  · rw [bneI e1] at h
    by_cases e2 : n.op = 2
    · rw [beqI e2] at h
      by_cases ha : n.a = 0 <;> by_cases hb : n.b = 0 <;> by_cases hv : n.val < loc <;> simp_all
      omega
    · rw [bneI e2] at h
      by_cases e3 : 3 ≤ n.op
      · by_cases e5 : n.op ≤ 5
        · rw [dec1 e3, dec1 e5] at h
          by_cases a0 : 0 ≤ n.a <;> by_cases ai : n.a < (i : Int) <;> by_cases hb : n.b = 0 <;> by_cases hv : n.val = 0 <;> simp_all
        · rw [dec1 e3, dec0 e5] at h
          by_cases a0 : 0 ≤ n.a <;> by_cases ai : n.a < (i : Int) <;> by_cases b0 : 0 ≤ n.b <;> by_cases bi : n.b < (i : Int) <;> by_cases e6 : 6 ≤ n.op <;> by_cases e19 : n.op ≤ 19 <;> by_cases hv : n.val = 0 <;> simp_all
      · have e6 : ¬ 6 ≤ n.op := by omega
        rw [dec0 e3] at h
        by_cases a0 : 0 ≤ n.a <;> by_cases ai : n.a < (i : Int) <;> by_cases b0 : 0 ≤ n.b <;> by_cases bi : n.b < (i : Int) <;> simp_all
theorem bump_get {u : List Int} {a : Int} (h0 : 0 ≤ a) (h1 : a < (u.length : Int)) (j : Nat) : (bump u a).getD j 0 = u.getD j 0 + (([a.toNat].count j : Nat) : Int) := by
  unfold bump
  rw [getD_set2 _ _ _ _ _ (by omega)]
  by_cases hj : a.toNat = j
  · rw [if_pos hj, hj]
    simp
  · rw [if_neg hj, List.count_singleton]
    have : (a.toNat == j) = false := beq_eq_false_iff_ne.2 hj
    simp [this]
theorem bump_len (u : List Int) (a : Int) : (bump u a).length = u.length := by simp [bump]
theorem usedS_get {m : Nat} {u : List Int} {n : NodeD} (hm : u.length = m) (ho : OperO m n) (j : Nat) : (usedS u n).getD j 0 = u.getD j 0 + (((Nd.refs ⟨n.op, n.val, n.a, n.b⟩).count j : Nat) : Int) := by
  unfold usedS Nd.refs
  simp only [Ex.leQ_eq]
  by_cases h3 : 3 ≤ n.op
  · obtain ⟨a0, a1⟩ := ho.1 h3
    by_cases h6 : 6 ≤ n.op
    · obtain ⟨b0, b1⟩ := ho.2 h6
      rw [dec1 h3, dec1 h6, if_neg (by omega), if_neg (by omega)]
      simp only [cond_true]
      rw [bump_get b0 (by rw [bump_len, hm]; exact b1), bump_get a0 (by rw [hm]; exact a1), show [n.a.toNat, n.b.toNat] = [n.a.toNat] ++ [n.b.toNat] from rfl, List.count_append]
      omega
    · rw [dec1 h3, dec0 h6, if_neg (by omega), if_pos (by omega)]
      simp only [cond_true, cond_false]
      rw [bump_get a0 (by rw [hm]; exact a1)]
  · have h6 : ¬ 6 ≤ n.op := by omega
    rw [dec0 h3, dec0 h6, if_pos (by omega)]
    simp
theorem usedS_len (u : List Int) (n : NodeD) : (usedS u n).length = u.length := by
  unfold usedS
  cases Ex.leQ 6 n.op <;> cases Ex.leQ 3 n.op <;> simp [bump_len]
theorem usedL_get {m : Nat} : ∀ {l : List NodeD} {u : List Int}, u.length = m → (∀ n ∈ l, OperO m n) → ∀ j, (usedL l u).getD j 0 = u.getD j 0 + (((refs (nds l)).count j : Nat) : Int)
  | [], u, _, _, j => by simp [usedL, nds, refs]
  | n :: l, u, hm, ho, j => by
    have ih := usedL_get (l := l) (u := usedS u n) (by rw [usedS_len, hm]) (fun x hx => ho x (List.mem_cons_of_mem _ hx)) j
    show (usedL l (usedS u n)).getD j 0 = _
    rw [ih, usedS_get hm (ho n List.mem_cons_self)]
    show _ = u.getD j 0 + (((Nd.refs ⟨n.op, n.val, n.a, n.b⟩ ++ refs (nds l)).count j : Nat) : Int)
    rw [List.count_append]
    omega
theorem usedL_len : ∀ (l : List NodeD) (u : List Int), (usedL l u).length = u.length
  | [], _ => rfl
  | n :: l, u => (usedL_len l (usedS u n)).trans (usedS_len u n)
theorem once_of {l : List NodeD} (ho : ∀ n ∈ l, OperO l.length n) (h : onceF l = true) : onceOk (nds l) := by
  intro j hj
  rw [nds_len] at hj ⊢
  unfold onceF at h
  have hf : failsB l.length (usedL l (List.replicate l.length 0)) 0 = false := by simpa using h
  have hlt : j < (usedL l (List.replicate l.length 0)).length := by rw [usedL_len]; simpa using hj
  have hg := usedL_get (l := l) (u := List.replicate l.length 0) (m := l.length) (by simp) ho j
  have h0 : (List.replicate l.length (0 : Int)).getD j 0 = 0 := by simp [List.getD_eq_getElem?_getD, hj]
  rw [h0] at hg
  cases hp : passB l.length (0 + j) ((usedL l (List.replicate l.length 0)).getD j 0) with
  | true =>
    have : failsB l.length (usedL l (List.replicate l.length 0)) 0 = true := (failsB_iff _ _ _).2 ⟨j, _, by rw [List.getD_eq_getElem?_getD, List.getElem?_eq_getElem hlt]; rfl, hp⟩
    rw [hf] at this
    cases this
  | false =>
    rw [hg, Nat.zero_add] at hp
    unfold passB at hp
    simp only [Ex.eqQ_eq, Ex.ltQ_eq, Int.ofNat_eq_natCast, Int.zero_add] at hp
    by_cases hl : j + 1 < l.length
    · rw [if_pos hl]
      by_cases e : (((refs (nds l)).count j : Nat) : Int) = 1
      · omega
      · rw [bneI e, dec1 (show (j : Int) < (l.length : Int) - 1 by omega)] at hp
        simp at hp
    · rw [if_neg hl]
      by_cases e : (((refs (nds l)).count j : Nat) : Int) = 1
      · rw [beqI e, dec0 (show ¬ (j : Int) < (l.length : Int) - 1 by omega)] at hp
        simp at hp
      · by_cases g : (1 : Int) < (((refs (nds l)).count j : Nat) : Int)
        · rw [dec1 g] at hp
          simp at hp
        · omega
theorem expr_of {loc : Int} {l : List NodeD} (h : exprF loc l = true) (hg : goodN (nds l)) (h0 : 0 ≤ loc) (h1 : loc ≤ 24) : isExpr 24 (nds l) := by
  unfold exprF at h
  simp only [Bool.and_eq_true, Bool.not_eq_true', decide_eq_true_eq] at h
  obtain ⟨hb, hp, hle, ho⟩ := h
  have hb' : ¬ anyBad loc l := fun hx => by
    rw [(anyBad_iff loc l).1 hx] at hb
    cases hb
  have hN : ∀ i n, l[i]? = some n → badX loc i n = false := fun i n hn => by
    cases hx : badX loc i n with
    | true => exact absurd ⟨i, n, hn, hx⟩ hb'
    | false => rfl
  refine ⟨fun i x hx => ?_, by rw [nds_len]; exact hp, by rw [nds_len]; exact hle, once_of (oper_of hb') ho⟩
  unfold nds at hx
  rw [List.getElem?_map] at hx
  cases hn : l[i]? with
  | none => rw [hn] at hx; cases hx
  | some n =>
    rw [hn] at hx
    injection hx with hx
    subst hx
    exact badX_ok (hN i n hn) (hg _ (List.mem_map.2 ⟨n, List.mem_of_getElem? hn, rfl⟩)) h0 h1
theorem place_of {size base cells loc : Int} {ix : List NodeD} (h : placeF size base cells loc ix = true) (hg : goodN (nds ix)) (h0 : 0 ≤ loc) (h1 : loc ≤ 24) (c0 : 0 ≤ cells) (c1 : cells ≤ 4096) {k : Int} (k0 : 0 ≤ k) (k1 : k < 5) :
    (size = 0 ∧ ix = [] ∧ zeroOk base k) ∨ geoOk base size (nds ix) k := by
  unfold placeF at h
  simp only [Ex.ltQ_eq, Ex.eqQ_eq] at h
  by_cases s0 : size < 0
  · rw [dec1 s0] at h; simp at h
  by_cases s1 : 1024 < size
  · rw [dec0 s0, dec1 s1] at h; simp at h
  rw [dec0 s0, dec0 s1] at h
  by_cases hA : Ex.andQ .i64 size (Ex.wrapQ .i64 (Ex.subQ' size 1)) = 0
  · rw [beqI hA] at h
    by_cases hb : base < 0
    · rw [dec1 hb] at h; simp at h
    rw [dec0 hb] at h
    have hsub : ∀ m : Int, 1 ≤ m → m ≤ 1024 → Ex.wrapQ .i64 (Ex.subQ' cells m) = cells - m := fun m h1 h2 => by
      rw [Ex.wrapQ_eq, Ex.subQ_eq]
      simp [IntKind.wrap, IntKind.signed, IntKind.bits]
      omega
    by_cases z : size = 0
    · subst z
      rw [dec0 (show ¬ (1 : Int) < 0 by omega)] at h
      simp only [cond_false, Bool.not_true] at h
      simp only [hsub 1 (by omega) (by omega)] at h
      by_cases hc : cells - 1 < base
      · rw [dec1 hc] at h; simp at h
      · rw [dec0 hc, beqI rfl] at h
        simp only [cond_false, cond_true, decide_eq_true_eq] at h
        exact .inl ⟨rfl, List.length_eq_zero_iff.1 h, ⟨by omega, by omega⟩, k0, k1⟩
    · have hp := (Lw.pow_iff (s := size) (by omega) (by omega)).1 hA
      rw [bneI z] at h
      simp only [cond_false, Bool.not_true] at h
      by_cases s2 : 1 < size
      · rw [dec1 s2] at h
        simp only [cond_true] at h
        simp only [hsub size (by omega) (by omega)] at h
        by_cases hc : cells - size < base
        · rw [dec1 hc] at h; simp at h
        · rw [dec0 hc] at h
          exact .inr ⟨⟨hp, by omega, by omega⟩, ⟨k0, k1⟩, expr_of (by simpa using h) hg h0 h1⟩
      · have s1 : size = 1 := by omega
        subst s1
        rw [dec0 s2] at h
        simp only [cond_false] at h
        simp only [hsub 1 (by omega) (by omega)] at h
        by_cases hc : cells - 1 < base
        · rw [dec1 hc] at h; simp at h
        · rw [dec0 hc] at h
          exact .inr ⟨⟨hp, by omega, by omega⟩, ⟨k0, k1⟩, expr_of (by simpa using h) hg h0 h1⟩
  · rw [bneI hA] at h
    simp at h
def goodA (a : ActD) : Prop := goodN (nds a.ix) ∧ goodN (nds a.e) ∧ goodN (nds a.f)
structure ActS (a : ActD) (na : Nat) : Prop where
  op : a.op = 1 ∨ a.op = 2 ∨ a.op = 3 ∨ a.op = 4 ∨ a.op = 5 ∨ a.op = 6 ∨ a.op = 7 ∨ a.op = 8 ∨ a.op = 9 ∨ a.op = 10
  e : a.op ≠ 2 → a.op ≠ 7 → a.op ≠ 9 → isExpr 24 (nds a.e)
  f : a.op = 6 → isExpr 24 (nds a.f)
  p : 2 ≤ a.op → a.op ≤ 6 → ∀ k : Int, 0 ≤ k → k < 5 → (a.size = 0 ∧ a.ix = [] ∧ zeroOk a.base k) ∨ geoOk a.base a.size (nds a.ix) k
  to : a.op = 9 ∨ a.op = 10 → 0 ≤ a.to ∧ a.to ≤ na
theorem act_of {cells loc : Int} {na : Nat} {a : ActD} (h : actF cells loc na a = true) (hg : goodA a) (h0 : 0 ≤ loc) (h1 : loc ≤ 24) (c0 : 0 ≤ cells) (c1 : cells ≤ 4096) : ActS a na := by
  obtain ⟨gi, ge, gf⟩ := hg
  unfold actF at h
  simp only [Bool.and_eq_true, decide_eq_true_eq] at h
  obtain ⟨⟨o1, o2⟩, -, -, hp, -, -, he, hf, ht⟩ := h
  refine ⟨by omega, fun e2 e7 e9 => ?_, fun e6 => ?_, fun p2 p6 k k0 k1 => ?_, fun hto => ?_⟩
  · rw [show hasE a.op = true from dec1 ⟨e2, e7, e9⟩] at he
    exact expr_of he ge h0 h1
  · rw [show hasF a.op = true from dec1 e6] at hf
    exact expr_of hf gf h0 h1
  · rw [show hasPlace a.op = true from dec1 ⟨p2, p6⟩] at hp
    exact place_of hp gi h0 h1 c0 c1 k0 k1
  · rw [show hasTo a.op = true from dec1 hto] at ht
    simp only [cond_true, Bool.and_eq_true, Ex.leQ_eq, decide_eq_true_eq] at ht
    exact ht
theorem okAct_of {B : List (Nat × Sy.Cont)} {a : ActD} {na : Nat} {iv ev fv : Value} (h : ActS a na) (hg : goodA a) (xi : OkX B iv a.ix) (xe : OkX B ev a.e) (xf : OkX B fv a.f) : OkAct B B B a iv ev fv := by
  obtain ⟨gi, ge, gf⟩ := hg
  exact ⟨h.op, fun e2 e7 e9 => ⟨xe, h.e e2 e7 e9, ge, by omega, by omega⟩, fun e6 => ⟨xf, h.f e6, gf, by omega, by omega⟩, fun e => ⟨xi, gi, h.p (by omega) (by omega) 0 (by omega) (by omega)⟩,
    fun e => ⟨xi, gi, h.p (by omega) (by omega) 1 (by omega) (by omega)⟩, fun e => ⟨xi, gi, h.p (by omega) (by omega) 2 (by omega) (by omega)⟩⟩
theorem exprI_le {l : List NodeD} (h : isExpr 24 (nds l)) (k : Int) : (exprI l k).length ≤ 262144 := by
  unfold exprI
  split
  · exact (Lw.lay_fits h (i := (nds l).length - 1) (by have := h.2.1; omega) (24 + k)).2
  · simp
theorem placeI_le {b s k : Int} {l : List NodeD} (h : (s = 0 ∧ l = [] ∧ zeroOk b k) ∨ geoOk b s (nds l) k) : (placeI b s l k).length ≤ 262160 := by
  unfold placeI
  split
  · have := Lw.numL_le 29 (65536 + 8 * b)
    omega
  · rename_i hs
    rcases h with ⟨h, _⟩ | h
    · exact absurd h hs
    split
    · unfold Lw.addrL
      have h1 := (Lw.lay_fits h.2.2 (i := (nds l).length - 1) (by have := h.2.2.2.1; omega) (24 + k)).2
      have h2 := Lw.numL_le (24 + k + 1) (s - 1)
      have h3 := Lw.numL_le 29 (65536 + 8 * b)
      simp only [List.length_append, List.length_cons, List.length_nil]
      omega
    · simp
theorem preI_le {a : ActD} {na : Nat} (h : ActS a na) : (preI a).length ≤ 1900000 := by
  unfold preI
  split
  · rename_i e
    have := exprI_le (h.e (by omega) (by omega) (by omega)) 0
    omega
  split
  · rename_i e
    have := placeI_le (h.p (by omega) (by omega) 0 (by omega) (by omega))
    omega
  split
  · rename_i e
    have := exprI_le (h.e (by omega) (by omega) (by omega)) 0
    have := placeI_le (h.p (by omega) (by omega) 1 (by omega) (by omega))
    simp only [List.length_append]
    omega
  split
  · rename_i e
    have := exprI_le (h.e (by omega) (by omega) (by omega)) 0
    have := exprI_le (h.f e) 1
    have := placeI_le (h.p (by omega) (by omega) 2 (by omega) (by omega))
    simp only [List.length_append]
    omega
  · simp
def goodT3 (l : List ThreadD) : Prop := ∀ t ∈ l, ∀ a ∈ t.acts, goodA a
theorem whole_acts {cells : Int} {l : List ThreadD} (h : wholeF cells l = true) (hg : goodT3 l) {t : ThreadD} (ht : t ∈ l) : ∀ a ∈ t.acts, ActS a t.acts.length := by
  intro a ha
  unfold wholeF at h
  simp only [decide_eq_true_eq] at h
  have h1 : ¬ out0 cells l = true := fun x => h (.inl x)
  have h2 : ¬ badThrs cells l := fun x => h (.inr x)
  obtain ⟨i, hi⟩ := List.mem_iff_getElem?.1 ht
  obtain ⟨j, hj⟩ := List.mem_iff_getElem?.1 ha
  have h3 : ¬ out1 t = true := fun x => h2 ⟨i, t, hi, .inl x⟩
  have h4 : actF cells t.locals t.acts.length a = true := by
    cases hx : actF cells t.locals t.acts.length a with
    | true => rfl
    | false => exact absurd ⟨i, t, hi, .inr ⟨j, a, hj, hx⟩⟩ h2
  have hc : 0 ≤ cells ∧ cells ≤ 4096 := by
    unfold out0 at h1
    simp only [Ex.ltQ_eq] at h1
    by_cases c0 : cells < 0
    · rw [dec1 c0] at h1; simp at h1
    · by_cases c1 : 4096 < cells
      · rw [dec0 c0, dec1 c1] at h1; simp at h1
      · omega
  have hl : 0 ≤ t.locals ∧ t.locals ≤ 24 := by
    unfold out1 at h3
    simp only [Ex.ltQ_eq] at h3
    by_cases c0 : t.locals < 0
    · rw [dec1 c0] at h3; simp at h3
    · by_cases c1 : 24 < t.locals
      · rw [dec0 c0, dec1 c1] at h3; simp at h3
      · omega
  exact act_of h4 (hg t ht a ha) hl.1 hl.2 hc.1 hc.2
theorem okL_of {B : List (Nat × Sy.Cont)} {av : Value} {acts : List ActD} {na : Nat} (hR : ActsR B av acts) (h : ∀ a ∈ acts, ActS a na) (hg : ∀ a ∈ acts, goodA a) : OkL B av acts :=
  ⟨hR, fun i a ha iv ev fv xi xe xf => okAct_of (h a (List.mem_of_getElem? ha)) (hg a (List.mem_of_getElem? ha)) xi xe xf, fun i a ha => preI_le (h a (List.mem_of_getElem? ha))⟩
end Go.Proofs.YtlpcnaeknbmjdaaGreat.Gn

namespace Go.Proofs.YtlpcnaeknbmjdaaGreat.Gn
open Go Go.RowKit
open Lw (I Nd numL movk lay unL binL)
def isBr (o : Int) : Prop := o = 18 ∨ o = 19 ∨ o = 20 ∨ o = 21
def calm (i : I) : Prop := i.op ≠ 34 ∧ ¬ isBr i.op
def okRel (X : List I) : Prop := ∀ (k : Nat) (i : I), X[k]? = some i → i.op ≠ 34 ∧ (isBr i.op → 0 ≤ (k : Int) + i.imm ∧ (k : Int) + i.imm ≤ (X.length : Int))
theorem okRel_calm {X : List I} (h : ∀ i ∈ X, calm i) : okRel X := fun _ i hi => by
  have := h i (List.mem_of_getElem? hi)
  exact ⟨this.1, fun hb => absurd hb this.2⟩
theorem okRel_app {X Y : List I} (hX : okRel X) (hY : okRel Y) : okRel (X ++ Y) := fun k i hi => by
  rw [List.length_append]
  rcases Nat.lt_or_ge k X.length with hk | hk
  · rw [List.getElem?_append_left hk] at hi
    obtain ⟨h1, h2⟩ := hX k i hi
    exact ⟨h1, fun hb => by have := h2 hb; omega⟩
  · rw [List.getElem?_append_right hk] at hi
    obtain ⟨h1, h2⟩ := hY _ i hi
    exact ⟨h1, fun hb => by have := h2 hb; omega⟩
theorem okRel_nil : okRel [] := fun k i h => by simp at h
theorem calm_of {i : I} (h : i.op ≠ 34 ∧ i.op ≠ 18 ∧ i.op ≠ 19 ∧ i.op ≠ 20 ∧ i.op ≠ 21) : calm i := ⟨h.1, by unfold isBr; omega⟩
theorem calm_movk {r x j : Int} : ∀ i ∈ movk r x j, calm i := fun i hi => by
  unfold movk at hi
  split at hi
  · cases hi
  · rcases List.mem_singleton.1 hi with rfl
    exact calm_of ⟨by simp, by simp, by simp, by simp, by simp⟩
theorem calm_numL {r v : Int} : ∀ i ∈ numL r v, calm i := fun i hi => by
  unfold numL at hi
  rcases List.mem_cons.1 hi with rfl | hi
  · exact calm_of ⟨by simp, by simp, by simp, by simp, by simp⟩
  rcases List.mem_append.1 hi with hi | hi
  · exact calm_movk i hi
  rcases List.mem_append.1 hi with hi | hi
  · exact calm_movk i hi
  · exact calm_movk i hi
theorem calm_unL {op t : Int} : ∀ i ∈ unL op t, calm i := fun i hi => by
  unfold unL at hi
  split at hi
  · rcases List.mem_singleton.1 hi with rfl
    exact calm_of ⟨by simp, by simp, by simp, by simp, by simp⟩
  split at hi
  · rcases List.mem_singleton.1 hi with rfl
    exact calm_of ⟨by simp, by simp, by simp, by simp, by simp⟩
  · rcases List.mem_cons.1 hi with rfl | hi
    · exact calm_of ⟨by simp, by simp, by simp, by simp, by simp⟩
    · rcases List.mem_singleton.1 hi with rfl
      exact calm_of ⟨by simp, by simp, by simp, by simp, by simp⟩
theorem binOp_cases (op : Int) : Lw.binOp op = 9 ∨ Lw.binOp op = 3 ∨ Lw.binOp op = 4 ∨ Lw.binOp op = 10 ∨ Lw.binOp op = 11 ∨ Lw.binOp op = 5 ∨ Lw.binOp op = 7 ∨ Lw.binOp op = 6 ∨ Lw.binOp op = 0 := by
  unfold Lw.binOp
  repeat' split
  all_goals simp
theorem calm_binL {op t : Int} : ∀ i ∈ binL op t, calm i := fun i hi => by
  unfold binL at hi
  split at hi
  · rcases List.mem_cons.1 hi with rfl | hi
    · exact calm_of ⟨by simp, by simp, by simp, by simp, by simp⟩
    · rcases List.mem_singleton.1 hi with rfl
      exact calm_of ⟨by simp, by simp, by simp, by simp, by simp⟩
  · rcases List.mem_singleton.1 hi with rfl
    have := binOp_cases op
    exact calm_of ⟨by simp only; omega, by simp only; omega, by simp only; omega, by simp only; omega, by simp only; omega⟩
theorem calm_lay : ∀ (x : Lw.E) (t : Int), ∀ i ∈ lay x t, calm i
  | .num v, t, i, hi => calm_numL i hi
  | .loc v, t, i, hi => by
    rcases List.mem_singleton.1 hi with rfl
    exact calm_of ⟨by simp, by simp, by simp, by simp, by simp⟩
  | .un op x, t, i, hi => by
    rcases List.mem_append.1 hi with hi | hi
    · exact calm_lay x t i hi
    · exact calm_unL i hi
  | .bin op x y, t, i, hi => by
    rcases List.mem_append.1 hi with hi | hi
    · exact calm_lay x t i hi
    rcases List.mem_append.1 hi with hi | hi
    · exact calm_lay y (t + 1) i hi
    · exact calm_binL i hi
theorem calm_expr {l : List NodeD} {k : Int} : ∀ i ∈ exprI l k, calm i := fun i hi => by
  unfold exprI at hi
  split at hi
  · exact calm_lay _ _ i hi
  · cases hi
theorem calm_place {b s k : Int} {l : List NodeD} : ∀ i ∈ placeI b s l k, calm i := fun i hi => by
  unfold placeI at hi
  split at hi
  · exact calm_numL i hi
  split at hi
  · unfold Lw.addrL at hi
    rcases List.mem_append.1 hi with hi | hi
    · exact calm_lay _ _ i hi
    rcases List.mem_append.1 hi with hi | hi
    · exact calm_numL i hi
    rcases List.mem_cons.1 hi with rfl | hi
    · exact calm_of ⟨by simp, by simp, by simp, by simp, by simp⟩
    rcases List.mem_cons.1 hi with rfl | hi
    · exact calm_of ⟨by simp, by simp, by simp, by simp, by simp⟩
    rcases List.mem_append.1 hi with hi | hi
    · exact calm_numL i hi
    rcases List.mem_singleton.1 hi with rfl
    exact calm_of ⟨by simp, by simp, by simp, by simp, by simp⟩
  · cases hi
theorem rel_pre (a : ActD) : okRel (preI a) := by
  unfold preI
  repeat' split
  · exact okRel_calm calm_expr
  · exact okRel_calm calm_place
  · exact okRel_app (okRel_calm calm_expr) (okRel_calm calm_place)
  · exact okRel_app (okRel_app (okRel_calm calm_expr) (okRel_calm calm_expr)) (okRel_calm calm_place)
  · exact okRel_nil
def okB : Nat → Nat → List I → Bool
  | _, _, [] => true
  | n, k, i :: r => i.op != 34 && (!(i.op == 18 || i.op == 19 || i.op == 20 || i.op == 21) || (decide (0 ≤ (k : Int) + i.imm) && decide ((k : Int) + i.imm ≤ n))) && okB n (k + 1) r
theorem okB_spec {n : Nat} : ∀ {X : List I} {k : Nat}, okB n k X = true → ∀ (j : Nat) (i : I), X[j]? = some i → i.op ≠ 34 ∧ (isBr i.op → 0 ≤ ((k + j : Nat) : Int) + i.imm ∧ ((k + j : Nat) : Int) + i.imm ≤ n)
  | [], k, _, j, i, h => by simp at h
  | x :: r, k, hb, j, i, h => by
    simp only [okB, Bool.and_eq_true, bne_iff_ne, ne_eq, Bool.or_eq_true, Bool.not_eq_true', beq_iff_eq, decide_eq_true_eq] at hb
    obtain ⟨⟨h1, h2⟩, h3⟩ := hb
    cases j with
    | zero =>
      simp only [List.getElem?_cons_zero, Option.some.injEq] at h
      subst h
      refine ⟨h1, fun hb => ?_⟩
      rcases h2 with h2 | h2
      · unfold isBr at hb
        simp only [Bool.or_eq_false_iff, beq_eq_false_iff_ne, ne_eq] at h2
        omega
      · exact h2
    | succ j =>
      have := okB_spec h3 j i (by simpa using h)
      rw [show k + (j + 1) = k + 1 + j by omega]
      exact this
theorem okRel_lit {X : List I} (h : okB X.length 0 X = true) : okRel X := fun k i hi => by
  have := okB_spec h k i hi
  rw [Nat.zero_add] at this
  exact this
theorem rel_lp (m st : Int) (A : List I) (hA : A = [] ∨ A = [sumI]) : okRel (lpI m A st) := by
  unfold lpI nzI ldI stI opL opS
  rcases hA with rfl | rfl <;> cases acqF m <;> cases relF m <;> exact okRel_lit rfl
theorem calm_set (d r : Int) : okRel [⟨6, d, 31, r, 0, 0⟩] := okRel_calm fun i hi => by
  rcases List.mem_singleton.1 hi with rfl
  exact calm_of ⟨by simp, by simp, by simp, by simp, by simp⟩
theorem rel_sg (op old : Int) (a : ActD) (h : op = 36 ∨ op = 40 ∨ op = 44) : okRel (sgI op old a) := by
  unfold sgI nzI aloneOp
  rcases h with rfl | rfl | rfl <;> cases acqF a.mode <;> cases relF a.mode <;> exact okRel_lit rfl
theorem rel_tail (a : ActD) : okRel (tailI a) := by
  unfold tailI
  split
  · exact calm_set _ _
  split
  · split <;> exact okRel_lit rfl
  split
  · split <;> exact okRel_lit rfl
  split
  · exact okRel_app (rel_lp _ _ _ (.inl rfl)) (calm_set _ _)
  split
  · exact okRel_app (rel_lp _ _ _ (.inr rfl)) (calm_set _ _)
  split
  · unfold opL opS
    cases acqF a.mode <;> cases relF a.mode <;> exact okRel_lit rfl
  split
  · split <;> exact okRel_lit rfl
  split
  · exact okRel_lit rfl
  split
  · exact okRel_lit rfl
  · exact okRel_lit rfl
theorem rel_tailB (b : Bool) (a : ActD) : okRel (tailB b a) := by
  cases b
  · exact rel_tail a
  · show okRel (tailL a)
    unfold tailL
    split
    · exact okRel_lit rfl
    split
    · exact rel_sg _ _ _ (by omega)
    split
    · exact rel_sg _ _ _ (by omega)
    split
    · exact rel_sg _ _ _ (by omega)
    · exact rel_tail a
theorem rel_layL (b : Bool) : ∀ acts : List ActD, okRel (layL b acts)
  | [] => okRel_nil
  | a :: r => okRel_app (okRel_app (rel_pre a) (rel_tailB b a)) (rel_layL b r)
def okFin (n : Nat) (X : List I) : Prop := X.length = n + 1 ∧ ∀ (k : Nat) (i : I), X[k]? = some i → (i.op = 34 ↔ k = n) ∧ (isBr i.op → 0 ≤ (k : Int) + i.imm ∧ (k : Int) + i.imm ≤ (n : Int))
theorem fin_hlt {X : List I} (h : okRel X) : okFin X.length (X ++ [hltI]) := by
  refine ⟨by simp, fun k i hi => ?_⟩
  rcases Nat.lt_or_ge k X.length with hk | hk
  · rw [List.getElem?_append_left hk] at hi
    obtain ⟨h1, h2⟩ := h k i hi
    exact ⟨⟨fun e => absurd e h1, fun e => by omega⟩, h2⟩
  · rw [List.getElem?_append_right hk] at hi
    have h0 : k - X.length = 0 := by
      have := (List.getElem?_eq_some_iff.1 hi).1
      simp at this
      omega
    rw [h0] at hi
    simp only [List.getElem?_cons_zero, Option.some.injEq] at hi
    subst hi
    exact ⟨⟨fun _ => by omega, fun _ => rfl⟩, fun hb => by unfold isBr at hb; simp at hb⟩
theorem setImm_get (X : List I) (n : Nat) (v : Int) (k : Nat) : (setImm X n v)[k]? = if k = n then (X[k]?).map (fun i => { i with imm := v }) else X[k]? := by
  induction X generalizing n k with
  | nil => simp [setImm]
  | cons i r ih =>
    cases n with
    | zero =>
      cases k with
      | zero => simp [setImm]
      | succ k => simp [setImm]
    | succ n =>
      cases k with
      | zero => simp [setImm]
      | succ k => simp [setImm, ih]
theorem fin_set {n : Nat} {X : List I} (h : okFin n X) {at' : Nat} {x : Int} (h0 : 0 ≤ x) (h1 : x ≤ n) : okFin n (setImm X at' (x - at')) := by
  refine ⟨by rw [setImm_len]; exact h.1, fun k i hi => ?_⟩
  rw [setImm_get] at hi
  split at hi
  · rename_i hk
    subst hk
    cases hx : X[k]? with
    | none => rw [hx] at hi; cases hi
    | some y =>
      rw [hx] at hi
      simp only [Option.map_some, Option.some.injEq] at hi
      subst hi
      have := h.2 k y hx
      exact ⟨this.1, fun _ => ⟨by show 0 ≤ (k : Int) + (x - k); omega, by show (k : Int) + (x - k) ≤ n; omega⟩⟩
  · exact h.2 k i hi
theorem fin_fill {n : Nat} {bs : List Int} (hb : ∀ x ∈ bs, 0 ≤ x ∧ x ≤ (n : Int)) : ∀ {pos : List (Int × Int)} {X : List I}, okFin n X → (∀ p ∈ pos, 0 ≤ p.2) → okFin n (fillP bs X pos)
  | [], X, h, _ => h
  | p :: pos, X, h, hp => by
    have h2 := hp p List.mem_cons_self
    have hx : 0 ≤ bs.getD p.1.toNat 0 ∧ bs.getD p.1.toNat 0 ≤ (n : Int) := by
      rw [List.getD_eq_getElem?_getD]
      cases hg : bs[p.1.toNat]? with
      | none => simp
      | some y => exact hb y (List.mem_of_getElem? hg)
    have := fin_set h (at' := p.2.toNat) hx.1 hx.2
    rw [show ((p.2.toNat : Nat) : Int) = p.2 by omega] at this
    exact fin_fill hb (pos := pos) this fun q hq => hp q (List.mem_cons_of_mem _ hq)
theorem fin_done (b : Bool) (acts : List ActD) : okFin (layL b acts).length (doneI b acts) := by
  refine fin_fill (fun x hx => ?_) (fin_hlt (rel_layL b acts)) fun p hp => ?_
  · rcases List.mem_append.1 hx with hx | hx
    · obtain ⟨i, hi⟩ := List.mem_iff_getElem?.1 hx
      have := begF_bd b 0 acts i x hi
      omega
    · rcases List.mem_singleton.1 hx with rfl
      exact ⟨Int.natCast_nonneg _, Int.le_refl _⟩
  · have := posF_bd b 0 acts p hp
    omega
theorem lay_few (b : Bool) : ∀ {acts : List ActD} {n : Nat}, n ≤ 16383 → faultF b n acts = none → n + (layL b acts).length ≤ 16383
  | [], n, hn, _ => by simpa [layL] using hn
  | a :: r, n, hn, h => by
    unfold faultF at h
    split at h
    · cases h
    split at h
    · cases h
    · rename_i h2
      have := lay_few b (acts := r) (by omega) h
      rw [layL_cons]
      omega
theorem done_few {b : Bool} {acts : List ActD} (h : faultF b 0 acts = none) : (doneI b acts).length ≤ 16384 := by
  rw [(fin_done b acts).1]
  have := lay_few b (n := 0) (by omega) h
  omega
end Go.Proofs.YtlpcnaeknbmjdaaGreat.Gn

namespace Go.Proofs.YtlpcnaeknbmjdaaGreat.Gn
set_option linter.unusedVariables false
set_option linter.unusedSimpArgs false
open Go Go.RowKit
open Go.Proofs.YtlpcnaeknbmjdaaGreat.Sy (Let Blk HasL)
open Lw (I insCells tI)
abbrev fGB : FuncId := 6
noncomputable def bodyB1 : Code := Sy.loopBody Tryz.f6 0
noncomputable def bodyB2 : Code := Sy.loopBody Tryz.f6 1
def slI (p1 : Nat) (v : Value) (k : Int) (j : Nat) : List (Nat × Value) := [(1, .pointer (some ⟨p1, 0, none⟩)), (2, .bool false), (3, .int .i64 k), (5, v), (7, .int .i64 (Int.ofNat j))]
def bi_o : Sy.O := (Sy.O.steps [1] (Sy.O.fork (Sy.O.pack 10 0x200000000021 (Sy.O.fork Sy.O.nil (Sy.O.pack 15 0x80000800008000 (Sy.O.fork (Sy.O.pack 5 0x108000 (Sy.O.fork Sy.O.nil Sy.O.nil)) Sy.O.nil)))) Sy.O.nil))
noncomputable def bi_R (B : List (Nat × Sy.Cont)) (p1 : Nat) (v : Value) (k : Int) (j : Nat) (f : Nat → Value) (ns : Nat → Sy.Let) : Sy.Res (Exit × Nat × List Value × List Blk) :=
 let z0 := (Int.ofNat j)
 let z1 := (Int.ofNat (Sy.lenS v))
 let z2 := (Sy.ptrS v)
 let z3 := (rdOf B)
 let z4 := (Sy.offS v + Int.toNat z0 * (6 : Nat))
 let z5 := (Sy.offS v + Int.toNat z0 * (6 : Nat) + (1 : Nat))
 let z6 := (Sy.offS v + Int.toNat z0 * (6 : Nat) + (1 : Nat) + (1 : Nat))
 let z7 := (Sy.offS v + Int.toNat z0 * (6 : Nat) + (1 : Nat) + (1 : Nat) + (1 : Nat))
 let z8 := (Sy.offS v + Int.toNat z0 * (6 : Nat) + (1 : Nat) + (1 : Nat) + (1 : Nat) + (1 : Nat))
 let z9 := (Sy.offS v + Int.toNat z0 * (6 : Nat) + (1 : Nat) + (1 : Nat) + (1 : Nat) + (1 : Nat) + (1 : Nat))
 let z10 := (some (Addr.mk p1 (0 : Nat) none))
 let z11 := [Value.pointer z10, Value.bool false, Value.int IntKind.i64 k, v, Value.int IntKind.i64 z0]
 Sy.Res.need (∃ (p : Option Addr), ∃ (n : Nat), ∃ (c : Nat), v = Value.slice p n c) (Sy.Res.br (Ex.ltQ z0 z1) (Sy.Res.need ((∃ (n : Nat), ∃ (c : Nat), v = Value.slice (some (Addr.mk z2 (Sy.offS v) none)) n c) ∧ (0 : Int) ≤ Int.ofNat j ∧ Int.ofNat j < (↑(Sy.lenS v) : Int)) (Sy.Res.need (∃ (i : Int), HasL z3 z2 z4 (Value.int IntKind.i64 i)) (Sy.Res.hyp (∀ (u : Value), HasL z3 z2 z4 u → u = Value.int IntKind.i64 (Let.i (ns 0))) (Sy.Res.need (∃ (i : Int), HasL z3 z2 z5 (Value.int IntKind.i64 i)) (Sy.Res.hyp (∀ (u : Value), HasL z3 z2 z5 u → u = Value.int IntKind.i64 (Let.i (ns 1))) (Sy.Res.need (∃ (i : Int), HasL z3 z2 z6 (Value.int IntKind.i64 i)) (Sy.Res.hyp (∀ (u : Value), HasL z3 z2 z6 u → u = Value.int IntKind.i64 (Let.i (ns 2))) (Sy.Res.need (∃ (i : Int), HasL z3 z2 z7 (Value.int IntKind.i64 i)) (Sy.Res.hyp (∀ (u : Value), HasL z3 z2 z7 u → u = Value.int IntKind.i64 (Let.i (ns 3))) (Sy.Res.need (∃ (i : Int), HasL z3 z2 z8 (Value.int IntKind.i64 i)) (Sy.Res.hyp (∀ (u : Value), HasL z3 z2 z8 u → u = Value.int IntKind.i64 (Let.i (ns 4))) (Sy.Res.need (∃ (i : Int), HasL z3 z2 z9 (Value.int IntKind.i64 i)) (Sy.Res.hyp (∀ (u : Value), HasL z3 z2 z9 u → u = Value.int IntKind.i64 (Let.i (ns 5))) (Sy.Res.need (∃ (p : Option Addr), ∃ (n : Nat), ∃ (c : Nat), v = Value.slice p n c) (Sy.Res.br (!Ex.eqQ (Let.i (ns 0)) (34 : Int) == Ex.eqQ z0 (Ex.wrapQ IntKind.i64 (Ex.subQ' z1 (1 : Int)))) (Sy.Res.leaf (Exit.ret, (100 : Nat), z11, Blk.mk (Let.n (ns 6)) (Sy.Cont.obj (Obj.cells (Array.mk
 [Value.int IntKind.i64 (Let.i (ns 0)), Value.int IntKind.i64 (Let.i (ns 1)), Value.int IntKind.i64 (Let.i (ns 2)), Value.int IntKind.i64 (Let.i (ns 3)), Value.int IntKind.i64 (Let.i (ns 4)), Value.int IntKind.i64 (Let.i (ns 5))]) (49 : Nat))) true :: rdOf B)) (Sy.Res.br (bif bif bif Ex.eqQ (Let.i (ns 0)) (18 : Int) then true else Ex.eqQ (Let.i (ns 0)) (19 : Int) then true else Ex.eqQ (Let.i (ns 0)) (20 : Int) then true else Ex.eqQ (Let.i (ns 0)) (21 : Int)) (Sy.Res.need (∃ (p : Option Addr), ∃ (n : Nat), ∃ (c : Nat), v = Value.slice p n c) (Sy.Res.br (bif Ex.ltQ (Ex.wrapQ IntKind.i64 (Ex.addQ z0 (Let.i (ns 4)))) (0 : Int) then true else Ex.leQ z1 (Ex.wrapQ IntKind.i64 (Ex.addQ z0 (Let.i (ns 4))))) (Sy.Res.leaf (Exit.ret, (100 : Nat), z11, Blk.mk (Let.n (ns 6)) (Sy.Cont.obj (Obj.cells (Array.mk [Value.int IntKind.i64 (Let.i (ns 0)), Value.int IntKind.i64 (Let.i (ns 1)), Value.int IntKind.i64 (Let.i (ns 2)), Value.int IntKind.i64 (Let.i (ns 3)), Value.int IntKind.i64 (Let.i (ns 4)), Value.int IntKind.i64 (Let.i (ns 5))]) (49 : Nat))) true :: rdOf B)) (Sy.Res.leaf (Exit.normal, (100 : Nat), [Value.pointer z10, Value.bool false, Value.int IntKind.i64 k, v, Value.int IntKind.i64 (Ex.wrapQ IntKind.i64 (Ex.addQ z0 (1 : Int)))], Blk.mk (Let.n (ns 6)) (Sy.Cont.obj (Obj.cells (Array.mk [Value.int IntKind.i64 (Let.i (ns 0)), Value.int IntKind.i64 (Let.i (ns 1)), Value.int IntKind.i64 (Let.i (ns 2)), Value.int IntKind.i64 (Let.i (ns 3)), Value.int IntKind.i64 (Let.i (ns 4)), Value.int
 IntKind.i64 (Let.i (ns 5))]) (49 : Nat))) true :: rdOf B)))) (Sy.Res.leaf (Exit.normal, (100 : Nat), [Value.pointer z10, Value.bool false, Value.int IntKind.i64 k, v, Value.int IntKind.i64 (Ex.wrapQ IntKind.i64 (Ex.addQ z0 (1 : Int)))], Blk.mk (Let.n (ns 6)) (Sy.Cont.obj (Obj.cells (Array.mk [Value.int IntKind.i64 (Let.i (ns 0)), Value.int IntKind.i64 (Let.i (ns 1)), Value.int IntKind.i64 (Let.i (ns 2)), Value.int IntKind.i64 (Let.i (ns 3)), Value.int IntKind.i64 (Let.i (ns 4)), Value.int IntKind.i64 (Let.i (ns 5))]) (49 : Nat))) true :: rdOf B)))))))))))))))))) (Sy.Res.leaf (Exit.exit (2 : Nat), (100 : Nat), z11, rdOf B)))
theorem bi_run (B : List (Nat × Sy.Cont)) (p1 : Nat) (v : Value) (k : Int) (j : Nat) (f : Nat → Value) : Sy.Ran (Sy.pieceT Tryz.prog Sy.S0 50 fGB bodyB2 100 (slI p1 v k j) ((List.range 100).map f) (rdOf B) [1, 2, 3, 5, 7]) bi_o (bi_R B p1 v k j f) := ⟨fun ns => by kernel_rfl, fun ns => by kernel_rfl⟩
end Go.Proofs.YtlpcnaeknbmjdaaGreat.Gn

namespace Go.Proofs.YtlpcnaeknbmjdaaGreat.Gn
open Go Go.RowKit
open Go.Proofs.YtlpcnaeknbmjdaaGreat.Sy (Let Blk HasL)
open Lw (I insCells tI)
structure InsR (B : List (Nat × Sy.Cont)) (v : Value) (X : List I) : Prop where
  sl : ∃ p n c, v = .slice p n c
  len : Sy.lenS v = X.length
  at_ : X ≠ [] → ∃ n c, v = .slice (some ⟨Sy.ptrS v, Sy.offS v, none⟩) n c
  c0 : ∀ (k : Nat) (i : I), X[k]? = some i → HasL (rdOf B) (Sy.ptrS v) (Sy.offS v + k * 6) (.int .i64 i.op)
  c1 : ∀ (k : Nat) (i : I), X[k]? = some i → HasL (rdOf B) (Sy.ptrS v) (Sy.offS v + k * 6 + 1) (.int .i64 i.rd)
  c2 : ∀ (k : Nat) (i : I), X[k]? = some i → HasL (rdOf B) (Sy.ptrS v) (Sy.offS v + k * 6 + 1 + 1) (.int .i64 i.rn)
  c3 : ∀ (k : Nat) (i : I), X[k]? = some i → HasL (rdOf B) (Sy.ptrS v) (Sy.offS v + k * 6 + 1 + 1 + 1) (.int .i64 i.rm)
  c4 : ∀ (k : Nat) (i : I), X[k]? = some i → HasL (rdOf B) (Sy.ptrS v) (Sy.offS v + k * 6 + 1 + 1 + 1 + 1) (.int .i64 i.imm)
  c5 : ∀ (k : Nat) (i : I), X[k]? = some i → HasL (rdOf B) (Sy.ptrS v) (Sy.offS v + k * 6 + 1 + 1 + 1 + 1 + 1) (.int .i64 i.cond)
theorem ins_at {X : List I} {k : Nat} {i : I} (h : X[k]? = some i) (j : Nat) {u : Value} (hu : i.cells[j]? = some u) : (insCells X)[k * 6 + j]? = some u := by
  induction X generalizing k with
  | nil => simp at h
  | cons x r ih =>
    show (x.cells ++ insCells r)[k * 6 + j]? = _
    have hl : x.cells.length = 6 := rfl
    cases k with
    | zero =>
      simp only [List.getElem?_cons_zero, Option.some.injEq] at h
      subst h
      rw [Nat.zero_mul, Nat.zero_add, List.getElem?_append_left (List.getElem?_eq_some_iff.1 hu).1]
      exact hu
    | succ k =>
      rw [List.getElem?_append_right (by omega), hl, show (k + 1) * 6 + j - 6 = k * 6 + j by omega]
      exact ih (by simpa using h)
theorem insR_row {v : Value} {X : List I} (h : RowV v X) : InsR (rowB v X) (slV v) X := by
  rcases h.lit with ⟨rfl, hv, hB⟩ | ⟨g, cap, hv, hB, -, -⟩
  · rw [hv, hB]
    exact ⟨⟨_, _, _, rfl⟩, rfl, fun h => absurd rfl h, fun k i h => by simp at h, fun k i h => by simp at h, fun k i h => by simp at h, fun k i h => by simp at h, fun k i h => by simp at h, fun k i h => by simp at h⟩
  · rw [hv, hB]
    have hh : ∀ (k : Nat) (i : I), X[k]? = some i → ∀ (j : Nat) (u : Value), i.cells[j]? = some u → HasL (rdOf [(g, Sy.Cont.row tI 6 X.length cap (insCells X))]) g (0 + k * 6 + j) u := fun k i hk j u hu =>
      ⟨_, List.mem_singleton_self _, rfl, by show (insCells X)[0 + k * 6 + j]? = some u; rw [Nat.zero_add]; exact ins_at hk j hu⟩
    exact ⟨⟨_, _, _, rfl⟩, rfl, fun _ => ⟨_, _, rfl⟩, fun k i h => hh k i h 0 _ rfl, fun k i h => hh k i h 1 _ rfl, fun k i h => hh k i h 2 _ rfl, fun k i h => hh k i h 3 _ rfl, fun k i h => hh k i h 4 _ rfl, fun k i h => hh k i h 5 _ rfl⟩
noncomputable def loopBI (B : List (Nat × Sy.Cont)) (p1 : Nat) (v : Value) (k : Int) (X : List I) : Sy.LoopC :=
  ⟨.loop bodyB2, 100, slI p1 v k 0, InsR B v X ∧ X.length ≤ 2000000 ∧ ∃ n, okFin n X, ⟨[], [], 0, B⟩,
    [(⟨fun _ => True, fun _ => [], fun _ => []⟩, .exit 2, fun _ => [(1, .pointer (some ⟨p1, 0, none⟩)), (2, .bool false), (3, .int .i64 k), (5, v)])]⟩
theorem loopBI_met (B : List (Nat × Sy.Cont)) (p1 : Nat) (v : Value) (k : Int) (X : List I) : Sy.MeetsL Tryz.prog (loopBI B p1 v k X) := by
  refine Sy.loop_ofB (S := fun _ : Nat => Sy.S0) (n := 50) (fn := fGB) (fun _ => Sy.S0_holds) mixed (body := bodyB2) rfl [1, 2, 3, 5, 7] (fun j : Nat => slI p1 v k j)
    (fun _ => rdOf B) (fun j => j ≤ X.length ∧ InsR B v X ∧ X.length ≤ 2000000 ∧ ∃ n, okFin n X) (fun j => X.length - j)
    0 (fun h => ⟨Nat.zero_le _, h⟩) (fun p hp => hp) (Sy.Ent.refl _) (o := fun _ => bi_o) (R := fun j f => bi_R B p1 v k j f) (fun j f _ => bi_run B p1 v k j f) ?_
  rintro - j f ⟨hk, hR, hlen, n, hF⟩ ns
  simp only [bi_R, Sy.Res.holds]
  refine ⟨hR.sl, fun hlt => ?_, fun hge => ?_⟩
  · have hlt : j < X.length := by rw [Ex.ltQ_eq, hR.len] at hlt; simpa using hlt
    obtain ⟨i, hi⟩ : ∃ n, X[j]? = some n := ⟨_, List.getElem?_eq_getElem hlt⟩
    have hjn := (hF.2 j i hi)
    refine ⟨⟨hR.at_ (fun h => by rw [h] at hlt; simp at hlt), by simp, by rw [hR.len]; simpa using hlt⟩, ⟨_, hR.c0 j i hi⟩, fun e0 => ⟨⟨_, hR.c1 j i hi⟩, fun e1 => ⟨⟨_, hR.c2 j i hi⟩, fun e2 => ⟨⟨_, hR.c3 j i hi⟩, fun e3 => ⟨⟨_, hR.c4 j i hi⟩, fun e4 => ⟨⟨_, hR.c5 j i hi⟩, fun e5 => ⟨hR.sl, ?_⟩⟩⟩⟩⟩⟩⟩
    have e0 := e0 _ (hR.c0 j i hi)
    have e4 := e4 _ (hR.c4 j i hi)
    simp only [Value.int.injEq, true_and] at e0 e4
    rw [← e0, ← e4]
    have hl := hF.1
    have hsub : Ex.wrapQ .i64 (Ex.subQ' (Int.ofNat (Sy.lenS v)) 1) = (n : Int) := by
      rw [hR.len, hl, Ex.wrapQ_eq, Ex.subQ_eq]
      simp [IntKind.wrap, IntKind.signed, IntKind.bits]
      omega
    have next : ∀ x : Blk, Sy.leafLB (loopBI B p1 v k X) [1, 2, 3, 5, 7] (fun j : Nat => slI p1 v k j) (fun _ => rdOf B) (fun j => j ≤ X.length ∧ InsR B v X ∧ X.length ≤ 2000000 ∧ ∃ n, okFin n X) (fun j => X.length - j) j
        (.normal, 100, [.pointer (some ⟨p1, 0, none⟩), .bool false, .int .i64 k, v, .int .i64 (Ex.wrapQ .i64 (Ex.addQ (Int.ofNat j) 1))], x :: rdOf B) := fun x => by
      refine ⟨rfl, .inl ⟨rfl, j + 1, ⟨by omega, hR, hlen, n, hF⟩, by show X.length - (j + 1) < X.length - j; omega, ?_, Sy.Ent.sub (List.sublist_cons_self _ _)⟩⟩
      rw [w_succ (by omega)]
      rfl
    refine ⟨fun hb => ?_, fun _ => ⟨fun hb => ⟨hR.sl, fun h3 => ?_, fun h3 => next _⟩, fun hb => next _⟩⟩
    · exfalso
      rw [hsub] at hb
      simp only [Ex.eqQ_eq, Int.ofNat_eq_natCast] at hb
      by_cases h1 : i.op = 34
      · have := hjn.1.1 h1
        rw [beqI h1, beqI (show (j : Int) = (n : Int) by omega)] at hb
        simp at hb
      · have : ¬ j = n := fun h => h1 (hjn.1.2 h)
        rw [bneI h1, bneI (show ¬ (j : Int) = (n : Int) by omega)] at hb
        simp at hb
    · exfalso
      have hbr : isBr i.op := by
        unfold isBr
        simp only [Ex.eqQ_eq] at hb
        by_cases h1 : i.op = 18
        · exact .inl h1
        by_cases h2 : i.op = 19
        · exact .inr (.inl h2)
        by_cases h3 : i.op = 20
        · exact .inr (.inr (.inl h3))
        by_cases h4 : i.op = 21
        · exact .inr (.inr (.inr h4))
        rw [bneI h1, bneI h2, bneI h3, bneI h4] at hb
        simp at hb
      have h4 := hjn.2 hbr
      have hadd : Ex.wrapQ .i64 (Ex.addQ (Int.ofNat j) i.imm) = (j : Int) + i.imm := by
        rw [Ex.wrapQ_eq, Ex.addQ_eq]
        simp [IntKind.wrap, IntKind.signed, IntKind.bits]
        omega
      rw [hadd, hR.len] at h3
      simp only [Ex.ltQ_eq, Ex.leQ_eq, Int.ofNat_eq_natCast] at h3
      rw [dec0 (show ¬ (j : Int) + i.imm < 0 by omega), dec0 (show ¬ (X.length : Int) ≤ (j : Int) + i.imm by omega)] at h3
      simp at h3
  · exact ⟨rfl, .inr ⟨by simp, _, List.mem_singleton_self _, rfl, [], rfl, ⟨[0, 1, 2, 3], rfl⟩, Sy.Ent.sub (List.nil_sublist _), trivial⟩⟩
end Go.Proofs.YtlpcnaeknbmjdaaGreat.Gn
