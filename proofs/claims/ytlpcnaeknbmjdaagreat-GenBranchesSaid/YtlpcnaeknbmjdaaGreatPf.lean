/-
  GenBranches: the threads' loop, explored; GenBranches: the threads' loop, the contract; Contexts of the closed runs of awake; GenBranches: the statement's run, explored; awake: a thread's instructions; awake: a text's program; awake, by contract; GenBranches: the statement's run, by contract; The ro
-/
import Derived.Test.YtlpcnaeknbmjdaaGreatPe
import Derived.Below
import Derived.ChangeSame
import Derived.Test.YtlpcnaeknbmjdaaGreatRows
import Derived.SizedLaws
import Derived.Lib.SmallJoins
import Derived.Carry
import Derived.ProofKit
import Derived.OpenShut
import Derived.Deep.Slices
import Derived.Deep.Fields
import Derived.HandedShaped

namespace Go.Proofs.YtlpcnaeknbmjdaaGreat.Gn
set_option linter.unusedVariables false
set_option linter.unusedSimpArgs false
open Go Go.RowKit
open Go.Proofs.YtlpcnaeknbmjdaaGreat.Sy (Let Blk HasL)
open Lw (I insCells tI)
def Sy.vI (v : Value) : Int := match v with
  | .int _ x => x
  | _ => 0
def Sy.vB (v : Value) : Bool := match v with
  | .bool x => x
  | _ => false
noncomputable def ctxBo (q : Rw) (B : List (Nat × Sy.Cont)) (tv : Value) (l : List ThreadD) (cells : Int) : Sy.Ctx :=
  Sy.mkS [(fThread, fun a _ => threadC q fThread false B tv l cells (Sy.argI a 1)), (fLseThread, fun a _ => threadC q fLseThread true B tv l cells (Sy.argI a 1))]
    [(fGB, fun a _ => loopBI (q.B (a.get 5) (doneI (Sy.vB (a.get 30)) (actsOf l (Sy.vI (a.get 4))))) (Sy.ptrN (a.get 1)) (a.get 5) (Sy.vI (a.get 3)) (doneI (Sy.vB (a.get 30)) (actsOf l (Sy.vI (a.get 4)))))] []
def slK (p1 : Nat) (k : Int) : List (Nat × Value) := [(1, .pointer (some ⟨p1, 0, none⟩)), (2, .bool false), (3, .int .i64 k)]
def memK (p1 : Nat) (cells : Int) (tv : Value) : List (Nat × Sy.Cont) := [(p1, .obj (.cells #[.int .i64 cells, tv] 24 (0, 0)))]
def bo_o : Sy.O := (Sy.O.pack 4 0x8000 (Sy.O.fork (Sy.O.pack 6 0x2100000 (Sy.O.fork (Sy.O.pack 5 0x20 (Sy.O.fork (Sy.O.pack 6 0x4100020 (Sy.O.fork (Sy.O.pack 11 0x20 Sy.O.nil) (Sy.O.fork (Sy.O.pack 8 0x20 (Sy.O.fork (Sy.O.steps [0, 0] Sy.O.nil) (Sy.O.pack 13 0x100820 Sy.O.nil))) (Sy.O.pack 17 0x8020104000000000021 (Sy.O.fork Sy.O.nil Sy.O.nil))))) (Sy.O.pack 6 0x0 Sy.O.nil))) (Sy.O.fork (Sy.O.pack 5 0x20 (Sy.O.fork (Sy.O.pack 6 0x4100020 (Sy.O.fork (Sy.O.pack 11 0x20 Sy.O.nil) (Sy.O.fork (Sy.O.pack 8 0x20 (Sy.O.fork (Sy.O.steps [0, 0] Sy.O.nil) (Sy.O.pack 13 0x100820 Sy.O.nil))) (Sy.O.pack 17 0x8020104000000000021 (Sy.O.fork Sy.O.nil Sy.O.nil))))) (Sy.O.pack 3 0x0 (Sy.O.fork (Sy.O.steps [0, 0] Sy.O.nil) (Sy.O.pack 13 0x100820 Sy.O.nil))))) (Sy.O.pack 5 0x21 (Sy.O.fork (Sy.O.pack 6 0x4100020 (Sy.O.fork (Sy.O.pack 11 0x20 Sy.O.nil) (Sy.O.fork (Sy.O.pack 8 0x20 (Sy.O.fork (Sy.O.steps [0, 0] Sy.O.nil) (Sy.O.pack 13 0x100820 Sy.O.nil))) (Sy.O.pack 17 0x8020104000000000021 (Sy.O.fork Sy.O.nil Sy.O.nil))))) (Sy.O.pack 12 0x4010082000000 (Sy.O.fork Sy.O.nil Sy.O.nil))))))) Sy.O.nil))
noncomputable def bo_R (q : Rw) (B : List (Nat × Sy.Cont)) (l : List ThreadD) (p1 : Nat) (tv : Value) (k : Int) (cells : Int) (f : Nat → Value) (ns : Nat → Sy.Let) : Sy.Res (Exit × Nat × List Value × List Blk) :=
 let z0 := (OkOne B tv l cells)
 let z1 := (rdOf B)
 let z2 := (Ex.wrapQ IntKind.i64 (Ex.quoQ k (nat_lit 2)))
 let z3 := (goodT cells l z2 → False)
 let z4 := (Ex.eqQ (Ex.remQ k (nat_lit 2)) (1 : Int))
 let z5 := (some (Addr.mk p1 (0 : Nat) none))
 let z6 := [Value.pointer z5, Value.bool false, Value.int IntKind.i64 (Ex.wrapQ IntKind.i64 (Ex.addQ k (1 : Int)))]
 let z7 := (Sy.Cont.obj (Obj.cells (Array.mk [Value.int IntKind.i64 (1 : Int), Value.int IntKind.i64 (0 : Int), Value.int IntKind.i64 (0 : Int)]) (31 : Nat)))
 let z8 := (Sy.Cont.obj (Obj.cells (Array.mk [Value.int IntKind.i64 cells, tv]) (24 : Nat)))
 let z9 := (actsOf l z2)
 let z10 := (goodT cells l z2 ∧ faultF true (0 : Nat) z9 ≠ none)
 let z11 := (Prod.fst (fltV true z9))
 let z12 := (!Ex.eqQ z11 (0 : Int))
 let z13 := (Prod.snd (fltV true z9))
 let z14 := (Sy.Cont.obj (Obj.cells (Array.mk [Value.int IntKind.i64 z11, Value.int IntKind.i64 (Prod.fst z13), Value.int IntKind.i64 (Prod.snd z13)]) (31 : Nat)))
 let z15 := (Value.slice none (0 : Nat) (0 : Nat))
 let z16 := (doneI true z9)
 let z17 := (q.1 z15 z16)
 let z18 := [Value.pointer z5, Value.bool false, Value.int IntKind.i64 k]
 let z19 := (lv0 [ns (2 : Nat)])
 let z20 := (goodT cells l z2 ∧ faultF true (0 : Nat) z9 = none ∧ q.2 z19 z16)
 let z21 := (Value.slice (slP z19) (Sy.lenS z19) (slC z19))
 let z22 := (q.1 z21 z16)
 let z23 := (Int.ofNat (Sy.lenS z19))
 let z24 := (bif Ex.eqQ z23 (0 : Int) then true else Ex.ltQ (16384 : Int) z23)
 let z25 := (Sy.Cont.obj (Obj.cells (Array.mk [Value.int IntKind.i64 (0 : Int), Value.int IntKind.i64 (0 : Int), Value.int IntKind.i64 (0 : Int)]) (31 : Nat)))
 let z26 := (Prod.fst (fltV false z9))
 let z27 := (Prod.snd (fltV false z9))
 let z28 := (Sy.Cont.obj (Obj.cells (Array.mk [Value.int IntKind.i64 z26, Value.int IntKind.i64 (Prod.fst z27), Value.int IntKind.i64 (Prod.snd z27)]) (31 : Nat)))
 let z29 := (doneI false z9)
 let z30 := (lv0 [ns (0 : Nat)])
 let z31 := (Value.slice (slP z30) (Sy.lenS z30) (slC z30))
 let z32 := (Int.ofNat (Sy.lenS z30))
 Sy.Res.need (∃ (p : Option Addr), ∃ (n : Nat), ∃ (c : Nat), tv = Value.slice p n c) (Sy.Res.br (Ex.ltQ k (Ex.wrapQ IntKind.i64 (Ex.mulQ (2 : Int) (Int.ofNat (Sy.lenS tv))))) (Sy.Res.need z0 (Sy.Res.need (Sy.GotL z1 B) (Sy.Res.both (Sy.Res.hyp z3 (Sy.Res.br z4 (Sy.Res.need z0 (Sy.Res.need (Sy.GotL z1 B) (Sy.Res.both (Sy.Res.hyp z3 (Sy.Res.leaf (Exit.normal, (100 : Nat), z6, Blk.mk (Let.n (ns 1)) z7 true :: Blk.mk p1 z8 true :: rdOf B))) (Sy.Res.both (Sy.Res.hyp z10 (Sy.Res.br z12 (Sy.Res.leaf (Exit.normal, (100 : Nat), z6, Blk.mk (Let.n (ns 1)) z14 true :: Blk.mk p1 z8 true :: rdOf B)) (Sy.Res.need (InsR z17 z15 z16 ∧ List.length z16 ≤ (2000000 : Nat) ∧ ∃ (n : Nat), okFin n z16) (Sy.Res.need (Sy.GotL z1 z17) (Sy.Res.hyp True (Sy.Res.leaf (Exit.ret, (100 : Nat), z18, Blk.mk (Let.n (ns 1)) z14 true :: Blk.mk p1 z8 true :: rdOf B))))))) (Sy.Res.hyp z20 (Sy.Res.need (InsR z22 z21 z16 ∧ List.length z16 ≤ (2000000 : Nat) ∧ ∃ (n : Nat), okFin n z16) (Sy.Res.need (Sy.GotL (List.append z1 (List.map (fun (p : Nat × Sy.Cont) => Blk.mk (Prod.fst p) (Prod.snd p) true) (q.1 z19 z16))) z22) (Sy.Res.hyp True (Sy.Res.br z24 (Sy.Res.leaf (Exit.ret, (100 : Nat), z18, Blk.mk (Let.n (ns 1)) z25 true :: Blk.mk p1 z8 true :: List.append z1 (List.map (fun (p : Nat × Sy.Cont) => Blk.mk (Prod.fst p) (Prod.snd p) true) (q.1 z19 z16)))) (Sy.Res.leaf (Exit.normal, (100 : Nat), z6, Blk.mk (Let.n (ns 1)) z25 true :: Blk.mk p1 z8 true :: List.append z1 (List.map (fun (p : Nat × Sy.Cont) => Blk.mk (Prod.fst
 p) (Prod.snd p) true) (q.1 z19 z16))))))))))))) (Sy.Res.leaf (Exit.normal, (100 : Nat), z6, Blk.mk (Let.n (ns 1)) z7 true :: Blk.mk p1 z8 true :: rdOf B)))) (Sy.Res.both (Sy.Res.hyp (goodT cells l z2 ∧ faultF false (0 : Nat) z9 ≠ none) (Sy.Res.br z4 (Sy.Res.need z0 (Sy.Res.need (Sy.GotL z1 B) (Sy.Res.both (Sy.Res.hyp z3 (Sy.Res.leaf (Exit.normal, (100 : Nat), z6, Blk.mk (Let.n (ns 1)) z7 true :: Blk.mk p1 z8 true :: rdOf B))) (Sy.Res.both (Sy.Res.hyp z10 (Sy.Res.br z12 (Sy.Res.leaf (Exit.normal, (100 : Nat), z6, Blk.mk (Let.n (ns 1)) z14 true :: Blk.mk p1 z8 true :: rdOf B)) (Sy.Res.need (InsR z17 z15 z16 ∧ List.length z16 ≤ (2000000 : Nat) ∧ ∃ (n : Nat), okFin n z16) (Sy.Res.need (Sy.GotL z1 z17) (Sy.Res.hyp True (Sy.Res.leaf (Exit.ret, (100 : Nat), z18, Blk.mk (Let.n (ns 1)) z14 true :: Blk.mk p1 z8 true :: rdOf B))))))) (Sy.Res.hyp z20 (Sy.Res.need (InsR z22 z21 z16 ∧ List.length z16 ≤ (2000000 : Nat) ∧ ∃ (n : Nat), okFin n z16) (Sy.Res.need (Sy.GotL (List.append z1 (List.map (fun (p : Nat × Sy.Cont) => Blk.mk (Prod.fst p) (Prod.snd p) true) (q.1 z19 z16))) z22) (Sy.Res.hyp True (Sy.Res.br z24 (Sy.Res.leaf (Exit.ret, (100 : Nat), z18, Blk.mk (Let.n (ns 1)) z25 true :: Blk.mk p1 z8 true :: List.append z1 (List.map (fun (p : Nat × Sy.Cont) => Blk.mk (Prod.fst p) (Prod.snd p) true) (q.1 z19 z16)))) (Sy.Res.leaf (Exit.normal, (100 : Nat), z6, Blk.mk (Let.n (ns 1)) z25 true :: Blk.mk p1 z8 true :: List.append z1 (List.map (fun (p : Nat × Sy.Cont) => Blk.mk (Prod.fst p) (Prod.snd
 p) true) (q.1 z19 z16))))))))))))) (Sy.Res.br (!Ex.eqQ z26 (0 : Int)) (Sy.Res.leaf (Exit.normal, (100 : Nat), z6, Blk.mk (Let.n (ns 1)) z28 true :: Blk.mk p1 z8 true :: rdOf B)) (Sy.Res.need (InsR (q.1 z15 z29) z15 z29 ∧ List.length z29 ≤ (2000000 : Nat) ∧ ∃ (n : Nat), okFin n z29) (Sy.Res.need (Sy.GotL z1 (q.1 z15 z29)) (Sy.Res.hyp True (Sy.Res.leaf (Exit.ret, (100 : Nat), z18, Blk.mk (Let.n (ns 1)) z28 true :: Blk.mk p1 z8 true :: rdOf B)))))))) (Sy.Res.hyp (goodT cells l z2 ∧ faultF false (0 : Nat) z9 = none ∧ q.2 z30 z29) (Sy.Res.br z4 (Sy.Res.need z0 (Sy.Res.need (Sy.GotL (List.append z1 (List.map (fun (p : Nat × Sy.Cont) => Blk.mk (Prod.fst p) (Prod.snd p) true) (q.1 z30 z29))) B) (Sy.Res.both (Sy.Res.hyp z3 (Sy.Res.leaf (Exit.normal, (100 : Nat), z6, Blk.mk (Let.n (ns 1)) z7 true :: Blk.mk p1 z8 true :: List.append z1 (List.map (fun (p : Nat × Sy.Cont) => Blk.mk (Prod.fst p) (Prod.snd p) true) (q.1 z30 z29))))) (Sy.Res.both (Sy.Res.hyp z10 (Sy.Res.br z12 (Sy.Res.leaf (Exit.normal, (100 : Nat), z6, Blk.mk (Let.n (ns 1)) z14 true :: Blk.mk p1 z8 true :: List.append z1 (List.map (fun (p : Nat × Sy.Cont) => Blk.mk (Prod.fst p) (Prod.snd p) true) (q.1 z30 z29)))) (Sy.Res.need (InsR z17 z15 z16 ∧ List.length z16 ≤ (2000000 : Nat) ∧ ∃ (n : Nat), okFin n z16) (Sy.Res.need (Sy.GotL (List.append z1 (List.map (fun (p : Nat × Sy.Cont) => Blk.mk (Prod.fst p) (Prod.snd p) true) (q.1 z30 z29))) z17) (Sy.Res.hyp True (Sy.Res.leaf (Exit.ret, (100 : Nat), z18, Blk.mk (Let.n (ns 1)) z14
 true :: Blk.mk p1 z8 true :: List.append z1 (List.map (fun (p : Nat × Sy.Cont) => Blk.mk (Prod.fst p) (Prod.snd p) true) (q.1 z30 z29))))))))) (Sy.Res.hyp z20 (Sy.Res.need (InsR z22 z21 z16 ∧ List.length z16 ≤ (2000000 : Nat) ∧ ∃ (n : Nat), okFin n z16) (Sy.Res.need (Sy.GotL (List.append (List.append z1 (List.map (fun (p : Nat × Sy.Cont) => Blk.mk (Prod.fst p) (Prod.snd p) true) (q.1 z30 z29))) (List.map (fun (p : Nat × Sy.Cont) => Blk.mk (Prod.fst p) (Prod.snd p) true) (q.1 z19 z16))) z22) (Sy.Res.hyp True (Sy.Res.br z24 (Sy.Res.leaf (Exit.ret, (100 : Nat), z18, Blk.mk (Let.n (ns 1)) z25 true :: Blk.mk p1 z8 true :: List.append (List.append z1 (List.map (fun (p : Nat × Sy.Cont) => Blk.mk (Prod.fst p) (Prod.snd p) true) (q.1 z30 z29))) (List.map (fun (p : Nat × Sy.Cont) => Blk.mk (Prod.fst p) (Prod.snd p) true) (q.1 z19 z16)))) (Sy.Res.leaf (Exit.normal, (100 : Nat), z6, Blk.mk (Let.n (ns 1)) z25 true :: Blk.mk p1 z8 true :: List.append (List.append z1 (List.map (fun (p : Nat × Sy.Cont) => Blk.mk (Prod.fst p) (Prod.snd p) true) (q.1 z30 z29))) (List.map (fun (p : Nat × Sy.Cont) => Blk.mk (Prod.fst p) (Prod.snd p) true) (q.1 z19 z16))))))))))))) (Sy.Res.need (InsR (q.1 z31 z29) z31 z29 ∧ List.length z29 ≤ (2000000 : Nat) ∧ ∃ (n : Nat), okFin n z29) (Sy.Res.need (Sy.GotL (List.append z1 (List.map (fun (p : Nat × Sy.Cont) => Blk.mk (Prod.fst p) (Prod.snd p) true) (q.1 z30 z29))) (q.1 z31 z29)) (Sy.Res.hyp True (Sy.Res.br (bif Ex.eqQ z32 (0 : Int) then true else Ex.ltQ (16384 :
 Int) z32) (Sy.Res.leaf (Exit.ret, (100 : Nat), z18, Blk.mk (Let.n (ns 1)) z25 true :: Blk.mk p1 z8 true :: List.append z1 (List.map (fun (p : Nat × Sy.Cont) => Blk.mk (Prod.fst p) (Prod.snd p) true) (q.1 z30 z29)))) (Sy.Res.leaf (Exit.normal, (100 : Nat), z6, Blk.mk (Let.n (ns 1)) z25 true :: Blk.mk p1 z8 true :: List.append z1 (List.map (fun (p : Nat × Sy.Cont) => Blk.mk (Prod.fst p) (Prod.snd p) true) (q.1 z30 z29)))))))))))))) (Sy.Res.leaf (Exit.exit (0 : Nat), (100 : Nat), z18, Blk.mk p1 z8 true :: rdOf B)))
theorem bo_run (q : Rw) (B : List (Nat × Sy.Cont)) (l : List ThreadD) (p1 : Nat) (tv : Value) (k cells : Int) (f : Nat → Value) : Sy.Ran (Sy.pieceT Tryz.prog (ctxBo q B tv l cells) 50 fGB bodyB1 100 (slK p1 k) ((List.range 100).map f) ((memK p1 cells tv).map Sy.ownOf ++ rdOf B) [1, 2, 3]) bo_o (bo_R q B l p1 tv k cells f) := ⟨fun ns => by kernel_rfl, fun ns => by kernel_rfl⟩
end Go.Proofs.YtlpcnaeknbmjdaaGreat.Gn

namespace Go.Proofs.YtlpcnaeknbmjdaaGreat.Gn
open Go Go.RowKit
open Go.Proofs.YtlpcnaeknbmjdaaGreat.Sy (Let Blk HasL)
open Lw (I insCells tI)
theorem flt_some {b : Bool} : ∀ {acts : List ActD} {n : Nat} {p : Int × Int × Int}, faultF b n acts = some p → p.1 ≠ 0
  | [], n, p, h => by cases h
  | a :: r, n, p, h => by
    unfold faultF at h
    split at h
    · rename_i h1
      injection h with h
      rw [← h]
      exact h1
    split at h
    · injection h with h
      rw [← h]
      show (31 : Int) ≠ 0
      decide
    · exact flt_some h
theorem flt_ne {b : Bool} {acts : List ActD} (h : faultF b 0 acts ≠ none) : (fltV b acts).1 ≠ 0 := by
  unfold fltV
  cases hf : faultF b 0 acts with
  | none => exact absurd hf h
  | some p => exact flt_some hf
noncomputable def loopBO (B : List (Nat × Sy.Cont)) (p1 : Nat) (tv : Value) (cells : Int) (l : List ThreadD) : Sy.LoopC :=
  ⟨.loop bodyB1, 100, slK p1 0, OkOne B tv l cells, ⟨[], memK p1 cells tv, 0, B⟩, [(⟨fun _ => True, fun _ => [], fun _ => []⟩, .exit 0, fun _ => [(2, .bool false)])]⟩
theorem loopBO_met (B : List (Nat × Sy.Cont)) (p1 : Nat) (tv : Value) (cells : Int) (l : List ThreadD) : Sy.MeetsL Tryz.prog (loopBO B p1 tv cells l) := by
  have hS : (ctxBo rowQ B tv l cells).holds Tryz.prog := Sy.mkS_holds (fun p hp a L => by
    rcases List.mem_cons.1 hp with rfl | hp
    · exact thread_met _ _ _ _ _
    rcases List.mem_singleton.1 hp with rfl
    exact lseThread_met _ _ _ _ _) (fun p hp a L => by
    rcases List.mem_singleton.1 hp with rfl
    exact loopBI_met _ _ _ _ _) (fun _ h => (by cases h))
  refine Sy.loop_ofB (S := fun _ : Nat => ctxBo rowQ B tv l cells) (n := 50) (fn := fGB) (fun _ => hS) mixed (body := bodyB1) rfl [1, 2, 3] (fun k : Nat => slK p1 (Int.ofNat k))
    (fun _ => (memK p1 cells tv).map Sy.ownOf ++ rdOf B) (fun k => k ≤ 2 * l.length ∧ OkOne B tv l cells) (fun k => 2 * l.length - k)
    0 (fun h => ⟨Nat.zero_le _, h⟩) (fun p hp => hp) (Sy.Ent.refl _) (o := fun _ => bo_o) (R := fun k f => bo_R rowQ B l p1 tv (Int.ofNat k) cells f) (fun k f _ => bo_run rowQ B l p1 tv (Int.ofNat k) cells f) ?_
  rintro - k f ⟨hk, hok⟩ ns
  have hT := hok.t
  have hlt := hT.lt
  have hmul : Ex.wrapQ .i64 (Ex.mulQ 2 (Int.ofNat (Sy.lenS tv))) = 2 * (l.length : Int) := by
    rw [hT.len, Ex.wrapQ_eq, Ex.mulQ_eq]
    simp [IntKind.wrap, IntKind.signed, IntKind.bits]
    omega
  have hgB : Sy.GotL (rdOf B) B := gotL_of fun p hp => hp
  have hgX : ∀ (C : List Blk) (v : Value) (X : List I), Sy.GotL (List.append C (List.map (fun p : Nat × Sy.Cont => (⟨p.1, p.2, true⟩ : Blk)) (rowB v X))) (rowB (slV v) X) := fun C v X p hp =>
    ⟨⟨p.1, p.2, true⟩, List.mem_append_right _ (List.mem_map.2 ⟨p, hp, rfl⟩), rfl, fun _ h => h⟩
  have next : ∀ (x : Blk) (R : List Blk), k < 2 * l.length → List.Sublist (rdOf B) R → Sy.leafLB (loopBO B p1 tv cells l) [1, 2, 3] (fun k : Nat => slK p1 (Int.ofNat k)) (fun _ => (memK p1 cells tv).map Sy.ownOf ++ rdOf B) (fun k => k ≤ 2 * l.length ∧ OkOne B tv l cells) (fun k => 2 * l.length - k) k
      (.normal, 100, [.pointer (some ⟨p1, 0, none⟩), .bool false, .int .i64 (Ex.wrapQ .i64 (Ex.addQ (Int.ofNat k) 1))], x :: ⟨p1, .obj (.cells #[.int .i64 cells, tv] 24 (0, 0)), true⟩ :: R) := fun x R hlt hR => by
    refine ⟨rfl, .inl ⟨rfl, k + 1, ⟨by omega, hok⟩, by show 2 * l.length - (k + 1) < 2 * l.length - k; omega, ?_, Sy.Ent.sub (.cons _ (.cons_cons _ hR))⟩⟩
    rw [w_succ (by omega)]
    rfl
  have hin : ∀ {v : Value} {b : Bool} {acts : List ActD}, RowV v (doneI b acts) → faultF b 0 acts = none → InsR (rowB (slV v) (doneI b acts)) (slV v) (doneI b acts) ∧ (doneI b acts).length ≤ 2000000 ∧ ∃ n, okFin n (doneI b acts) := fun hV hF => by
    have := done_few hF
    exact ⟨insR_row hV, by omega, _, fin_done _ _⟩
  have hno : ∀ {v : Value} {b : Bool} {acts : List ActD}, RowV v (doneI b acts) → faultF b 0 acts = none → (bif Ex.eqQ (Int.ofNat (Sy.lenS v)) 0 then true else Ex.ltQ 16384 (Int.ofNat (Sy.lenS v))) = true → False := fun hV hF hb => by
    have h1 := done_few hF
    have h2 := (fin_done _ _).1 ▸ hV.len
    have h3 := hV.len
    rw [h3] at hb h2
    simp only [Ex.eqQ_eq, Ex.ltQ_eq, Int.ofNat_eq_natCast] at hb
    rw [bneI (by omega), dec0 (by omega)] at hb
    simp at hb
  have hfl : ∀ {b : Bool} {acts : List ActD}, faultF b 0 acts ≠ none → (!Ex.eqQ (fltV b acts).1 0) = false → False := fun hF hb => by
    rw [Ex.eqQ_eq, bneI (flt_ne hF)] at hb
    cases hb
  simp only [bo_R, Sy.Res.holds]
  refine ⟨hT.sl, fun hlt => ?_, fun hge => ?_⟩
  · have hlt : k < 2 * l.length := by rw [Ex.ltQ_eq, hmul] at hlt; have := of_decide_eq_true hlt; simp only [Int.ofNat_eq_natCast] at this; omega
    have sl1 : ∀ R : List Blk, List.Sublist (rdOf B) (List.append (rdOf B) R) := fun R => List.sublist_append_left _ _
    refine ⟨hok, hgB, fun hA => ⟨fun _ => ⟨hok, hgB, fun hA2 => next _ _ hlt (List.Sublist.refl _), fun hB2 => ⟨fun _ => next _ _ hlt (List.Sublist.refl _), fun hb => (hfl hB2.2 hb).elim⟩, fun hC2 => ⟨hin hC2.2.2 hC2.2.1, hgX _ _ _, fun _ => ⟨fun hb => (hno hC2.2.2 hC2.2.1 hb).elim, fun _ => next _ _ hlt (sl1 _)⟩⟩⟩, fun _ => next _ _ hlt (List.Sublist.refl _)⟩,
      fun hB => ⟨fun _ => ⟨hok, hgB, fun hA2 => next _ _ hlt (List.Sublist.refl _), fun hB2 => ⟨fun _ => next _ _ hlt (List.Sublist.refl _), fun hb => (hfl hB2.2 hb).elim⟩, fun hC2 => ⟨hin hC2.2.2 hC2.2.1, hgX _ _ _, fun _ => ⟨fun hb => (hno hC2.2.2 hC2.2.1 hb).elim, fun _ => next _ _ hlt (sl1 _)⟩⟩⟩, fun _ => ⟨fun _ => next _ _ hlt (List.Sublist.refl _), fun hb => (hfl hB.2 hb).elim⟩⟩,
      fun hC => ⟨fun _ => ⟨hok, ?_, fun hA2 => next _ _ hlt (sl1 _), fun hB2 => ⟨fun _ => next _ _ hlt (sl1 _), fun hb => (hfl hB2.2 hb).elim⟩, fun hC2 => ⟨hin hC2.2.2 hC2.2.1, ?_, fun _ => ⟨fun hb => (hno hC2.2.2 hC2.2.1 hb).elim, fun _ => next _ _ hlt ?_⟩⟩⟩, fun _ => ⟨hin hC.2.2 hC.2.1, hgX _ _ _, fun _ => ⟨fun hb => (hno hC.2.2 hC.2.1 hb).elim, fun _ => next _ _ hlt (sl1 _)⟩⟩⟩⟩
    · exact gotL_of fun p hp => List.mem_append_left _ hp
    · exact hgX _ _ _
    · exact (sl1 _).trans (List.sublist_append_left _ _)
  · exact ⟨rfl, .inr ⟨by simp, _, List.mem_singleton_self _, rfl, [], rfl, ⟨[1], rfl⟩, Sy.Ent.sub (List.nil_sublist _), trivial⟩⟩
end Go.Proofs.YtlpcnaeknbmjdaaGreat.Gn

namespace Go.Proofs.YtlpcnaeknbmjdaaGreat.Gn
set_option linter.unusedVariables false
set_option linter.unusedSimpArgs false
open Go Go.RowKit
open Go.Proofs.YtlpcnaeknbmjdaaGreat.Sy (Let Blk)
abbrev fThr : FuncId := 16
abbrev fAwake : FuncId := 9
abbrev fOf : FuncId := 18
noncomputable def stays (f : FuncId) : Bool := Nat.beq f 59 || Nat.beq f 60 || Nat.beq f 99 || Nat.beq f 100 || Nat.beq f 102 || Nat.beq f 104 || Nat.beq f 107 || Nat.beq f 130 || Nat.beq f 131 || Nat.beq f 53
noncomputable def awH : Sy.How := ⟨fun f => !stays f, stays, []⟩
theorem awH_holds : awH.holds Tryz.prog := ⟨fun _ h => (by cases h)⟩
def noC : Sy.CallC := ⟨0, #[], False, ⟨[], [], 0, []⟩, []⟩
theorem noC_met : Sy.Meets Tryz.prog noC := fun h => h.elim
def bcells (bs : List Nat) : List Value := bs.map fun b => .int .u8 (Int.ofNat b)
def tg0 : ByteArray := ⟨#[116, 104, 114, 101, 97, 100, 32, 123, 32, 125]⟩
def tq0 : List Nat := [116, 104, 114, 101, 97, 100, 32, 123, 32, 119, 104, 105, 108, 101, 32, 40, 49, 41, 32, 123, 32, 125, 32, 125, 32, 116, 104, 114, 101, 97, 100, 32, 123, 32, 125]
end Go.Proofs.YtlpcnaeknbmjdaaGreat.Gn

namespace Go.Proofs.YtlpcnaeknbmjdaaGreat.Gn
set_option linter.unusedVariables false
set_option linter.unusedSimpArgs false
open Go Go.RowKit
open Go.Proofs.YtlpcnaeknbmjdaaGreat.Sy (Let Blk HasL)
open Lw (I insCells tI)
noncomputable def awC : Sy.CallC := Sy.shutC' fAwake #[] [] True (.bool true)
noncomputable def ctxGB (B : List (Nat × Sy.Cont)) (l : List ThreadD) (tv : Value) (cells : Int) : Sy.Ctx := Sy.mkS [(fAwake, fun _ _ => awC)] [(fGB, fun a _ => loopBO B (Sy.ptrN (a.get 1)) tv cells l)] []
def gb_o : Sy.O := (Sy.O.pack 12 0x80010800008000 Sy.O.nil)
noncomputable def gb_R (B : List (Nat × Sy.Cont)) (l : List ThreadD) (tv : Value) (cells : Int) (ns : Nat → Sy.Let) : Sy.Res (Value × List Blk) :=
 let z0 := ([] ++ List.eraseIdx (Blk.mk (Let.n (ns 0)) (Sy.Cont.obj (Obj.cells (Array.mk [Value.int IntKind.i64 cells, tv]) (24 : Nat))) true :: rdOf B) (nat_lit 0))
 Sy.Res.need True (Sy.Res.hyp True (Sy.Res.need (OkOne B tv l cells) (Sy.Res.need (Sy.GotL z0 B) (Sy.Res.hyp True (Sy.Res.leaf (Value.bool true, [] ++ z0))))))
theorem gb_run (B : List (Nat × Sy.Cont)) (l : List ThreadD) (tv : Value) (cells : Int) : Sy.Ran (Sy.inB Tryz.prog (ctxGB B l tv cells) 50 fGB #[progV cells tv] (rdOf B)) gb_o (gb_R B l tv cells) := ⟨fun ns => by kernel_rfl, fun ns => by kernel_rfl⟩
end Go.Proofs.YtlpcnaeknbmjdaaGreat.Gn

namespace Go.Proofs.YtlpcnaeknbmjdaaGreat.Gn
set_option linter.unusedVariables false
set_option linter.unusedSimpArgs false
open Go Go.RowKit
open Go.Proofs.YtlpcnaeknbmjdaaGreat.Sy (Let Blk)
set_option maxRecDepth 1000000 in
noncomputable def th0_o : Sy.O := (Sy.O.pack 120 0x200002002400000000800000000000010000100100000000040000000000000800008007000000002000000000000040000400300000000100000000000002000020014000000000000 (Sy.O.pack 120 0x4007000000001000000000000020000200340000000080000000000001000010018000000004000000000000080000800b00000000200000000000004000040050000000010000000000 (Sy.O.pack 32 0x200000000020000000000000400 (Sy.O.steps [4097] (Sy.O.pack 120 0x2000401000000000000000000200002008029020e60000500083104073000000000080000080100000000000800000000004000000000400000000000008000 (Sy.O.pack 120 0xc00000000000200000000000000000000000000000000000000000000000c00000400000000000000000000000000000000000000000000000800200000 (Sy.O.pack 120 0x200000000000000000000000000000000000000000000000c00000000000200000000000000000000000000000000000000000000000c00000000000200000000000000000000 (Sy.O.pack 120 0xc00000000000200000000000000000000000000000000000000000000000c00000000000200000000000000000000000000000000000000000000000c00 (Sy.O.pack 120 0x81840110000000000000000000005a21084212408004073000520c00008204a06100000008000000000000000000000000060000000004000000000000000000400000000000000000 (Sy.O.pack 120 0x800000000080000000000004000001000000000000010000000000080000000008000000000000400000000020000000c00000000000e50842108490200101cc001483000020812818400 (Sy.O.pack 120 0x1000400000000000000000000000000004000802000000000000000001000004010052041cc0000a001062081490000000004000001002000000000010000000000 (Sy.O.pack 120 0x400000000004008401481073000028004188206b00000000500203000520c0000820680400000000400000000804000000000000000000400000000000000000000000000000000 (Sy.O.pack 120 0x4008401481073000028004188206b00000000500203000520c0000820680400000000400000000004008401481073000028004188206b00000000500203000520c000082068040 (Sy.O.pack 120 0x8401481073000028004188206b00000000500203000520c0000820680400000000400000000004008401481073000028004188206b00000000500203000520c0000820680400000000400 (Sy.O.pack 120 0x3000028004188206b00000000500203000520c0000820680400000000400000000004008401481073000028004188206b00000000500203000520c00008206804000000004000000000040 (Sy.O.pack 120 0x188206b00000000500203000520c0000820680400000000400000000004008401481073000028004188206b00000000500203000520c000082068040000000040000000000400840148107 (Sy.O.pack 120 0x500203000520c0000820680400000000400000000004008401481073000028004188206b00000000500203000520c0000820680400000000400000000004008401481073000028004 (Sy.O.pack 120 0x3000520c0000820680400000000400000000004008401481073000028004188206b00000000500203000520c0000820680400000000400000000004008401481073000028004188206b000 (Sy.O.pack 120 0x820680400000000400000000004008401481073000028004188206b00000000500203000520c0000820680400000000400000000004008401481073000028004188206b0000000050020 (Sy.O.pack 120 0x400000000004008401481073000028004188206b00000000500203000520c0000820680400000000400000000004008401481073000028004188206b00000000500203000520c00 (Sy.O.pack 120 0x4008401481073000028004188206b00000000500203000520c0000820680400000000400000000004008401481073000028004188206b00000000500203000520c000082068040 (Sy.O.pack 120 0x8401481073000028004188206b00000000500203000520c0000820680400000000400000000004008401481073000028004188206b00000000500203000520c0000820680400000000400 (Sy.O.pack 120 0x3000028004188206b00000000500203000520c0000820680400000000400000000004008401481073000028004188206b00000000500203000520c00008206804000000004000000000040 (Sy.O.pack 120 0x400000000002000000000200000000000020000000000c000000400000080000b94248100080e6000a4180001040d61c4000401000200002000000000000000000400100210000048107 (Sy.O.pack 120 0x800200000000000000000000000000002000401000000000000000001000002008000020000004008000000000040000000000200000000020000000000002000000400000000000 (Sy.O.pack 120 0x20c000082088040000000040000000000400840002801018002906000041044020000000020000000040200000000000000000020000000000000000000000000000000000000000000000 (Sy.O.pack 120 0x4104402000000002000000000020042000140080c001483000020822010000000010000000000100210000a00406000a418000104110080000000080000000000801080005002030005 (Sy.O.pack 120 0x8029020e6000050008310411800000000a00406000a41800010411008000000008000000000080108000500203000520c0000820880400000000400000000004008400028010180029060 (Sy.O.pack 120 0x50008310411800000000a00406000a41800010411008000000008000000000080108029020e6000050008310411800000000a00406000a418000104110080000000080000000000801 (Sy.O.pack 120 0x10411800000000a00406000a41800010411008000000008000000000080108029020e6000050008310411800000000a00406000a41800010411008000000008000000000080108029020e6 (Sy.O.pack 120 0xa00406000a41800010411008000000008000000000080108029020e6000050008310411800000000a00406000a41800010411008000000008000000000080108029020e60000500083 (Sy.O.pack 120 0xa41800010411008000000008000000000080108029020e6000050008310411800000000a00406000a41800010411008000000008000000000080108029020e600005000831041180000 (Sy.O.pack 120 0x10411008000000008000000000080108029020e6000050008310411800000000a00406000a41800010411008000000008000000000080108029020e6000050008310411800000000a00406 (Sy.O.pack 120 0x8000000000080108029020e6000050008310411800000000a00406000a41800010411008000000008000000000080108029020e6000050008310411800000000a00406000a418000 (Sy.O.pack 120 0x80108029020e6000050008310411800000000a00406000a41800010411008000000008000000000080108029020e6000050008310411800000000a00406000a4180001041100800 (Sy.O.pack 120 0x8029020e6000050008310411800000000a00406000a41800010411008000000008000000000080108029020e6000050008310411800000000a00406000a41800010411008000000008000 (Sy.O.pack 120 0x200101cc001483000020823058800080200040000400000000000000000080020042000009020e6000050008310411800000000a00406000a418000104110080000000080000000000801 (Sy.O.pack 102 0x1000200000001000000060000000000000001000000000000000001800002008000030000004000000000000000060000000001800000080000010000172849 (Sy.O.steps [131073] (Sy.O.pack 120 0x2900100c400002040c200008000000000000000000000000400000008000000800000000000004002000000000000000000000000100000002000000200000000000001000000000000000 (Sy.O.pack 120 0x40020000000000000000000004000000010000000200000040000000000000100060000601800015e6518801000000000000017208200de00101ee001a00818b0040a4804041c0030020 (Sy.O.pack 120 0x280000000000000800100004000000000000000000000800000002000000040000008000000000000001000400000008001010000000000400004010000100400004001000000020 (Sy.O.pack 120 0x400000008000001200000000000018000140000000000000006001000000000100000000004000040100020200000000008000080200100000000000000000000020000000080000001 (Sy.O.pack 120 0xa00080000006000c08002000800080c018020100c0080200001100c0000c030000002c00000400080000000580000000010000008000080000002000c00100000001000000000100000 (Sy.O.pack 11 0x120028004800a (Sy.O.steps [2057] (Sy.O.pack 120 0x5e8380c0080a4188000040b08001000000000001c00000800002000001000000000020000010000000000000200020000000020000c00000000000000000000010001000000000000020 (Sy.O.pack 72 0x10002800402462004050240101062080000346200000180000000000006000027ac6200400000000000003c41 (Sy.O.steps [129] (Sy.O.pack 33 0x300a200020301001802010400001020000200000 (Sy.O.steps [130] (Sy.O.pack 120 0x81630000000c00280000040000000000200000000000000800000000000000000000000000000000000000000000c00000000000000000000000000000000000000000004000800000000 (Sy.O.pack 60 0x10002000200000100200080000000000000002018001085e05800052507018010148000062 (Sy.O.steps [65] (Sy.O.pack 17 0x120080010240100020 Sy.O.nil)))))))))))))))))))))))))))))))))))))))))))))))))))))))
def th0_ps : List Nat := [1]
noncomputable def th0_v (ns : List Sy.Let) : Value := Value.slice (some (Addr.mk (Sy.letN (0 : Nat) ns) (0 : Nat) none)) (1 : Nat) (Sy.letN (1 : Nat) ns)
noncomputable def th0_nw (ns : List Sy.Let) : List (Nat × Sy.Cont) := [(Sy.letN 0 ns, Sy.Cont.row (49 : Nat) (6 : Nat) (1 : Nat) (Sy.letN (1 : Nat) ns)
 [Value.int IntKind.i64 (34 : Int), Value.int IntKind.i64 (0 : Int), Value.int IntKind.i64 (0 : Int),
 Value.int IntKind.i64 (0 : Int), Value.int IntKind.i64 (0 : Int), Value.int IntKind.i64 (0 : Int)])]
set_option maxRecDepth 1000000 in
theorem th0_met : Sy.Meets Tryz.prog (Sy.graphC fThr #[.string tg0] [] (List.length th0_ps) th0_v th0_nw) :=
  Sy.meets_graphJ Sy.S0_holds awH_holds mixed (n := 300) th0_ps (by decide) (o := th0_o) (fun ns => by kernel_rfl) (fun ns => by kernel_rfl)
end Go.Proofs.YtlpcnaeknbmjdaaGreat.Gn

namespace Go.Proofs.YtlpcnaeknbmjdaaGreat.Gn
set_option linter.unusedVariables false
set_option linter.unusedSimpArgs false
open Go Go.RowKit
open Go.Proofs.YtlpcnaeknbmjdaaGreat.Sy (Let Blk)
noncomputable def ofA0 (g c : Nat) : Array Value := #[.slice (some ⟨g, 0, none⟩) 35 (Nat.add c 35)]
set_option maxRecDepth 1000000 in
noncomputable def oq0_o : Sy.O := (Sy.O.pack 120 0x40000400480000000100000000000002000020020000000008000000000000100001000e00000000400000000000008000080060000000020000000000000400004002800000000 (Sy.O.pack 120 0x80000800e0000000020000000000000400004006800000001000000000000020000200300000000080000000000001000010016000000004000000000000080000800a000000002000000 (Sy.O.pack 120 0x260000000040000000000000800008012000000002000000000000040000400880000000100000000000002000020040000000008000000000000100001001e000000004000000000000 (Sy.O.pack 120 0x8000000000000100001002e0000000040000000000000800008016000000002000000000000040000400a80000000100000000000002000020050000000008000000000000100001 (Sy.O.pack 120 0x20000200700000000080000000000001000010036000000004000000000000080000801a000000002000000000000040000400c8000000010000000000000200002006000 (Sy.O.pack 82 0x8000000000000100001003e000000004000000000000080000801e000000002000000000000040000400e800000001 (Sy.O.steps [32] (Sy.O.pack 24 0x2000000000000040000400 (Sy.O.steps [33] (Sy.O.pack 24 0x2000000000000040000400 (Sy.O.steps [34] (Sy.O.pack 24 0x2000000000000040000400 (Sy.O.steps [35] (Sy.O.pack 24 0x2000000000000040000400 (Sy.O.steps [36] (Sy.O.pack 24 0x2000000000000040000400 (Sy.O.steps [37] (Sy.O.pack 24 0x2000000000000040000400 (Sy.O.steps [38] (Sy.O.pack 24 0x2000000000000040000400 (Sy.O.steps [39] (Sy.O.pack 36 0x20000000002000000000000040000400 (Sy.O.steps [137438953473] (Sy.O.pack 120 0x2000401000000000000000000200002008029020e60000500083104073000000000080000080100000000000800000000004000000000400000000000008000 (Sy.O.pack 120 0xc00000000000200000000000000000000000000000000000000000000000c00000400000000000000000000000000000000000000000000000800200000 (Sy.O.pack 120 0x200000000000000000000000000000000000000000000000c00000000000200000000000000000000000000000000000000000000000c00000000000200000000000000000000 (Sy.O.pack 120 0xc00000000000200000000000000000000000000000000000000000000000c00000000000200000000000000000000000000000000000000000000000c00 (Sy.O.pack 120 0x81840110000000000000000000005a21084212408004073000520c00008204a06100000008000000000000000000000000060000000004000000000000000000400000000000000000 (Sy.O.pack 120 0x800000000080000000000004000001000000000000010000000000080000000008000000000000400000000020000000c00000000000e50842108490200101cc001483000020812818400 (Sy.O.pack 120 0x1000400000000000000000000000000004000802000000000000000001000004010052041cc0000a001062081490000000004000001002000000000010000000000 (Sy.O.pack 120 0x400000000004008401481073000028004188206b00000000500203000520c0000820680400000000400000000804000000000000000000400000000000000000000000000000000 (Sy.O.pack 120 0x4008401481073000028004188206b00000000500203000520c0000820680400000000400000000004008401481073000028004188206b00000000500203000520c000082068040 (Sy.O.pack 120 0x8401481073000028004188206b00000000500203000520c0000820680400000000400000000004008401481073000028004188206b00000000500203000520c0000820680400000000400 (Sy.O.pack 120 0x3000028004188206b00000000500203000520c0000820680400000000400000000004008401481073000028004188206b00000000500203000520c00008206804000000004000000000040 (Sy.O.pack 120 0x188206b00000000500203000520c0000820680400000000400000000004008401481073000028004188206b00000000500203000520c000082068040000000040000000000400840148107 (Sy.O.pack 120 0x500203000520c0000820680400000000400000000004008401481073000028004188206b00000000500203000520c0000820680400000000400000000004008401481073000028004 (Sy.O.pack 120 0x3000520c0000820680400000000400000000004008401481073000028004188206b00000000500203000520c0000820680400000000400000000004008401481073000028004188206b000 (Sy.O.pack 120 0x820680400000000400000000004008401481073000028004188206b00000000500203000520c0000820680400000000400000000004008401481073000028004188206b0000000050020 (Sy.O.pack 120 0x400000000004008401481073000028004188206b00000000500203000520c0000820680400000000400000000004008401481073000028004188206b00000000500203000520c00 (Sy.O.pack 120 0x4008401481073000028004188206b00000000500203000520c0000820680400000000400000000004008401481073000028004188206b00000000500203000520c000082068040 (Sy.O.pack 120 0x8401481073000028004188206b00000000500203000520c0000820680400000000400000000004008401481073000028004188206b00000000500203000520c0000820680400000000400 (Sy.O.pack 120 0x3000028004188206b00000000500203000520c0000820680400000000400000000004008401481073000028004188206b00000000500203000520c00008206804000000004000000000040 (Sy.O.pack 120 0x400000000002000000000200000000000020000000000c000000400000080000b94248100080e6000a4180001040d61c4000401000200002000000000000000000400100210000048107 (Sy.O.pack 120 0x100020080000000000000000080000100401481073000028004188207340000000020000004008000000000040000000000200000000020000000000002000000400000000000 (Sy.O.pack 120 0x140000000000010000000000000000000000000000000000000000000000140000020000000000000000000000000000000000000000000000040010000000000000000000 (Sy.O.pack 120 0x140000000000010000000000000000000000000000000000000000000000140000000000010000000000000000000000000000000000 (Sy.O.pack 120 0x200000000000000000020000000000000000000000000000000000000000000140000000000010000000000000000000000000000000000000000000000140000000000010000 (Sy.O.pack 120 0x1688421092040020398002906000041041ea0800000040000000000000000000000000a (Sy.O.pack 120 0x10000000000001600000000040000001800000000001ca1084212408004073000520c000082083d410000003d410044000000000000000000000000000000000000000000000000000 (Sy.O.pack 120 0x58000080200a408398000140020c41046000000000160000020040000000000200000000001000000000100000000000016000002000000000000020000000000100000 (Sy.O.pack 120 0x500203000520c0000820a0040000000040000000080400000000000000000040000000000000000000000000000000000000000000040010000000000000000000000000800100400 (Sy.O.pack 120 0x3000520c0000820a0040000000040000000000400840148107300002800418820a4c0000000500203000520c0000820a0040000000040000000000400840148107300002800418820a4c00 (Sy.O.pack 120 0x820a0040000000040000000000400840148107300002800418820a4c0000000500203000520c0000820a0040000000040000000000400840148107300002800418820a4c000000050020 (Sy.O.pack 120 0x40000000000400840148107300002800418820a4c0000000500203000520c0000820a0040000000040000000000400840148107300002800418820a4c0000000500203000520c00 (Sy.O.pack 120 0x400840148107300002800418820a4c0000000500203000520c0000820a0040000000040000000000400840148107300002800418820a4c0000000500203000520c0000820a0040 (Sy.O.pack 120 0x840148107300002800418820a4c0000000500203000520c0000820a0040000000040000000000400840148107300002800418820a4c0000000500203000520c0000820a00400000000400 (Sy.O.pack 120 0x300002800418820a4c0000000500203000520c0000820a0040000000040000000000400840148107300002800418820a4c0000000500203000520c0000820a004000000004000000000040 (Sy.O.pack 120 0x18820a4c0000000500203000520c0000820a0040000000040000000000400840148107300002800418820a4c0000000500203000520c0000820a0040000000040000000000400840148107 (Sy.O.pack 120 0x500203000520c0000820a0040000000040000000000400840148107300002800418820a4c0000000500203000520c0000820a00400000000400000000004008401481073000028004 (Sy.O.pack 120 0x3000520c0000820a0040000000040000000000400840148107300002800418820a4c0000000500203000520c0000820a0040000000040000000000400840148107300002800418820a4c00 (Sy.O.pack 120 0x3c000000000c000000400000080000b94248100080e6000a418000104149b84000401000200002000000000000000000400100210000048107300002800418820a4c000000050020 (Sy.O.pack 120 0x100000000000000000000000000001000200800000000000000000f000010040148107300002800418820ad0000000003c00000400800000000004000000000020000000002000000 (Sy.O.pack 120 0x1200000000000080000040000000000000000000000000000000900000080000040000000000000000000000000000000900000000000000000000000000412 (Sy.O.pack 120 0x12000000000200000000000000000020000000000000000000000000000000000000000000240000001000000000000000000000000000000000000000000000000010000 (Sy.O.pack 120 0x8000000000040000000000200000000020000000000004c000000000c000000400000080000b94248100080e6000a41800010418bc8400002000400000000004000000000400000000000 (Sy.O.pack 120 0x800000000000000000000000000000000000000000000800200000000000000000000000010002008000000000000000013000010040148107300002800418820ce0000000004c0000040 (Sy.O.pack 120 0xd80000000a00406000a4180001041c008000000008000000000080108029020e600005000831041cd80000000a00406000a4180001041c0080000000080000000100800000000000000000 (Sy.O.pack 120 0x406000a4180001041c008000000008000000000080108029020e600005000831041cd80000000a00406000a4180001041c008000000008000000000080108029020e600005000831041c (Sy.O.pack 120 0x180001041c008000000008000000000080108029020e600005000831041cd80000000a00406000a4180001041c008000000008000000000080108029020e600005000831041cd80000000a (Sy.O.pack 120 0x8000000008000000000080108029020e600005000831041cd80000000a00406000a4180001041c008000000008000000000080108029020e600005000831041cd80000000a00406000a4 (Sy.O.pack 120 0x8000000000080108029020e600005000831041cd80000000a00406000a4180001041c008000000008000000000080108029020e600005000831041cd80000000a00406000a4180001041c (Sy.O.pack 120 0x80108029020e600005000831041cd80000000a00406000a4180001041c008000000008000000000080108029020e600005000831041cd80000000a00406000a4180001041c0080000000 (Sy.O.pack 120 0x20e600005000831041cd80000000a00406000a4180001041c008000000008000000000080108029020e600005000831041cd80000000a00406000a4180001041c00800000000800000000 (Sy.O.pack 120 0x831041cd80000000a00406000a4180001041c008000000008000000000080108029020e600005000831041cd80000000a00406000a4180001041c008000000008000000000080108029 (Sy.O.pack 120 0xd80000000a00406000a4180001041c008000000008000000000080108029020e600005000831041cd80000000a00406000a4180001041c008000000008000000000080108029020e600005 (Sy.O.pack 120 0x406000a4180001041c008000000008000000000080108029020e600005000831041cd80000000a00406000a4180001041c008000000008000000000080108029020e600005000831041c (Sy.O.pack 120 0xb80000000018000000800000100001728490200101cc001483000020839bb0800080200040000400000000000000000080020042000009020e600005000831041cd80000000a (Sy.O.pack 120 0x2e00002008029020e600005000831041de000000000b800000801000000000008000000000040000000004000000000000b80000080000000000000800000000004000000000400 (Sy.O.pack 114 0x200000000200000000402000000000000000000200000000000000000000000000000000000000000000000000008002000000000000000000000000000020004010000000000 (Sy.O.steps [32] (Sy.O.pack 23 0x7c0000000500203000520c0000820 (Sy.O.steps [32] (Sy.O.pack 39 0x40000000040000000000400840148107300002800418820 (Sy.O.steps [32] (Sy.O.pack 23 0x7c0000000500203000520c0000820 (Sy.O.steps [32] (Sy.O.pack 39 0x40000000040000000000400840148107300002800418820 (Sy.O.steps [32] (Sy.O.pack 23 0x7c0000000500203000520c0000820 (Sy.O.steps [32] (Sy.O.pack 39 0x40000000040000000000400840148107300002800418820 (Sy.O.steps [32] (Sy.O.pack 23 0x7c0000000500203000520c0000820 (Sy.O.steps [32] (Sy.O.pack 39 0x40000000040000000000400840148107300002800418820 (Sy.O.steps [32] (Sy.O.pack 23 0x7c0000000500203000520c0000820 (Sy.O.steps [32] (Sy.O.pack 39 0x40000000040000000000400840148107300002800418820 (Sy.O.steps [32] (Sy.O.pack 23 0x7c0000000500203000520c0000820 (Sy.O.steps [32] (Sy.O.pack 39 0x40000000040000000000400840148107300002800418820 (Sy.O.steps [32] (Sy.O.pack 23 0x7c0000000500203000520c0000820 (Sy.O.steps [32] (Sy.O.pack 39 0x40000000040000000000400840148107300002800418820 (Sy.O.steps [32] (Sy.O.pack 23 0x7c0000000500203000520c0000820 (Sy.O.steps [32] (Sy.O.pack 39 0x40000000040000000000400840148107300002800418820 (Sy.O.steps [32] (Sy.O.pack 23 0x7c0000000500203000520c0000820 (Sy.O.steps [32] (Sy.O.pack 39 0x40000000040000000000400840148107300002800418820 (Sy.O.steps [32] (Sy.O.pack 23 0x7c0000000500203000520c0000820 (Sy.O.steps [32] (Sy.O.pack 39 0x40000000040000000000400840148107300002800418820 (Sy.O.steps [32] (Sy.O.pack 23 0x7c0000000500203000520c0000820 (Sy.O.steps [32] (Sy.O.pack 39 0x40000000040000000000400840148107300002800418820 (Sy.O.steps [32] (Sy.O.pack 23 0x7c0000000500203000520c0000820 (Sy.O.steps [32] (Sy.O.pack 39 0x40000000040000000000400840148107300002800418820 (Sy.O.steps [32] (Sy.O.pack 23 0x7c0000000500203000520c0000820 (Sy.O.steps [32] (Sy.O.pack 39 0x40000000040000000000400840148107300002800418820 (Sy.O.steps [32] (Sy.O.pack 23 0x7c0000000500203000520c0000820 (Sy.O.steps [32] (Sy.O.pack 39 0x40000000040000000000400840148107300002800418820 (Sy.O.steps [32] (Sy.O.pack 23 0x7c0000000500203000520c0000820 (Sy.O.steps [32] (Sy.O.pack 39 0x40000000040000000000400840148107300002800418820 (Sy.O.steps [32] (Sy.O.pack 23 0x7c0000000500203000520c0000820 (Sy.O.steps [32] (Sy.O.pack 39 0x40000000040000000000400840148107300002800418820 (Sy.O.steps [32] (Sy.O.pack 23 0x7c0000000500203000520c0000820 (Sy.O.steps [32] (Sy.O.pack 39 0x40000000040000000000400840148107300002800418820 (Sy.O.steps [32] (Sy.O.pack 23 0x7c0000000500203000520c0000820 (Sy.O.steps [32] (Sy.O.pack 39 0x40000000040000000000400840148107300002800418820 (Sy.O.steps [32] (Sy.O.pack 23 0x7c0000000500203000520c0000820 (Sy.O.steps [32] (Sy.O.pack 39 0x40000000040000000000400840148107300002800418820 (Sy.O.steps [32] (Sy.O.pack 23 0x7c0000000500203000520c0000820 (Sy.O.steps [32] (Sy.O.pack 39 0x40000000040000000000400840148107300002800418820 (Sy.O.steps [32] (Sy.O.pack 23 0x7c0000000500203000520c0000820 (Sy.O.steps [32] (Sy.O.pack 39 0x40000000040000000000400840148107300002800418820 (Sy.O.steps [32] (Sy.O.pack 23 0x7c0000000500203000520c0000820 (Sy.O.steps [32] (Sy.O.pack 56 0xfe84000401000200002000000000000000000400100210000048107300002800418820 (Sy.O.steps [32] (Sy.O.pack 120 0x200000000001000000000100000000000036000002000000000000020000000000100000000010000000000003600000000060000002000000400005ca12408004073000520c0000820 (Sy.O.pack 21 0x360000020040000000 (Sy.O.steps [32, 33] (Sy.O.pack 120 0x10000000000000000000000000000000000000000000000000000400100000000000000000000000000001000200800000000000000001b000010040148107300002800418820 (Sy.O.pack 25 0x100000000100000000201000000000 (Sy.O.steps [36] (Sy.O.pack 22 0x500203000520c0000820 (Sy.O.steps [35, 36] (Sy.O.pack 39 0x40000000040000000000400840148107300002800418820 (Sy.O.steps [36] (Sy.O.pack 22 0x500203000520c0000820 (Sy.O.steps [35, 36] (Sy.O.pack 39 0x40000000040000000000400840148107300002800418820 (Sy.O.steps [36] (Sy.O.pack 22 0x500203000520c0000820 (Sy.O.steps [35, 36] (Sy.O.pack 39 0x40000000040000000000400840148107300002800418820 (Sy.O.steps [36] (Sy.O.pack 22 0x500203000520c0000820 (Sy.O.steps [35, 36] (Sy.O.pack 39 0x40000000040000000000400840148107300002800418820 (Sy.O.steps [36] (Sy.O.pack 22 0x500203000520c0000820 (Sy.O.steps [35, 36] (Sy.O.pack 39 0x40000000040000000000400840148107300002800418820 (Sy.O.steps [36] (Sy.O.pack 22 0x500203000520c0000820 (Sy.O.steps [35, 36] (Sy.O.pack 39 0x40000000040000000000400840148107300002800418820 (Sy.O.steps [36] (Sy.O.pack 22 0x500203000520c0000820 (Sy.O.steps [35, 36] (Sy.O.pack 39 0x40000000040000000000400840148107300002800418820 (Sy.O.steps [36] (Sy.O.pack 22 0x500203000520c0000820 (Sy.O.steps [35, 36] (Sy.O.pack 39 0x40000000040000000000400840148107300002800418820 (Sy.O.steps [36] (Sy.O.pack 22 0x500203000520c0000820 (Sy.O.steps [35, 36] (Sy.O.pack 39 0x40000000040000000000400840148107300002800418820 (Sy.O.steps [36] (Sy.O.pack 22 0x500203000520c0000820 (Sy.O.steps [35, 36] (Sy.O.pack 39 0x40000000040000000000400840148107300002800418820 (Sy.O.steps [36] (Sy.O.pack 22 0x500203000520c0000820 (Sy.O.steps [35, 36] (Sy.O.pack 39 0x40000000040000000000400840148107300002800418820 (Sy.O.steps [36] (Sy.O.pack 22 0x500203000520c0000820 (Sy.O.steps [35, 36] (Sy.O.pack 39 0x40000000040000000000400840148107300002800418820 (Sy.O.steps [36] (Sy.O.pack 22 0x500203000520c0000820 (Sy.O.steps [35, 36] (Sy.O.pack 39 0x40000000040000000000400840148107300002800418820 (Sy.O.steps [36] (Sy.O.pack 22 0x500203000520c0000820 (Sy.O.steps [35, 36] (Sy.O.pack 39 0x40000000040000000000400840148107300002800418820 (Sy.O.steps [36] (Sy.O.pack 22 0x500203000520c0000820 (Sy.O.steps [35, 36] (Sy.O.pack 39 0x40000000040000000000400840148107300002800418820 (Sy.O.steps [36] (Sy.O.pack 22 0x500203000520c0000820 (Sy.O.steps [35, 36] (Sy.O.pack 39 0x40000000040000000000400840148107300002800418820 (Sy.O.steps [36] (Sy.O.pack 22 0x500203000520c0000820 (Sy.O.steps [35, 36] (Sy.O.pack 39 0x40000000040000000000400840148107300002800418820 (Sy.O.steps [36] (Sy.O.pack 22 0x500203000520c0000820 (Sy.O.steps [35, 36] (Sy.O.pack 39 0x40000000040000000000400840148107300002800418820 (Sy.O.steps [36] (Sy.O.pack 22 0x500203000520c0000820 (Sy.O.steps [35, 36] (Sy.O.pack 39 0x40000000040000000000400840148107300002800418820 (Sy.O.steps [36] (Sy.O.pack 22 0x500203000520c0000820 (Sy.O.steps [35, 36] (Sy.O.pack 39 0x40000000040000000000400840148107300002800418820 (Sy.O.steps [36] (Sy.O.pack 22 0x500203000520c0000820 (Sy.O.steps [35, 36] (Sy.O.pack 39 0x40000000040000000000400840148107300002800418820 (Sy.O.steps [36] (Sy.O.pack 22 0x500203000520c0000820 (Sy.O.steps [35, 36] (Sy.O.pack 39 0x40000000040000000000400840148107300002800418820 (Sy.O.steps [36] (Sy.O.pack 22 0x500203000520c0000820 (Sy.O.steps [35, 36] (Sy.O.pack 55 0x784000401000200002000000000000000000400100210000048107300002800418820 (Sy.O.steps [35, 36] (Sy.O.pack 120 0x20000000000100000000010000000000003e000002000000000000020000000000100000000010000000000003e00000000060000002000000400005ca12408004073000520c0000820 (Sy.O.pack 21 0x3e0000020040000000 (Sy.O.steps [36, 37] (Sy.O.pack 120 0x10000000000000000000000000000000000000000000000000000400100000000000000000000000000001000200800000000000000001f000010040148107300002800418820 (Sy.O.pack 25 0x100000000100000000201000000000 (Sy.O.steps [40] (Sy.O.pack 22 0x500203000520c0000820 (Sy.O.steps [39, 40] (Sy.O.pack 39 0x40000000040000000000400840148107300002800418820 (Sy.O.steps [40] (Sy.O.pack 22 0x500203000520c0000820 (Sy.O.steps [39, 40] (Sy.O.pack 39 0x40000000040000000000400840148107300002800418820 (Sy.O.steps [40] (Sy.O.pack 22 0x500203000520c0000820 (Sy.O.steps [39, 40] (Sy.O.pack 39 0x40000000040000000000400840148107300002800418820 (Sy.O.steps [40] (Sy.O.pack 22 0x500203000520c0000820 (Sy.O.steps [39, 40] (Sy.O.pack 39 0x40000000040000000000400840148107300002800418820 (Sy.O.steps [40] (Sy.O.pack 22 0x500203000520c0000820 (Sy.O.steps [39, 40] (Sy.O.pack 39 0x40000000040000000000400840148107300002800418820 (Sy.O.steps [40] (Sy.O.pack 22 0x500203000520c0000820 (Sy.O.steps [39, 40] (Sy.O.pack 39 0x40000000040000000000400840148107300002800418820 (Sy.O.steps [40] (Sy.O.pack 22 0x500203000520c0000820 (Sy.O.steps [39, 40] (Sy.O.pack 39 0x40000000040000000000400840148107300002800418820 (Sy.O.steps [40] (Sy.O.pack 22 0x500203000520c0000820 (Sy.O.steps [39, 40] (Sy.O.pack 39 0x40000000040000000000400840148107300002800418820 (Sy.O.steps [40] (Sy.O.pack 22 0x500203000520c0000820 (Sy.O.steps [39, 40] (Sy.O.pack 39 0x40000000040000000000400840148107300002800418820 (Sy.O.steps [40] (Sy.O.pack 22 0x500203000520c0000820 (Sy.O.steps [39, 40] (Sy.O.pack 39 0x40000000040000000000400840148107300002800418820 (Sy.O.steps [40] (Sy.O.pack 22 0x500203000520c0000820 (Sy.O.steps [39, 40] (Sy.O.pack 39 0x40000000040000000000400840148107300002800418820 (Sy.O.steps [40] (Sy.O.pack 22 0x500203000520c0000820 (Sy.O.steps [39, 40] (Sy.O.pack 39 0x40000000040000000000400840148107300002800418820 (Sy.O.steps [40] (Sy.O.pack 22 0x500203000520c0000820 (Sy.O.steps [39, 40] (Sy.O.pack 39 0x40000000040000000000400840148107300002800418820 (Sy.O.steps [40] (Sy.O.pack 22 0x500203000520c0000820 (Sy.O.steps [39, 40] (Sy.O.pack 39 0x40000000040000000000400840148107300002800418820 (Sy.O.steps [40] (Sy.O.pack 22 0x500203000520c0000820 (Sy.O.steps [39, 40] (Sy.O.pack 39 0x40000000040000000000400840148107300002800418820 (Sy.O.steps [40] (Sy.O.pack 22 0x500203000520c0000820 (Sy.O.steps [39, 40] (Sy.O.pack 39 0x40000000040000000000400840148107300002800418820 (Sy.O.steps [40] (Sy.O.pack 22 0x500203000520c0000820 (Sy.O.steps [39, 40] (Sy.O.pack 39 0x40000000040000000000400840148107300002800418820 (Sy.O.steps [40] (Sy.O.pack 22 0x500203000520c0000820 (Sy.O.steps [39, 40] (Sy.O.pack 39 0x40000000040000000000400840148107300002800418820 (Sy.O.steps [40] (Sy.O.pack 22 0x500203000520c0000820 (Sy.O.steps [39, 40] (Sy.O.pack 39 0x40000000040000000000400840148107300002800418820 (Sy.O.steps [40] (Sy.O.pack 22 0x500203000520c0000820 (Sy.O.steps [39, 40] (Sy.O.pack 39 0x40000000040000000000400840148107300002800418820 (Sy.O.steps [40] (Sy.O.pack 22 0x500203000520c0000820 (Sy.O.steps [39, 40] (Sy.O.pack 39 0x40000000040000000000400840148107300002800418820 (Sy.O.steps [40] (Sy.O.pack 22 0x500203000520c0000820 (Sy.O.steps [39, 40] (Sy.O.pack 39 0x40000000040000000000400840148107300002800418820 (Sy.O.steps [40] (Sy.O.pack 22 0x500203000520c0000820 (Sy.O.steps [39, 40] (Sy.O.pack 54 0x4000401000200002000000000000000000400100210000048107300002800418820 (Sy.O.steps [34, 39, 40] (Sy.O.pack 45 0x60000002000000400005ca12408004073000520c0000820 (Sy.O.steps [35] (Sy.O.pack 43 0x800000000000008000000000040000000004000000000000 (Sy.O.steps [35] (Sy.O.pack 43 0x801000000000008000000000040000000004000000000000 (Sy.O.steps [35] (Sy.O.pack 7 0x0 (Sy.O.steps [40, 41] (Sy.O.pack 24 0x10040148107300002800418820 (Sy.O.steps [35] (Sy.O.pack 88 0x100000000000000000000000000000000000000000000000200080000000000000000000000000000800100400000000000000000 (Sy.O.steps [37] (Sy.O.pack 47 0x40000000000000000000000000000000000000000000000 (Sy.O.steps [37] (Sy.O.pack 47 0x40000000000000000000000000000000000000000000000 (Sy.O.steps [37] (Sy.O.pack 47 0x40000000000000000000000000000000000000000000000 (Sy.O.steps [37] (Sy.O.pack 47 0x40000000000000000000000000000000000000000000000 (Sy.O.steps [37] (Sy.O.pack 47 0x40000000000000000000000000000000000000000000000 (Sy.O.steps [37] (Sy.O.pack 47 0x40000000000000000000000000000000000000000000000 (Sy.O.steps [37] (Sy.O.pack 58 0x800000000000000000080000000000000000000000000000000000000000000 (Sy.O.steps [37] (Sy.O.pack 27 0x400000020000000000000000000000000 (Sy.O.steps [37, 42, 43] (Sy.O.pack 47 0x40110000000000000000000005a21084212408004073000520c0000820 (Sy.O.steps [37, 42] (Sy.O.pack 6 0x2000000 (Sy.O.steps [37, 42, 43] (Sy.O.pack 50 0x800000030000000000039421084212408004073000520c0000820 (Sy.O.steps [38] (Sy.O.pack 43 0x800000000000008000000000040000000004000000000000 (Sy.O.steps [38] (Sy.O.pack 43 0x801000000000008000000000040000000004000000000000 (Sy.O.steps [38] (Sy.O.pack 7 0x0 (Sy.O.steps [43, 44] (Sy.O.pack 24 0x10040148107300002800418820 (Sy.O.steps [38] (Sy.O.pack 120 0x8000000008000000010080000000000000000008000000000000000000000000000000000000000000000000000200080000000000000000000000000000800100400000000000000000 (Sy.O.steps [47] (Sy.O.pack 22 0x500203000520c0000820 (Sy.O.steps [46, 47] (Sy.O.pack 39 0x40000000040000000000400840148107300002800418820 (Sy.O.steps [47] (Sy.O.pack 22 0x500203000520c0000820 (Sy.O.steps [46, 47] (Sy.O.pack 39 0x40000000040000000000400840148107300002800418820 (Sy.O.steps [47] (Sy.O.pack 22 0x500203000520c0000820 (Sy.O.steps [46, 47] (Sy.O.pack 39 0x40000000040000000000400840148107300002800418820 (Sy.O.steps [47] (Sy.O.pack 22 0x500203000520c0000820 (Sy.O.steps [46, 47] (Sy.O.pack 39 0x40000000040000000000400840148107300002800418820 (Sy.O.steps [47] (Sy.O.pack 22 0x500203000520c0000820 (Sy.O.steps [46, 47] (Sy.O.pack 39 0x40000000040000000000400840148107300002800418820 (Sy.O.steps [47] (Sy.O.pack 22 0x500203000520c0000820 (Sy.O.steps [46, 47] (Sy.O.pack 39 0x40000000040000000000400840148107300002800418820 (Sy.O.steps [47] (Sy.O.pack 22 0x500203000520c0000820 (Sy.O.steps [46, 47] (Sy.O.pack 39 0x40000000040000000000400840148107300002800418820 (Sy.O.steps [47] (Sy.O.pack 22 0x500203000520c0000820 (Sy.O.steps [46, 47] (Sy.O.pack 39 0x40000000040000000000400840148107300002800418820 (Sy.O.steps [47] (Sy.O.pack 22 0x500203000520c0000820 (Sy.O.steps [46, 47] (Sy.O.pack 39 0x40000000040000000000400840148107300002800418820 (Sy.O.steps [47] (Sy.O.pack 22 0x500203000520c0000820 (Sy.O.steps [46, 47] (Sy.O.pack 39 0x40000000040000000000400840148107300002800418820 (Sy.O.steps [47] (Sy.O.pack 22 0x500203000520c0000820 (Sy.O.steps [46, 47] (Sy.O.pack 39 0x40000000040000000000400840148107300002800418820 (Sy.O.steps [47] (Sy.O.pack 22 0x500203000520c0000820 (Sy.O.steps [46, 47] (Sy.O.pack 39 0x40000000040000000000400840148107300002800418820 (Sy.O.steps [47] (Sy.O.pack 22 0x500203000520c0000820 (Sy.O.steps [46, 47] (Sy.O.pack 39 0x40000000040000000000400840148107300002800418820 (Sy.O.steps [47] (Sy.O.pack 22 0x500203000520c0000820 (Sy.O.steps [46, 47] (Sy.O.pack 39 0x40000000040000000000400840148107300002800418820 (Sy.O.steps [47] (Sy.O.pack 22 0x500203000520c0000820 (Sy.O.steps [46, 47] (Sy.O.pack 39 0x40000000040000000000400840148107300002800418820 (Sy.O.steps [47] (Sy.O.pack 22 0x500203000520c0000820 (Sy.O.steps [46, 47] (Sy.O.pack 39 0x40000000040000000000400840148107300002800418820 (Sy.O.steps [47] (Sy.O.pack 22 0x500203000520c0000820 (Sy.O.steps [46, 47] (Sy.O.pack 39 0x40000000040000000000400840148107300002800418820 (Sy.O.steps [47] (Sy.O.pack 22 0x500203000520c0000820 (Sy.O.steps [46, 47] (Sy.O.pack 39 0x40000000040000000000400840148107300002800418820 (Sy.O.steps [47] (Sy.O.pack 22 0x500203000520c0000820 (Sy.O.steps [46, 47] (Sy.O.pack 39 0x40000000040000000000400840148107300002800418820 (Sy.O.steps [47] (Sy.O.pack 22 0x500203000520c0000820 (Sy.O.steps [46, 47] (Sy.O.pack 39 0x40000000040000000000400840148107300002800418820 (Sy.O.steps [47] (Sy.O.pack 22 0x500203000520c0000820 (Sy.O.steps [46, 47] (Sy.O.pack 39 0x40000000040000000000400840148107300002800418820 (Sy.O.steps [47] (Sy.O.pack 22 0x500203000520c0000820 (Sy.O.steps [46, 47] (Sy.O.pack 54 0x4000401000200002000000000000000000400100210000048107300002800418820 (Sy.O.steps [41, 46, 47] (Sy.O.pack 45 0x60000002000000400005ca12408004073000520c0000820 (Sy.O.steps [42] (Sy.O.pack 43 0x800000000000008000000000040000000004000000000000 (Sy.O.steps [42] (Sy.O.pack 43 0x801000000000008000000000040000000004000000000000 (Sy.O.steps [42] (Sy.O.pack 10 0x40100000 (Sy.O.steps [42] (Sy.O.pack 120 0x8000000008000000010080000000000000000008000000000000000000000000000000000000000000000000000200080000000000000000000000000000800100400000000000000000 (Sy.O.steps [51] (Sy.O.pack 40 0x8000000008000000000080108000500203000520c0000820 (Sy.O.steps [51] (Sy.O.pack 40 0x8000000008000000000080108000500203000520c0000820 (Sy.O.steps [51] (Sy.O.pack 40 0x8000000008000000000080108000500203000520c0000820 (Sy.O.steps [51] (Sy.O.pack 40 0x8000000008000000000080108000500203000520c0000820 (Sy.O.steps [51] (Sy.O.pack 40 0x8000000008000000000080108000500203000520c0000820 (Sy.O.steps [51] (Sy.O.pack 40 0x8000000008000000000080108000500203000520c0000820 (Sy.O.steps [51] (Sy.O.pack 22 0x500203000520c0000820 (Sy.O.steps [50, 51] (Sy.O.pack 39 0x40000000040000000000400840148107300002800418820 (Sy.O.steps [51] (Sy.O.pack 22 0x500203000520c0000820 (Sy.O.steps [50, 51] (Sy.O.pack 39 0x40000000040000000000400840148107300002800418820 (Sy.O.steps [51] (Sy.O.pack 22 0x500203000520c0000820 (Sy.O.steps [50, 51] (Sy.O.pack 39 0x40000000040000000000400840148107300002800418820 (Sy.O.steps [51] (Sy.O.pack 22 0x500203000520c0000820 (Sy.O.steps [50, 51] (Sy.O.pack 39 0x40000000040000000000400840148107300002800418820 (Sy.O.steps [51] (Sy.O.pack 22 0x500203000520c0000820 (Sy.O.steps [50, 51] (Sy.O.pack 39 0x40000000040000000000400840148107300002800418820 (Sy.O.steps [51] (Sy.O.pack 22 0x500203000520c0000820 (Sy.O.steps [50, 51] (Sy.O.pack 39 0x40000000040000000000400840148107300002800418820 (Sy.O.steps [51] (Sy.O.pack 22 0x500203000520c0000820 (Sy.O.steps [50, 51] (Sy.O.pack 39 0x40000000040000000000400840148107300002800418820 (Sy.O.steps [51] (Sy.O.pack 22 0x500203000520c0000820 (Sy.O.steps [50, 51] (Sy.O.pack 39 0x40000000040000000000400840148107300002800418820 (Sy.O.steps [51] (Sy.O.pack 22 0x500203000520c0000820 (Sy.O.steps [50, 51] (Sy.O.pack 39 0x40000000040000000000400840148107300002800418820 (Sy.O.steps [51] (Sy.O.pack 22 0x500203000520c0000820 (Sy.O.steps [50, 51] (Sy.O.pack 39 0x40000000040000000000400840148107300002800418820 (Sy.O.steps [51] (Sy.O.pack 22 0x500203000520c0000820 (Sy.O.steps [50, 51] (Sy.O.pack 39 0x40000000040000000000400840148107300002800418820 (Sy.O.steps [51] (Sy.O.pack 22 0x500203000520c0000820 (Sy.O.steps [50, 51] (Sy.O.pack 39 0x40000000040000000000400840148107300002800418820 (Sy.O.steps [51] (Sy.O.pack 22 0x500203000520c0000820 (Sy.O.steps [50, 51] (Sy.O.pack 39 0x40000000040000000000400840148107300002800418820 (Sy.O.steps [51] (Sy.O.pack 22 0x500203000520c0000820 (Sy.O.steps [50, 51] (Sy.O.pack 39 0x40000000040000000000400840148107300002800418820 (Sy.O.steps [51] (Sy.O.pack 22 0x500203000520c0000820 (Sy.O.steps [50, 51] (Sy.O.pack 39 0x40000000040000000000400840148107300002800418820 (Sy.O.steps [51] (Sy.O.pack 22 0x500203000520c0000820 (Sy.O.steps [50, 51] (Sy.O.pack 39 0x40000000040000000000400840148107300002800418820 (Sy.O.steps [51] (Sy.O.pack 22 0x500203000520c0000820 (Sy.O.steps [50, 51] (Sy.O.pack 54 0x4000401000200002000000000000000000400100210000048107300002800418820 (Sy.O.steps [45, 50, 51] (Sy.O.pack 45 0x60000002000000400005ca12408004073000520c0000820 (Sy.O.steps [46] (Sy.O.pack 18 0x40000000000000000 (Sy.O.steps [46] (Sy.O.pack 10 0x40100000 (Sy.O.steps [46] (Sy.O.pack 39 0x400000018000000000000000400000000000000000 (Sy.O.steps [50] (Sy.O.steps [0, 0] (Sy.O.steps [50] (Sy.O.steps [0] (Sy.O.steps [2251799813685249] (Sy.O.pack 120 0x2900100c400002040c200008000000000000000000000000400000008000000800000000000004002000000000000000000000000100000002000000200000000000001000000000000000 (Sy.O.pack 120 0x40020000000000000000000004000000010000000200000040000000000000100060000601800015e6518801000000000000017208200de00101ee001a00818b0040a4804041c0030020 (Sy.O.pack 120 0x500000080010001000040000000000000000000000002000000040000008000000000000001000400000008001010000000000400004010000100400004001000000020 (Sy.O.pack 120 0x400000008000001a000000000000100020000000000000000000000001000000020000006800000000000040008000000000000000000000000400000008000001a0000000000001000 (Sy.O.pack 120 0x2000000200000000000000000000000010000000200000068000000000000020004000000000000000000000000200000004000000d0000000000000040008000000000000000000000 (Sy.O.pack 120 0x4000000000000000009000000800100020000000800100800000000020000200800400000000000000000000080000000200000004000000f00000000000002001000010040000000020 (Sy.O.pack 47 0x4000c00100c020020180c008020000190100000001000000008020000 (Sy.O.steps [32] (Sy.O.pack 93 0x1000300040304800806030020080000582400000000000080000000000000000000000000000000000010000001800300040000001800000060 (Sy.O.steps [32] (Sy.O.pack 120 0x200000004000001200000000000002001c000806001c040000000001000010040020000000000000000000004000000010000000200000090000000000000100040000600000000020 (Sy.O.pack 120 0x10000000040000000800000240000000000000020008000000100020200000000008000080200002008000080020000000400080040000000000000000000008000 (Sy.O.pack 120 0x300c0080200001419c000002018000180e0200000000008000080200040400000000010000100400200000000000000000000040000000100000002000000a000000000000010002000080 (Sy.O.pack 15 0xa001800280c338020 (Sy.O.steps [257] (Sy.O.pack 120 0x800000010000003c000000000000080060000400000000000000000000080000000200000004000000d000000000000006000400000030000000000000000000010000800000020 (Sy.O.pack 54 0x5000a00180001806000c0200000000008000080200100000000000000000000020 (Sy.O.steps [145] (Sy.O.pack 120 0xbc00203dc003401031600814900808380060040520020188000040f520e0010000000000000000000000000800000010000002c00000000000040000380000000000000014003000000000 (Sy.O.pack 120 0x4000040100001004000040010000000200040020000000000000000000004000000010000000200000070000000000000100120001204800045e6b4a0010000028000000c0002eb4a001 (Sy.O.pack 120 0x2000000008000000100000040000000000000080010000400000000000000000000080000000200000004000000e0000000000000010004000000080010100000000 (Sy.O.pack 120 0x1000b00080000000800000000080000000200000004000000e0000000000001600014000003000000100000120028000000001000000000040000401000202000000000080000802001000 (Sy.O.pack 106 0xe001e0038007800a00040000005800b04001000400040600c01008060040100000b0060000601800000200000020004000000040000000000800000400004000000 (Sy.O.steps [65929] (Sy.O.pack 120 0x10380000000500000001600000801ee681800042008020000010580a001200000801cc50008000c4103400000000000800000000c00000000000000000000010001000000000000020 (Sy.O.pack 120 0x8000004000000008400000200000100000080000041304800088000000000000004000000000000000200000000000000000300b000210000f00000481070180008400000007800020c02 (Sy.O.pack 120 0x800000400000000000000000000000000008400000200000100000080000040000000000000042000001000000800000400000200000000000000000000008400000200000100000 (Sy.O.pack 120 0x2000000800000000000200000000000000000000000400000000000100000000000000108000004200000100000080000040000020000000002100000084000002000001 (Sy.O.pack 120 0x7340c48001080000000d7800041c00018a0000830000103800000004800000000080000000001c00000800002000001000000000020000010000000000000200020000000020000c0 (Sy.O.pack 120 0x41044031000000002080001800000c000000200040000020002000401004010040100400080000080000620000000000000000000200800000400000000000003000000200000100001 (Sy.O.pack 11 0x380202001018a0 (Sy.O.fork (Sy.O.pack 6 0x1c120c01 (Sy.O.fork (Sy.O.pack 17 0xe11480080000000000000 (Sy.O.fork (Sy.O.pack 49 0xb198a00800000000000010000e198a00b845200210000000000 (Sy.O.steps [145] (Sy.O.pack 120 0x40003cc5005e8380c0080a4188000041129001000000000002c0000100000a00000500000000004000023d65200200000000000001e41802f41c060040520c400002078c40 (Sy.O.pack 59 0xe00200038126280204012008083104000024628000018000000000000480002bd6628020 (Sy.O.steps [1049] (Sy.O.pack 33 0x500a400020501001802010400001840000400000 Sy.O.nil)))))) (Sy.O.pack 49 0xb198a00800000000000010000e198a00840000000001c331401 (Sy.O.steps [145] (Sy.O.pack 120 0x40003cc5005e8380c0080a4188000041129001000000000002c0000100000a00000500000000004000023d65200200000000000001e41802f41c060040520c400002078c40 (Sy.O.pack 59 0xe00200038126280204012008083104000024628000018000000000000480002bd6628020 (Sy.O.steps [1049] (Sy.O.pack 33 0x500a400020501001802010400001840000400000 Sy.O.nil)))))))) (Sy.O.pack 66 0x16331401000000004000000101c331401080000000003866280200000100000081c229001 (Sy.O.steps [145] (Sy.O.pack 120 0x40003cc5005e8380c0080a4188000041129001000000000002c0000100000a00000500000000004000023d65200200000000000001e41802f41c060040520c400002078c40 (Sy.O.pack 59 0xe00200038126280204012008083104000024628000018000000000000480002bd6628020 (Sy.O.steps [1049] (Sy.O.pack 33 0x500a400020501001802010400001840000400000 Sy.O.nil)))))))) (Sy.O.pack 72 0x58cc50040000000100000004070cc500420000000000e198a0080000000000000708a4005c120c01 (Sy.O.steps [145] (Sy.O.pack 120 0x40003cc5005e8380c0080a4188000041129001000000000002c0000100000a00000500000000004000023d65200200000000000001e41802f41c060040520c400002078c40 (Sy.O.pack 59 0xe00200038126280204012008083104000024628000018000000000000480002bd6628020 (Sy.O.steps [1049] (Sy.O.pack 33 0x500a400020501001802010400001840000400000 Sy.O.nil))))))))))))))))))))))))))))))))))))))))))))))))))))))))))))))))))))))))))))))))))))))))))))))))))))))))))))))))))))))))))))))))))))))))))))))))))))))))))))))))))))))))))))))))))))))))))))))))))))))))))))))))))))))))))))))))))))))))))))))))))))))))))))))))))))))))))))))))))))))))))))))))))))))))))))))))))))))))))))))))))))))))))))))))))))))))))))))))))))))))))))))))))))))))))))))))))))))))))))))))))))))))))))))))))))))))))))))))))))))))))))))))))))))))))))))))))))))))))))))))))))))))))))))))))))))))))))))))))))))))))))))))))))))))))))))))))))))))))))))))))))))))))))))))))))))))))))))))))))))))))))))))))))))))))))))))))))))))))))
def oq0_ps : List Nat := [1, 2, 3]
noncomputable def oq0_v (ns : List Sy.Let) : Value := Value.tuple
 (Array.mk
 [Value.agg
 (Array.mk
 [Value.int IntKind.i64 (0 : Int),
 Value.slice (some (Addr.mk (Sy.letN (0 : Nat) ns) (0 : Nat) none)) (2 : Nat) (Sy.letN (1 : Nat) ns)]),
 Value.bool true])
noncomputable def oq0_nw (ns : List Sy.Let) : List (Nat × Sy.Cont) := [(Sy.letN 0 ns, Sy.Cont.row (40 : Nat) (2 : Nat) (2 : Nat) (Sy.letN (1 : Nat) ns)
 [Value.int IntKind.i64 (0 : Int),
 Value.slice (some (Addr.mk (Sy.letN (2 : Nat) ns) (0 : Nat) none)) (2 : Nat) (Sy.letN (3 : Nat) ns),
 Value.int IntKind.i64 (0 : Int), Value.slice none (0 : Nat) (0 : Nat)]), (Sy.letN 2 ns, Sy.Cont.row (46 : Nat) (11 : Nat) (2 : Nat) (Sy.letN (3 : Nat) ns)
 [Value.int IntKind.i64 (10 : Int), Value.int IntKind.i64 (0 : Int), Value.int IntKind.i64 (0 : Int),
 Value.int IntKind.i64 (0 : Int), Value.slice none (0 : Nat) (0 : Nat),
 Value.slice (some (Addr.mk (Sy.letN (4 : Nat) ns) (0 : Nat) none)) (1 : Nat) (Sy.letN (5 : Nat) ns),
 Value.slice none (0 : Nat) (0 : Nat), Value.int IntKind.i64 (0 : Int), Value.int IntKind.i64 (2 : Int),
 Value.int IntKind.i64 (1 : Int), Value.int IntKind.i64 (10 : Int), Value.int IntKind.i64 (9 : Int),
 Value.int IntKind.i64 (0 : Int), Value.int IntKind.i64 (0 : Int), Value.int IntKind.i64 (0 : Int),
 Value.slice none (0 : Nat) (0 : Nat), Value.slice none (0 : Nat) (0 : Nat), Value.slice none (0 : Nat) (0 : Nat),
 Value.int IntKind.i64 (0 : Int), Value.int IntKind.i64 (0 : Int), Value.int IntKind.i64 (1 : Int),
 Value.int IntKind.i64 (10 : Int)]), (Sy.letN 4 ns, Sy.Cont.row (127 : Nat) (4 : Nat) (1 : Nat) (Sy.letN (5 : Nat) ns)
 [Value.int IntKind.i64 (1 : Int), Value.int IntKind.u64 (1 : Int), Value.int IntKind.i64 (0 : Int),
 Value.int IntKind.i64 (0 : Int)])]
set_option maxRecDepth 1000000 in
theorem oq0_met (g c : Nat) : Sy.Meets Tryz.prog (Sy.graphC fOf (ofA0 g c) [(g, .seg 0 (bcells tq0))] (List.length oq0_ps) oq0_v oq0_nw) :=
  Sy.meets_graphJ Sy.S0_holds awH_holds mixed (n := 300) oq0_ps (by decide) (o := oq0_o) (fun ns => by kernel_rfl) (fun ns => by kernel_rfl)
end Go.Proofs.YtlpcnaeknbmjdaaGreat.Gn

namespace Go.Proofs.YtlpcnaeknbmjdaaGreat.Gn
set_option linter.unusedVariables false
set_option linter.unusedSimpArgs false
open Go Go.RowKit
open Go.Proofs.YtlpcnaeknbmjdaaGreat.Sy (Let Blk)
noncomputable def ofX (args : Array Value) (ct : Sy.Cont) : Sy.CallC := match args.toList with
  | [.slice (some ⟨g, 0, none⟩) n cap] => Sy.graphC fOf (ofA0 g (Nat.sub cap n)) [(g, .seg 0 (bcells tq0))] (List.length oq0_ps) oq0_v oq0_nw
  | _ => noC
theorem ofX_met (args : Array Value) (ct : Sy.Cont) : Sy.Meets Tryz.prog (ofX args ct) := by
  unfold ofX
  split
  · exact oq0_met _ _
  · exact noC_met
noncomputable def awZ : Sy.How := ⟨fun f => !stays f, stays, [⟨fOf, 0, ofX⟩]⟩
theorem awZ_holds : awZ.holds Tryz.prog := ⟨fun x hx a ct => by
  rcases List.mem_singleton.1 hx with rfl
  exact ofX_met a ct⟩
noncomputable def ctxAw : Sy.Ctx := Sy.mkS [(fThr, fun _ _ => Sy.graphC fThr #[.string tg0] [] (List.length th0_ps) th0_v th0_nw)] [] []
theorem ctxAw_holds : ctxAw.holds Tryz.prog := Sy.mkS_holds (fun p hp a L => by
  rcases List.mem_singleton.1 hp with rfl
  exact th0_met) (fun _ h => (by cases h)) (fun _ h => (by cases h))
set_option maxRecDepth 1000000 in
noncomputable def aw_o : Sy.O := (Sy.O.pack 120 0x100000000002000000000000000000000000000000000000000000000006000000000000000000000000000000000000000000020004000000000000000000000000000000000000100000 (Sy.O.pack 120 0x300000000001800000000180000000000000000000000000060000000000000000000000000200000000020000100020080200802008002000001000000002000000004000400 (Sy.O.pack 120 0xe601400010601000008240000000027288010001e0000007000d62c0002928000e0018000000500083100000824000000038000000000400000600000000000180000000018000 (Sy.O.pack 120 0x20004000c000000000120000008000000000000000000000400000600000000c0000000000000000000000110000000000401000000000000000000000020000000000000000000000 (Sy.O.pack 120 0xc000000000000180000000000c000000000c00000000000000000000000000300000000000000000000000001000000000100000800100401004010040010000008000000010000 (Sy.O.pack 104 0x90000000200000000000000000000010000018000000030000000000000000000000000000000000000c00 (Sy.O.steps [32] (Sy.O.pack 120 0x2008020080200802008020000000000200000080221340900008398a4000031041008000001600000000c0000000000a00000000400 (Sy.O.pack 120 0x400000000040000200040100401004010004000002000000004000000008000800200000000001800000000000000000000000000000000000000000000002000000 (Sy.O.pack 120 0x5250001c0030000000a0010620000106c0000000b8000000000800000c000000000003000000000300000000000006000000000030000000003000000000000000000000000000c0000000 (Sy.O.pack 120 0x22000000000080200000000000000000000006400000000000000000000000000001cc02800020c020000106c000000004e510020003c000000e001ac58000 (Sy.O.pack 120 0x600040004050840020000000000000000c000000000025080000000000000000000000000000001c00000000000000000002200000000007000000088000100000000c000000000000 (Sy.O.pack 75 0xa6a50a380200000000000001a93002d2802020c4000020000174140100100000040000001400001000080018000 (Sy.O.steps [181, 95] (Sy.O.pack 120 0xe000000400000340010003000000016000800000000040100401004010040100000000004000001c01421a04800041cc52000018820b1c0000011000000000600000000c000000000c0 (Sy.O.pack 55 0xe6a50e38020000080000002400035c6005a50040418800004000038d2802003400 (Sy.O.steps [181, 95] (Sy.O.pack 120 0x1812008107300002804020020188200001a620eb4800200000001600800b0000008000000400000b035400ad6f02c0002928380c0080a400003104196a8000000a00000001400000000140 (Sy.O.pack 84 0x34006800b000200024e001ac0080b2280302401020e6000050080400403104000034c20d650004000001000127000d6004059140 (Sy.O.steps [32769] (Sy.O.pack 120 0x18800a0000000000000000000000001880070080000000880400000004402000000022c498410400000400000000800000000000000000008000000000000000000 (Sy.O.pack 120 0x40000002000000000000000000000000000000080000040000080000000002000400080010002000000004000000000002000000000000000000000000000000000018800d00000 (Sy.O.pack 120 0x80010000000400080000000400401004000000200000000000000000000000000000008000004000000200000000000000000000000000000008000004000000200000000010000000800 (Sy.O.pack 120 0x149400e0000c520c000082098000080000040000040000000040000040000000040000040000000000a4a00700006290600004104c0000400000200000400000000010002000400 (Sy.O.pack 120 0xc39020980000802008020080200000100000000200000000000000000008000000000000000000000210010000010000000000292801c00018a4180001041300001000000800000800 (Sy.O.pack 120 0x400080010002000400000000800000000000400000000000000000000000000000000002c00100000000000000000000000002c000a0100000000d4a0073140418820a018010000 (Sy.O.pack 120 0x1000000000080000004000000000000000000000000000000100000080000004000000000200000010000000000800000040000000000000000000000000000001000000800001000 (Sy.O.pack 120 0x4000002000002000000002000002000000002000002000000000052500380003148300002082c00002000001000002000000000080010002000400080000002000400000002002008020 (Sy.O.pack 120 0x20c4105807102a00000100401004000002000000004000000000000000000180000000000200000010000000840040000040000000040000040000000000a4a00700006290600004105800 (Sy.O.pack 120 0x4000000200000000010000000800000000040000080000000002000400080010002000000004000000000002000000000000000000000000000000000013800300800000006a500398a0 (Sy.O.pack 120 0x20000000020000040000000001000200040008001000000040008000000040040100400000020000000001000000080000000000000000000000000000002000001000000080000000 (Sy.O.pack 120 0x4000000000000000000200000000000200000010000000840040000040000000040000040000000000a4a007000062906000041060000040000020000020000000020000020000000020 (Sy.O.pack 120 0x2000000100000000008000000400000000020000001000000000080000100000000004000800100020004000000008000000000008008001000200002008000000000000000000 (Sy.O.pack 120 0x10000010000000010000010000000010000010000000010000010000000010000020000000000800100020004000800000020004000000020020080200000010000000000800000040 (Sy.O.pack 29 0x80000004000000210010000010000 (Sy.O.steps [513] (Sy.O.pack 97 0x2000400040000020040010000000000000000403000210bc0b0000a4a0e0300202900000c410546000000180000000002c0000000000000000000001 (Sy.O.steps [65] (Sy.O.pack 120 0x4000000200000000010000020000000000800100020004000800000001000000000001001000200040000401000000000000000000000800000000000000000008000000000000000000 (Sy.O.pack 120 0x2000002000000002000004000000000100020004000800100000004000800000004004010040000002000000000100000008000000000400000020000000001000000080000000 (Sy.O.pack 84 0x2c005800000004000000140000001480000000000000000042002000002000000002000002000000002000002000000002000002 (Sy.O.steps [8325] (Sy.O.pack 6 0x300060 (Sy.O.steps [39] (Sy.O.pack 120 0x400000200000000400000000800080020000000000600000000000000000000000000000000000000000000001400000000000000000000000000000000000000000004000800400000 (Sy.O.pack 120 0x800000c000000000003000000000300000000000006000000000030000000003000000000000000000000000000c000000000000000000000000040000000004000020004010040100401 (Sy.O.pack 120 0x5000000000000000000000000000001cc02800020c0200001058000000004e510020003c000000e001ac580005250001c0030000000a0010620000105800000009000000000 (Sy.O.pack 120 0x8020080200800200000100000000200000000400080018000000000340000010000000000000000000000800000c000000018000000000000000000000022000000000080200000000000 (Sy.O.pack 120 0x180000000018000000000000300000000001800000000180000000000000000000000000060000000000000000000000000200000000020000100020 (Sy.O.pack 77 0x1a000000040000000000000000000002000003000000006000000 (Sy.O.steps [32] (Sy.O.pack 120 0x8020080200802008020080000000000800000200884d02400020e62900000c4104c2000000700000000300120000010000000000080000000000000 (Sy.O.pack 120 0x1000000000100000800100401004010040010000008000000010000000020002000800000000006000000000000000000000000000000000000000000000008000000000000000000 (Sy.O.pack 120 0x28004188000041e0000000340000000002000003000000000000c000000000c000000000000180000000000c000000000c00000000000000000000000000300000000000000000000 (Sy.O.pack 120 0x8800000000020080000000000000000000001c000000000000000000000000000007300a000083008000041e0000000013944008000f00000038006b1600014940007000c0 (Sy.O.pack 120 0x14210008000000000000000300000000000942000000000000000000000000000000088000000000000000000088000000000220000002200004000000030000000000000000000000000 (Sy.O.pack 85 0x29a9428e00800000000000006a4c00b4a00808310000080000690500400400000100000005000004000200060000000180010001 (Sy.O.steps [181, 95] (Sy.O.pack 120 0xe000000400000340010003000000016000800000000040100401004010040100000000004000001c01421a04800041cc52000018820c9c0000014000000000600000000c000000000c0 (Sy.O.pack 55 0xe6a50e38020000080000002400035c6005a5004041880000400003ed2802003400 (Sy.O.steps [181, 95] (Sy.O.pack 120 0x1812008107300002804020020188200001d620eb4800200000001600800b0000008000000400000b035400ad6f02c0002928380c0080a4000031041c6a8000000a00000001400000000140 (Sy.O.pack 84 0x34006800b000200024e001ac0080b2280302401020e600005008040040310400003ac20d650004000001000127000d6004059140 (Sy.O.steps [32769] (Sy.O.pack 91 0x8000000000002000000000000000000000000000000000000180000000000000180000000000000000000080000120080010240100020 Sy.O.nil)))))))))))))))))))))))))))))))))))))))))))))))))))))))))))))))))
set_option maxRecDepth 1000000 in
theorem aw_met : Sy.Meets Tryz.prog (Sy.shutC' fAwake #[] [] True (.bool true)) :=
  Sy.meets_shutJ' ctxAw_holds awZ_holds mixed (n := 300) (o := aw_o) (fun ns => by kernel_rfl) (fun ns => by kernel_rfl)
end Go.Proofs.YtlpcnaeknbmjdaaGreat.Gn

namespace Go.Proofs.YtlpcnaeknbmjdaaGreat.Gn
open Go Go.RowKit
open Go.Proofs.YtlpcnaeknbmjdaaGreat.Sy (Let Blk HasL)
theorem okOne_of {B : List (Nat × Sy.Cont)} {tv : Value} {l : List ThreadD} (hT : ThreadsR B tv l) (hg : goodT3 l) (cells : Int) : OkOne B tv l cells :=
  ⟨hT, fun hw i t ht av hav => by
    have hm := List.mem_of_getElem? ht
    have ha := whole_acts hw hg hm
    exact ⟨okL_of hav ha (hg t hm), fun a hx ho => (ha a hx).to ho⟩⟩
noncomputable def gbC (B : List (Nat × Sy.Cont)) (tv : Value) (l : List ThreadD) (cells : Int) : Sy.CallC := ⟨fGB, #[progV cells tv], ThreadsR B tv l ∧ goodT3 l, ⟨[], [], 0, B⟩, [Sy.plainO (.bool true)]⟩
theorem gbC_met (B : List (Nat × Sy.Cont)) (tv : Value) (l : List ThreadD) (cells : Int) : Sy.Meets Tryz.prog (gbC B tv l cells) := by
  have hS : (ctxGB B l tv cells).holds Tryz.prog := Sy.mkS_holds (fun p hp a L => by
    rcases List.mem_singleton.1 hp with rfl
    exact aw_met) (fun p hp a L => by
    rcases List.mem_singleton.1 hp with rfl
    exact loopBO_met _ _ _ _ _) (fun _ h => (by cases h))
  refine Sy.meets_ofB hS mixed (L := rdOf B) (Sy.Ent.refl _) (gb_run B l tv cells) fun hok ns => ?_
  obtain ⟨hT, hg⟩ := id hok
  simp only [gb_R, Sy.Res.holds]
  exact ⟨trivial, fun _ => ⟨okOne_of hT hg cells, gotL_of (fun p hp => hp), fun _ => plainB_leaf (List.mem_singleton_self _) rfl rfl⟩⟩
end Go.Proofs.YtlpcnaeknbmjdaaGreat.Gn

namespace Go.Proofs.YtlpcnaeknbmjdaaGreat
open Go.RowKit Go.WideShapes Go.ChangeShapes
section
variable {H : Type} {enc : TypeId × Value → H} {P : Program}
theorem post_of_below {f : Func} {s : ChangeSpec} {apart fresh handsOn again : Bool} {W W' : World} {args : Array Value} {v : Value} {ds gs : List (DataW H)} {before pa pv : List MemPlace}
    (hW : DataW.Whole enc P f.params.toList s.vars apart W args.toList ds gs before)
    (hres : ∀ (b : Nat) (sp : Nat → Bool) (hd : Bool), DataW.TrodAll enc P W' b sp hd f.resultTypes.toList (v.resultList f.resultTypes.size) (s.fn H (ds ++ gs)).results [])
    (hargs : ∀ sp : Nat → Bool, (∀ p ∈ before, sp p.block = true) → DataW.TrodAll enc P W' 0 sp true f.params.toList args.toList (s.fn H (ds ++ gs)).args pa)
    (hvars : ∀ sp : Nat → Bool, (∀ p ∈ before, sp p.block = true) → DataW.TrodVars enc P W' sp s.vars (s.fn H (ds ++ gs)).vars pv)
    (hps : before = pa ++ pv) (hb : Below W.heap.size W W')
    (hok : ∀ (j : Nat) (t : TypeId) (r : Value), f.resultTypes[j]? = some t → (v.resultList f.resultTypes.size)[j]? = some r → Value.okWide P W' .any 0 t r) :
    s.post enc P f apart fresh handsOn again W args v W' := by
  have hlt : ∀ p ∈ before, p.block < W.heap.size := fun p hp => hW.lt p hp
  have hold : ∀ p ∈ before, (fun b => decide (b < W.heap.size)) p.block = true := fun p hp => by simpa using hlt p hp
  refine ⟨ds, gs, before, [], pa, pv, hW, hres _ _ _, hargs _ hold, hvars _ hold, World.keptBut_mono (fun p hp => ⟨hp, ?_⟩) (hb.frame (· ∈ before)), fun _ => ?_⟩
  · rw [hps, List.mem_append] at hp
    exact Or.inr hp
  · obtain ⟨_, _, _, _, _, hz, hn⟩ := hW
    refine ⟨hok, _, _, ([] ++ pa) ++ pv, ⟨[] ++ pa, pv, trodAll_append (hargs _ (fun _ _ => rfl)) (hres _ _ _), hvars _ (fun _ _ => rfl), rfl, ?_, ?_⟩, ?_⟩
    · intro b off hp
      have hin : MemPlace.cell b off ∈ before := by rw [hps]; simpa using hp
      rw [hb.frozen (hlt _ hin)]
      exact hz b off hin
    · intro ha
      have := hn ha
      rw [hps] at this
      simpa using this
    · intro p hp _
      rw [hps]
      simpa using hp
end
end Go.Proofs.YtlpcnaeknbmjdaaGreat

namespace Go.Proofs.YtlpcnaeknbmjdaaGreat
open Go Go.Joins Go.ChangeShapes Go.WideShapes Go.RowKit Go.Deep
open Sy (Cont)
theorem own : ownKnob Tryz.prog.godebug = none := by kernel_rfl
theorem laidOut : laidOutB Tryz.prog = true := by kernel_rfl
theorem spot_of {w : World} {a : Addr} {u : Value} (h : w.cell? a = some u) : a.spot = none ∧ ∃ c t f, w.heap[a.block]? = some (.cells c t f) ∧ c[a.off]? = some u := by
  unfold World.cell? at h
  split at h
  · rename_i c t f hh
    split at h
    · cases h
    · rename_i hs
      exact ⟨by simpa using hs, c, t, f, hh, h⟩
  · cases h
theorem again_any {H : Type} {enc : TypeId × Value → H} {W W' : World} {t : TypeId} {v : Value} {d : DataW H} {p : List MemPlace} {sp : Nat → Bool} (hr : Tryz.prog.readableRec t = true) (hrow : t < Tryz.prog.types.size)
    (h : DataW.Trod enc Tryz.prog W 0 (fun _ => true) true t v d p) (hb : Below W.heap.size W W') (hlt : ∀ x ∈ p, x.block < W.heap.size) (hsp : ∀ x ∈ p, sp x.block = true) :
    DataW.Trod enc Tryz.prog W' 0 sp true t v d p :=
  WideElems.Trod_stays laidOut hr hrow h (fun x hx => hb.same (hlt x hx)) hsp
end Go.Proofs.YtlpcnaeknbmjdaaGreat

namespace Go.Proofs.YtlpcnaeknbmjdaaGreat
open Go Go.Joins Go.ChangeShapes Go.WideShapes Go.RowKit Go.Deep
open Sy (Let Blk HasL Cont)
def heapB (w : World) : List (Nat × Sy.Cont) := (List.range w.heap.size).filterMap fun k => (w.heap[k]?).map fun o => (k, Sy.Cont.obj o)
theorem heapB_mem {w : World} {k : Nat} {o : Obj} (h : w.heap[k]? = some o) : (k, Sy.Cont.obj o) ∈ heapB w :=
  List.mem_filterMap.2 ⟨k, List.mem_range.2 (Array.getElem?_eq_some_iff.1 h).1, by rw [h]; rfl⟩
theorem heapB_sat {w : World} : ∀ p ∈ heapB w, p.2.sat w.heap[p.1]? := fun p hp => by
  obtain ⟨k, -, hk⟩ := List.mem_filterMap.1 hp
  cases hh : w.heap[k]? with
  | none => rw [hh] at hk; cases hk
  | some o =>
    rw [hh] at hk
    simp only [Option.map_some, Option.some.injEq] at hk
    subst hk
    exact hh
theorem hasL_heap {w : World} {b o : Nat} {v : Value} (h : w.cell? ⟨b, o, none⟩ = some v) : HasL (rdOf (heapB w)) b o v := by
  obtain ⟨-, c, t, f, hh, hc⟩ := spot_of h
  refine ⟨⟨b, .obj (.cells c t f), false⟩, List.mem_map.2 ⟨_, heapB_mem hh, rfl⟩, rfl, ?_⟩
  show c.toList[o]? = some v
  simpa using hc
section
variable {H : Type} {enc : TypeId × Value → H} {P : Program} {w : World} {base : Nat} {spare : Nat → Bool} {held : Bool}
def Small (P : Program) (t : TypeId) (d : DataW H) : Prop := ∀ x ∈ d.weights P t, x ≤ reachBytes
theorem small_all {e : TypeId} : ∀ {l : List (DataW H)} {d : DataW H}, d ∈ l → (∀ x ∈ DataW.weightsAll P e l, x ≤ reachBytes) → Small P e d
  | [], _, h, _ => by cases h
  | a :: l, d, h, hw => by
    unfold DataW.weightsAll at hw
    rcases List.mem_cons.1 h with rfl | h
    · exact fun x hx => hw x (List.mem_append_left _ hx)
    · exact small_all h fun x hx => hw x (List.mem_append_right _ hx)
theorem small_each : ∀ {ts : List TypeId} {l : List (DataW H)} {j : Nat} {t : TypeId} {d : DataW H}, ts[j]? = some t → l[j]? = some d → (∀ x ∈ DataW.weightsEach P ts l, x ≤ reachBytes) → Small P t d
  | [], _, _, _, _, h, _, _ => by simp at h
  | _ :: _, [], _, _, _, _, h, _ => by simp at h
  | t :: ts, d :: l, j, t', d', ht, hd, hw => by
    unfold DataW.weightsEach at hw
    cases j with
    | zero =>
      simp only [List.getElem?_cons_zero, Option.some.injEq] at ht hd
      subst ht hd
      exact fun x hx => hw x (List.mem_append_left _ hx)
    | succ j => exact small_each (j := j) (by simpa using ht) (by simpa using hd) fun x hx => hw x (List.mem_append_right _ hx)
theorem open_sl {t e : TypeId} {sz n : Nat} {c : Value} {x : DataW H × List MemPlace} (ht : P.underlying t = some (.slice e)) (hC : P.cellsOf e = sz) (hsz : 0 < sz)
    (h : DataW.trod enc P w base spare held n t [c] = some x) (hw : Small P t x.1) :
    ∃ len, (∃ p cap, c = .slice p len cap) ∧ len * P.bytesOf e ≤ reachBytes ∧ (0 < len → ∃ cap, c = .slice (some ⟨Sy.ptrS c, Sy.offS c, none⟩) len cap) ∧
      ∀ i, i < len → ∃ cs n' y, cs.length = sz ∧ (∀ j u, cs[j]? = some u → w.cell? ⟨Sy.ptrS c, Sy.offS c + i * sz + j, none⟩ = some u) ∧ DataW.trod enc P w base spare held n' e cs = some y ∧ Small P e y.1 := by
  rcases Go.Deep.open_slice ht h with ⟨h0, hx⟩ | ⟨a, len, cap, m, k, D, Pl, hcs, -, hle, hcap, hm, hx, hi⟩
  · injection h0 with h0
    subst h0
    exact ⟨0, ⟨_, _, rfl⟩, by simp, fun h => absurd h (Nat.lt_irrefl _), fun i hi => absurd hi (Nat.not_lt_zero _)⟩
  · injection hcs with hcs
    subst hcs
    have hmn : len ≤ m := by rw [hm]; split <;> omega
    subst hx
    unfold Small at hw
    simp only [DataW.weights, ht] at hw
    have hb := hw _ List.mem_cons_self
    have hs : 0 < len → a.spot = none := fun hp => by
      obtain ⟨cs', hcc, -⟩ := hi 0 (by omega)
      rw [hC] at hcc
      obtain ⟨_, hcl, hat⟩ := World.cells?_some hcc
      have h1 := hat 0 hsz
      rw [List.getElem?_eq_getElem (by omega)] at h1
      have := (spot_of h1).1
      simpa [Addr.add] using this
    refine ⟨len, ⟨_, _, rfl⟩, ?_, fun hp => ⟨cap, ?_⟩, fun i hil => ?_⟩
    · have : (((List.range len).map D).length + ((List.range (m - len)).map fun j => D (len + j)).length) * P.bytesOf e ≥ len * P.bytesOf e := Nat.mul_le_mul_right _ (by simp)
      omega
    · have hs := hs hp
      obtain ⟨b, o, s⟩ := a
      simp only at hs
      subst hs
      rfl
    · obtain ⟨cs', hcc, htr⟩ := hi i (by omega)
      rw [hC] at hcc
      obtain ⟨_, hcl, hat⟩ := World.cells?_some hcc
      have hs := hs (by omega)
      obtain ⟨b, o, s⟩ := a
      simp only at hs
      subst hs
      refine ⟨cs', k, (D i, Pl i), hcl, fun j u hu => ?_, htr, small_all (l := (List.range len).map D) (List.mem_map.2 ⟨i, List.mem_range.2 hil, rfl⟩) fun x hx => hw x (List.mem_cons_of_mem _ (List.mem_append_left _ hx))⟩
      have hj : j < sz := by rw [← hcl]; exact (List.getElem?_eq_some_iff.1 hu).1
      have h5 := hat j hj
      rw [Go.Deep.add_add, hu, Sy.addr_add] at h5
      rw [Nat.add_assoc]
      exact h5
theorem open_fl {n : Nat} {t : TypeId} {fs : Array Field} {cs : List Value} {y : DataW H × List MemPlace} (hu : P.underlying t = some (.struct fs)) (hone : oneCellFields P fs = true)
    (hl : cs.length = fs.size) (h : DataW.trod enc P w base spare held n t cs = some y) (hw : Small P t y.1) : ∃ n', ∀ (j : Nat) (f : Field) (c : Value), fs[j]? = some f → cs[j]? = some c → ∃ y, DataW.trod enc P w base spare held n' f.type [c] = some y ∧ Small P f.type y.1 := by
  obtain ⟨ys, n', -, rfl, -, hyl, hf⟩ := DataW.trod_struct hu h
  refine ⟨n', fun j f c hj hc => ?_⟩
  obtain ⟨ho, hk⟩ := hone_of hone j f hj
  have h1 := hf j f hj
  rw [ho, hk] at h1
  have hjl : j < cs.length := (List.getElem?_eq_some_iff.1 hc).1
  have he : (cs.drop j).take 1 = [c] := by
    rw [List.drop_eq_getElem_cons hjl]
    simp only [List.take_succ_cons, List.take_zero, List.cons.injEq, and_true]
    exact (List.getElem?_eq_some_iff.1 hc).2
  rw [he] at h1
  have hy : ys[j]? = some ys[j] := List.getElem?_eq_getElem (by rw [hyl, ← hl]; exact hjl)
  refine ⟨ys[j], h1.trans hy, ?_⟩
  unfold Small at hw
  simp only [DataW.weights, hu] at hw
  exact small_each (j := j) (by rw [List.getElem?_map]; simp [hj]) (by rw [List.getElem?_map, hy]; rfl) hw
theorem cell_num {n : Nat} {t : TypeId} {k : IntKind} {c : Value} {y : DataW H × List MemPlace} (ht : P.underlying t = some (.int k))
    (h : DataW.trod enc P w base spare held n t [c] = some y) : ∃ x : Int, c = .int k x := by
  obtain ⟨m, e, -, -⟩ := DataW.trod_int ht h
  injection e with e
  exact ⟨m, e⟩
theorem list_of {α : Type} {n : Nat} {p : Nat → α → Prop} (h : ∀ i, i < n → ∃ x, p i x) : ∃ l : List α, l.length = n ∧ ∀ i x, l[i]? = some x → p i x := by
  induction n with
  | zero => exact ⟨[], rfl, fun i x hx => by simp at hx⟩
  | succ n ih =>
    obtain ⟨l, hl, hp⟩ := ih fun i hi => h i (by omega)
    obtain ⟨x, hx⟩ := h n (by omega)
    refine ⟨l ++ [x], by simp [hl], fun i y hy => ?_⟩
    rcases Nat.lt_or_ge i n with hi | hi
    · rw [List.getElem?_append_left (by omega)] at hy
      exact hp i y hy
    · rw [List.getElem?_append_right (by omega), hl] at hy
      have : i - n = 0 := by
        have := (List.getElem?_eq_some_iff.1 hy).1
        simp at this
        omega
      rw [this] at hy
      simp only [List.getElem?_cons_zero, Option.some.injEq] at hy
      subst hy
      obtain rfl : i = n := by omega
      exact hx
end
section
variable {H : Type} {enc : TypeId × Value → H} {w : World} {base : Nat} {spare : Nat → Bool} {held : Bool}
set_option maxRecDepth 100000 in
theorem open_nodesR {n : Nat} {c : Value} {x : DataW H × List MemPlace} (h : DataW.trod enc Tryz.prog w base spare held n 44 [c] = some x) (hw : Small Tryz.prog 44 x.1) : ∃ l, OkX (heapB w) c l := by
  obtain ⟨len, ⟨p, cap, hc⟩, hb, hat, hel⟩ := open_sl (sz := 4) Tryz.underlying44 (by kernel_rfl) (by omega) h hw
  have hB : Tryz.prog.bytesOf 127 = 32 := by kernel_rfl
  rw [hB] at hb
  obtain ⟨l, hl, hp⟩ := list_of (n := len) (p := fun i (m : NodeD) => HasL (rdOf (heapB w)) (Sy.ptrS c) (Sy.offS c + i * 4) (.int .i64 m.op) ∧ HasL (rdOf (heapB w)) (Sy.ptrS c) (Sy.offS c + i * 4 + 1) (.int .u64 m.val) ∧ HasL (rdOf (heapB w)) (Sy.ptrS c) (Sy.offS c + i * 4 + 1 + 1) (.int .i64 m.a) ∧ HasL (rdOf (heapB w)) (Sy.ptrS c) (Sy.offS c + i * 4 + 1 + 1 + 1) (.int .i64 m.b)) fun i hi => by
    obtain ⟨cs, n', y, hcl, hcell, htr, hsm⟩ := hel i hi
    match cs, hcl with
    | [c0, c1, c2, c3], _ =>
      obtain ⟨n2, hf⟩ := open_fl (cs := [c0, c1, c2, c3]) Tryz.underlying127 (by kernel_rfl) (by rfl) htr hsm
      obtain ⟨y0, h0, -⟩ := hf 0 _ c0 rfl rfl
      obtain ⟨y1, h1, -⟩ := hf 1 _ c1 rfl rfl
      obtain ⟨y2, h2, -⟩ := hf 2 _ c2 rfl rfl
      obtain ⟨y3, h3, -⟩ := hf 3 _ c3 rfl rfl
      obtain ⟨x0, rfl⟩ := cell_num Tryz.underlying3 h0
      obtain ⟨x1, rfl⟩ := cell_num Tryz.underlying99 h1
      obtain ⟨x2, rfl⟩ := cell_num Tryz.underlying3 h2
      obtain ⟨x3, rfl⟩ := cell_num Tryz.underlying3 h3
      exact ⟨⟨x0, x1, x2, x3⟩, hasL_heap (hcell 0 _ rfl), hasL_heap (hcell 1 _ rfl), hasL_heap (hcell 2 _ rfl), hasL_heap (hcell 3 _ rfl)⟩
  refine ⟨l, ⟨⟨p, len, cap, hc⟩, by rw [hc]; exact hl.symm, fun hne => ?_, fun i m hm => (hp i m hm).1, fun i m hm => (hp i m hm).2.1, fun i m hm => (hp i m hm).2.2.1, fun i m hm => (hp i m hm).2.2.2⟩, ?_⟩
  · obtain ⟨cap', he⟩ := hat (by rw [← hl]; exact List.length_pos_iff.2 hne)
    exact ⟨len, cap', he⟩
  · rw [hl]
    unfold reachBytes at hb
    omega
set_option maxRecDepth 100000 in
theorem open_actsR {n : Nat} {c : Value} {x : DataW H × List MemPlace} (h : DataW.trod enc Tryz.prog w base spare held n 38 [c] = some x) (hw : Small Tryz.prog 38 x.1) : ∃ l, ActsR (heapB w) c l := by
  obtain ⟨len, ⟨p, cap, hc⟩, hb, hat, hel⟩ := open_sl (sz := 11) Tryz.underlying38 (by kernel_rfl) (by omega) h hw
  have hB : Tryz.prog.bytesOf 46 = 136 := by kernel_rfl
  rw [hB] at hb
  obtain ⟨l, hl, hp⟩ := list_of (n := len) (p := fun i (a : ActD) => ∃ iv ev fv, ActAt (heapB w) (Sy.ptrS c) (Sy.offS c + i * 11) a iv ev fv) fun i hi => by
    obtain ⟨cs, n', y, hcl, hcell, htr, hsm⟩ := hel i hi
    match cs, hcl with
    | [c0, c1, c2, c3, c4, c5, c6, c7, c8, c9, c10], _ =>
      obtain ⟨n2, hf⟩ := open_fl (cs := [c0, c1, c2, c3, c4, c5, c6, c7, c8, c9, c10]) Tryz.underlying46 (by kernel_rfl) (by rfl) htr hsm
      obtain ⟨y0, h0, -⟩ := hf 0 _ c0 rfl rfl
      obtain ⟨y1, h1, -⟩ := hf 1 _ c1 rfl rfl
      obtain ⟨y2, h2, -⟩ := hf 2 _ c2 rfl rfl
      obtain ⟨y3, h3, -⟩ := hf 3 _ c3 rfl rfl
      obtain ⟨y4, h4, s4⟩ := hf 4 _ c4 rfl rfl
      obtain ⟨y5, h5, s5⟩ := hf 5 _ c5 rfl rfl
      obtain ⟨y6, h6, s6⟩ := hf 6 _ c6 rfl rfl
      obtain ⟨y7, h7, -⟩ := hf 7 _ c7 rfl rfl
      obtain ⟨y8, h8, -⟩ := hf 8 _ c8 rfl rfl
      obtain ⟨y9, h9, -⟩ := hf 9 _ c9 rfl rfl
      obtain ⟨y10, h10, -⟩ := hf 10 _ c10 rfl rfl
      obtain ⟨x0, rfl⟩ := cell_num Tryz.underlying3 h0
      obtain ⟨x1, rfl⟩ := cell_num Tryz.underlying3 h1
      obtain ⟨x2, rfl⟩ := cell_num Tryz.underlying3 h2
      obtain ⟨x3, rfl⟩ := cell_num Tryz.underlying3 h3
      obtain ⟨l4, r4⟩ := open_nodesR h4 s4
      obtain ⟨l5, r5⟩ := open_nodesR h5 s5
      obtain ⟨l6, r6⟩ := open_nodesR h6 s6
      obtain ⟨x7, rfl⟩ := cell_num Tryz.underlying3 h7
      obtain ⟨x8, rfl⟩ := cell_num Tryz.underlying3 h8
      obtain ⟨x9, rfl⟩ := cell_num Tryz.underlying3 h9
      obtain ⟨x10, rfl⟩ := cell_num Tryz.underlying3 h10
      exact ⟨⟨x0, x1, x2, x3, l4, l5, l6, x7, x8, x9, x10⟩, c4, c5, c6, hasL_heap (hcell 0 _ rfl), hasL_heap (hcell 1 _ rfl), hasL_heap (hcell 2 _ rfl), hasL_heap (hcell 3 _ rfl), hasL_heap (hcell 4 _ rfl), hasL_heap (hcell 5 _ rfl), hasL_heap (hcell 6 _ rfl), hasL_heap (hcell 7 _ rfl), hasL_heap (hcell 8 _ rfl), hasL_heap (hcell 9 _ rfl), hasL_heap (hcell 10 _ rfl), r4, r5, r6⟩
  refine ⟨l, ⟨p, len, cap, hc⟩, by rw [hc]; exact hl.symm, fun hne => ?_, fun i a ha => hp i a ha, ?_⟩
  · obtain ⟨cap', he⟩ := hat (by rw [← hl]; exact List.length_pos_iff.2 hne)
    exact ⟨len, cap', he⟩
  · rw [hl]
    unfold reachBytes at hb
    omega
set_option maxRecDepth 100000 in
theorem open_threadsR {n : Nat} {c : Value} {x : DataW H × List MemPlace} (h : DataW.trod enc Tryz.prog w base spare held n 22 [c] = some x) (hw : Small Tryz.prog 22 x.1) : ∃ l, ThreadsR (heapB w) c l := by
  obtain ⟨len, ⟨p, cap, hc⟩, hb, hat, hel⟩ := open_sl (sz := 2) Tryz.underlying22 (by kernel_rfl) (by omega) h hw
  have hB : Tryz.prog.bytesOf 40 = 32 := by kernel_rfl
  rw [hB] at hb
  obtain ⟨l, hl, hp⟩ := list_of (n := len) (p := fun i (t : ThreadD) => ∃ av, HasL (rdOf (heapB w)) (Sy.ptrS c) (Sy.offS c + i * 2) (.int .i64 t.locals) ∧ HasL (rdOf (heapB w)) (Sy.ptrS c) (Sy.offS c + i * 2 + 1) av ∧ ActsR (heapB w) av t.acts) fun i hi => by
    obtain ⟨cs, n', y, hcl, hcell, htr, hsm⟩ := hel i hi
    match cs, hcl with
    | [c0, c1], _ =>
      obtain ⟨n2, hf⟩ := open_fl (cs := [c0, c1]) Tryz.underlying40 (by kernel_rfl) (by rfl) htr hsm
      obtain ⟨y0, h0, -⟩ := hf 0 _ c0 rfl rfl
      obtain ⟨y1, h1, s1⟩ := hf 1 _ c1 rfl rfl
      obtain ⟨x0, rfl⟩ := cell_num Tryz.underlying3 h0
      obtain ⟨l1, r1⟩ := open_actsR h1 s1
      exact ⟨⟨x0, l1⟩, c1, hasL_heap (hcell 0 _ rfl), hasL_heap (hcell 1 _ rfl), r1⟩
  refine ⟨l, ⟨p, len, cap, hc⟩, by rw [hc]; exact hl.symm, fun hne => ?_, fun i a ha => hp i a ha, ?_⟩
  · obtain ⟨cap', he⟩ := hat (by rw [← hl]; exact List.length_pos_iff.2 hne)
    exact ⟨len, cap', he⟩
  · rw [hl]
    unfold reachBytes at hb
    omega
set_option maxRecDepth 100000 in

theorem open_prog {v : Value} {d : DataW H} {p : List MemPlace} (hv : ∃ c0 c1, v = .agg #[c0, c1]) (h : DataW.Trod enc Tryz.prog w base spare held 24 v d p) (hw : Small Tryz.prog 24 d) :
    ∃ cells tv l, v = progV cells tv ∧ ThreadsR (heapB w) tv l := by
  obtain ⟨c0, c1, rfl⟩ := hv
  obtain ⟨n, hn⟩ := h
  obtain ⟨n2, hf⟩ := open_fl (cs := [c0, c1]) Tryz.underlying24 (by kernel_rfl) (by rfl) hn hw
  obtain ⟨y0, h0, -⟩ := hf 0 _ c0 rfl rfl
  obtain ⟨y1, h1, s1⟩ := hf 1 _ c1 rfl rfl
  obtain ⟨x0, rfl⟩ := cell_num Tryz.underlying3 h0
  obtain ⟨l, r⟩ := open_threadsR h1 s1
  exact ⟨x0, c1, l, rfl, r⟩
end
end Go.Proofs.YtlpcnaeknbmjdaaGreat

namespace Go.Proofs.YtlpcnaeknbmjdaaGreat.Gn
open Go Go.Joins Go.ChangeShapes Go.WideShapes Go.RowKit Go.Deep
open Go.Proofs.YtlpcnaeknbmjdaaGreat.Sy (Let Blk HasL Cont)
open Lw (goodN goodU)
section
variable {H : Type} {enc : TypeId × Value → H} {w : World} {base : Nat} {spare : Nat → Bool} {held : Bool}
theorem cell_u64 {n : Nat} {t : TypeId} {c : Value} {y : DataW H × List MemPlace} (ht : Tryz.prog.underlying t = some (.int .u64))
    (h : DataW.trod enc Tryz.prog w base spare held n t [c] = some y) : ∃ x : Int, c = .int .u64 x ∧ goodU x := by
  obtain ⟨m, e, -, hw⟩ := DataW.trod_int ht h
  injection e with e
  refine ⟨m, e, ?_⟩
  simp only [Lit.wf, IntKind.min, IntKind.max, IntKind.signed, IntKind.bits, Bool.and_eq_true, decide_eq_true_eq] at hw
  unfold goodU
  simp at hw
  omega
set_option maxRecDepth 100000 in
theorem open_nodesR {n : Nat} {c : Value} {x : DataW H × List MemPlace} (h : DataW.trod enc Tryz.prog w base spare held n 44 [c] = some x) (hw : Small Tryz.prog 44 x.1) : ∃ l, OkX (heapB w) c l ∧ goodN (nds l) := by
  obtain ⟨len, ⟨p, cap, hc⟩, hb, hat, hel⟩ := open_sl (sz := 4) Tryz.underlying44 (by kernel_rfl) (by omega) h hw
  have hB : Tryz.prog.bytesOf 127 = 32 := by kernel_rfl
  rw [hB] at hb
  obtain ⟨l, hl, hp⟩ := list_of (n := len) (p := fun i (m : NodeD) => HasL (rdOf (heapB w)) (Sy.ptrS c) (Sy.offS c + i * 4) (.int .i64 m.op) ∧ HasL (rdOf (heapB w)) (Sy.ptrS c) (Sy.offS c + i * 4 + 1) (.int .u64 m.val) ∧ HasL (rdOf (heapB w)) (Sy.ptrS c) (Sy.offS c + i * 4 + 1 + 1) (.int .i64 m.a) ∧ HasL (rdOf (heapB w)) (Sy.ptrS c) (Sy.offS c + i * 4 + 1 + 1 + 1) (.int .i64 m.b) ∧ goodU m.val) fun i hi => by
    obtain ⟨cs, n', y, hcl, hcell, htr, hsm⟩ := hel i hi
    match cs, hcl with
    | [c0, c1, c2, c3], _ =>
      obtain ⟨n2, hf⟩ := open_fl (cs := [c0, c1, c2, c3]) Tryz.underlying127 (by kernel_rfl) (by rfl) htr hsm
      obtain ⟨y0, h0, -⟩ := hf 0 _ c0 rfl rfl
      obtain ⟨y1, h1, -⟩ := hf 1 _ c1 rfl rfl
      obtain ⟨y2, h2, -⟩ := hf 2 _ c2 rfl rfl
      obtain ⟨y3, h3, -⟩ := hf 3 _ c3 rfl rfl
      obtain ⟨x0, rfl⟩ := cell_num Tryz.underlying3 h0
      obtain ⟨x1, rfl, g1⟩ := cell_u64 Tryz.underlying99 h1
      obtain ⟨x2, rfl⟩ := cell_num Tryz.underlying3 h2
      obtain ⟨x3, rfl⟩ := cell_num Tryz.underlying3 h3
      exact ⟨⟨x0, x1, x2, x3⟩, hasL_heap (hcell 0 _ rfl), hasL_heap (hcell 1 _ rfl), hasL_heap (hcell 2 _ rfl), hasL_heap (hcell 3 _ rfl), g1⟩
  refine ⟨l, ⟨⟨⟨p, len, cap, hc⟩, by rw [hc]; exact hl.symm, fun hne => ?_, fun i m hm => (hp i m hm).1, fun i m hm => (hp i m hm).2.1, fun i m hm => (hp i m hm).2.2.1, fun i m hm => (hp i m hm).2.2.2.1⟩, ?_⟩, fun x hx => ?_⟩
  · obtain ⟨cap', he⟩ := hat (by rw [← hl]; exact List.length_pos_iff.2 hne)
    exact ⟨len, cap', he⟩
  · rw [hl]
    unfold reachBytes at hb
    omega
  · obtain ⟨m, hm, rfl⟩ := List.mem_map.1 hx
    obtain ⟨i, hi⟩ := List.mem_iff_getElem?.1 hm
    exact (hp i m hi).2.2.2.2
set_option maxRecDepth 100000 in
theorem open_actsR {n : Nat} {c : Value} {x : DataW H × List MemPlace} (h : DataW.trod enc Tryz.prog w base spare held n 38 [c] = some x) (hw : Small Tryz.prog 38 x.1) : ∃ l, ActsR (heapB w) c l ∧ ∀ a ∈ l, goodA a := by
  obtain ⟨len, ⟨p, cap, hc⟩, hb, hat, hel⟩ := open_sl (sz := 11) Tryz.underlying38 (by kernel_rfl) (by omega) h hw
  have hB : Tryz.prog.bytesOf 46 = 136 := by kernel_rfl
  rw [hB] at hb
  obtain ⟨l, hl, hp⟩ := list_of (n := len) (p := fun i (a : ActD) => (∃ iv ev fv, ActAt (heapB w) (Sy.ptrS c) (Sy.offS c + i * 11) a iv ev fv) ∧ goodA a) fun i hi => by
    obtain ⟨cs, n', y, hcl, hcell, htr, hsm⟩ := hel i hi
    match cs, hcl with
    | [c0, c1, c2, c3, c4, c5, c6, c7, c8, c9, c10], _ =>
      obtain ⟨n2, hf⟩ := open_fl (cs := [c0, c1, c2, c3, c4, c5, c6, c7, c8, c9, c10]) Tryz.underlying46 (by kernel_rfl) (by rfl) htr hsm
      obtain ⟨y0, h0, -⟩ := hf 0 _ c0 rfl rfl
      obtain ⟨y1, h1, -⟩ := hf 1 _ c1 rfl rfl
      obtain ⟨y2, h2, -⟩ := hf 2 _ c2 rfl rfl
      obtain ⟨y3, h3, -⟩ := hf 3 _ c3 rfl rfl
      obtain ⟨y4, h4, s4⟩ := hf 4 _ c4 rfl rfl
      obtain ⟨y5, h5, s5⟩ := hf 5 _ c5 rfl rfl
      obtain ⟨y6, h6, s6⟩ := hf 6 _ c6 rfl rfl
      obtain ⟨y7, h7, -⟩ := hf 7 _ c7 rfl rfl
      obtain ⟨y8, h8, -⟩ := hf 8 _ c8 rfl rfl
      obtain ⟨y9, h9, -⟩ := hf 9 _ c9 rfl rfl
      obtain ⟨y10, h10, -⟩ := hf 10 _ c10 rfl rfl
      obtain ⟨x0, rfl⟩ := cell_num Tryz.underlying3 h0
      obtain ⟨x1, rfl⟩ := cell_num Tryz.underlying3 h1
      obtain ⟨x2, rfl⟩ := cell_num Tryz.underlying3 h2
      obtain ⟨x3, rfl⟩ := cell_num Tryz.underlying3 h3
      obtain ⟨l4, r4, q4⟩ := open_nodesR h4 s4
      obtain ⟨l5, r5, q5⟩ := open_nodesR h5 s5
      obtain ⟨l6, r6, q6⟩ := open_nodesR h6 s6
      obtain ⟨x7, rfl⟩ := cell_num Tryz.underlying3 h7
      obtain ⟨x8, rfl⟩ := cell_num Tryz.underlying3 h8
      obtain ⟨x9, rfl⟩ := cell_num Tryz.underlying3 h9
      obtain ⟨x10, rfl⟩ := cell_num Tryz.underlying3 h10
      exact ⟨⟨x0, x1, x2, x3, l4, l5, l6, x7, x8, x9, x10⟩, ⟨c4, c5, c6, hasL_heap (hcell 0 _ rfl), hasL_heap (hcell 1 _ rfl), hasL_heap (hcell 2 _ rfl), hasL_heap (hcell 3 _ rfl), hasL_heap (hcell 4 _ rfl), hasL_heap (hcell 5 _ rfl), hasL_heap (hcell 6 _ rfl), hasL_heap (hcell 7 _ rfl), hasL_heap (hcell 8 _ rfl), hasL_heap (hcell 9 _ rfl), hasL_heap (hcell 10 _ rfl), r4, r5, r6⟩, q4, q5, q6⟩
  refine ⟨l, ⟨⟨p, len, cap, hc⟩, by rw [hc]; exact hl.symm, fun hne => ?_, fun i a ha => (hp i a ha).1, ?_⟩, fun x hx => ?_⟩
  · obtain ⟨cap', he⟩ := hat (by rw [← hl]; exact List.length_pos_iff.2 hne)
    exact ⟨len, cap', he⟩
  · rw [hl]
    unfold reachBytes at hb
    omega
  · obtain ⟨i, hi⟩ := List.mem_iff_getElem?.1 hx
    exact (hp i x hi).2
set_option maxRecDepth 100000 in
theorem open_threadsR {n : Nat} {c : Value} {x : DataW H × List MemPlace} (h : DataW.trod enc Tryz.prog w base spare held n 22 [c] = some x) (hw : Small Tryz.prog 22 x.1) : ∃ l, ThreadsR (heapB w) c l ∧ goodT3 l := by
  obtain ⟨len, ⟨p, cap, hc⟩, hb, hat, hel⟩ := open_sl (sz := 2) Tryz.underlying22 (by kernel_rfl) (by omega) h hw
  have hB : Tryz.prog.bytesOf 40 = 32 := by kernel_rfl
  rw [hB] at hb
  obtain ⟨l, hl, hp⟩ := list_of (n := len) (p := fun i (t : ThreadD) => (∃ av, HasL (rdOf (heapB w)) (Sy.ptrS c) (Sy.offS c + i * 2) (.int .i64 t.locals) ∧ HasL (rdOf (heapB w)) (Sy.ptrS c) (Sy.offS c + i * 2 + 1) av ∧ ActsR (heapB w) av t.acts) ∧ ∀ a ∈ t.acts, goodA a) fun i hi => by
    obtain ⟨cs, n', y, hcl, hcell, htr, hsm⟩ := hel i hi
    match cs, hcl with
    | [c0, c1], _ =>
      obtain ⟨n2, hf⟩ := open_fl (cs := [c0, c1]) Tryz.underlying40 (by kernel_rfl) (by rfl) htr hsm
      obtain ⟨y0, h0, -⟩ := hf 0 _ c0 rfl rfl
      obtain ⟨y1, h1, s1⟩ := hf 1 _ c1 rfl rfl
      obtain ⟨x0, rfl⟩ := cell_num Tryz.underlying3 h0
      obtain ⟨l1, r1, q1⟩ := open_actsR h1 s1
      exact ⟨⟨x0, l1⟩, ⟨c1, hasL_heap (hcell 0 _ rfl), hasL_heap (hcell 1 _ rfl), r1⟩, q1⟩
  refine ⟨l, ⟨⟨p, len, cap, hc⟩, by rw [hc]; exact hl.symm, fun hne => ?_, fun i a ha => (hp i a ha).1, ?_⟩, fun x hx => ?_⟩
  · obtain ⟨cap', he⟩ := hat (by rw [← hl]; exact List.length_pos_iff.2 hne)
    exact ⟨len, cap', he⟩
  · rw [hl]
    unfold reachBytes at hb
    omega
  · obtain ⟨i, hi⟩ := List.mem_iff_getElem?.1 hx
    exact (hp i x hi).2
set_option maxRecDepth 100000 in

theorem open_prog {v : Value} {d : DataW H} {p : List MemPlace} (hv : ∃ c0 c1, v = .agg #[c0, c1]) (h : DataW.Trod enc Tryz.prog w base spare held 24 v d p) (hw : Small Tryz.prog 24 d) :
    ∃ cells tv l, v = progV cells tv ∧ ThreadsR (heapB w) tv l ∧ goodT3 l := by
  obtain ⟨c0, c1, rfl⟩ := hv
  obtain ⟨n, hn⟩ := h
  obtain ⟨n2, hf⟩ := open_fl (cs := [c0, c1]) Tryz.underlying24 (by kernel_rfl) (by rfl) hn hw
  obtain ⟨y0, h0, -⟩ := hf 0 _ c0 rfl rfl
  obtain ⟨y1, h1, s1⟩ := hf 1 _ c1 rfl rfl
  obtain ⟨x0, rfl⟩ := cell_num Tryz.underlying3 h0
  obtain ⟨l, r, q⟩ := open_threadsR h1 s1
  exact ⟨x0, c1, l, rfl, r, q⟩
end
end Go.Proofs.YtlpcnaeknbmjdaaGreat.Gn
