/-
  AtomBounds: the loop of begins, explored; The loop of begins: what lie
-/
import Derived.Test.YtjohknpmhlildaaDoorPbd
import Derived.Below
import Derived.ChangeSame
import Derived.Test.YtjohknpmhlildaaDoorRows
import Derived.SizedLaws
import Derived.Lib.SmallJoins
import Derived.Carry
import Derived.ProofKit
import Derived.OpenShut
import Derived.Deep.Slices
import Derived.Deep.Fields
import Derived.HandedShaped
import Derived.LaidMore
import Derived.Stop.Joined

noncomputable section
set_option linter.unusedVariables false
set_option linter.unusedSimpArgs false
--@tail 0
namespace Go.Proofs.YtjohknpmhlildaaDoor.At
open Sy.O (fork nil step steps)
open Sy.Res (need hyp br leaf both)
open Go Go.RowKit
open Go.Proofs.YtjohknpmhlildaaDoor.Sy (Let Blk Cont Bun ptr ptr0 bx tkB tkU clo bunO)
open Go.Proofs.YtjohknpmhlildaaDoor.As
abbrev fAB : FuncId := 6
def bodyBgB : Code := Sy.loopBody Tryd.f6 0
def slBgB (bv pv : Value) (rv : Int) (thing pT : Nat) (tv kv : Value) (i : Nat) : List (Nat × Value) := [(1, bv), (2, pv), (7, .int .i64 (thing : Int)), (8, .int .i64 rv), (9, ptr pT), (11, tv), (12, kv), (13, .int .i64 (Int.ofNat i))]
def ctxBgB (w : WorldD) (st : Nat) (tks : List Nat) (b : Bun) (thing : Nat) (R : List Blk) : Sy.Ctx :=
 Sy.mkU (Sy.mkS [(fKind, fun a _ => kdC thing (Sy.argI a 1))] [] []) [(fBegun, fun a _ => (begunA w st tks b a).toU [] b R)] []
def bgB0_o : Sy.O := (steps [0, 1] (fork (steps [0, 1, 0, 0, 1, 1, 1, 1, 0, 0, 0, 1, 1, 0, 2, 0, 0, 0, 0, 0, 0, 1, 2, 3, 4, 0, 1, 5, 6, 0, 1, 1, 1, 1, 1, 7, 8, 9, 0, 1, 10, 11, 0, 1, 1, 1, 1, 1, 20, 0, 0, 0] (fork (steps [1, 1, 0, 2, 0, 13, 14, 15, 16, 17, 0, 0, 0, 0, 0, 0, 0, 0, 1, 0, 0, 1, 0, 0, 0, 0, 0, 0, 0, 1, 0, 0, 1] nil) (steps [1, 1, 0, 2, 0, 13, 14, 15, 16, 17, 0] nil))) nil))
noncomputable def bgB0_R (w : WorldD) (st : Nat) (tks : List Nat) (b : Bun) (TL : List Blk) (gb o nb cb sp : Nat) (C : Cont) (x : OpD) (pv : Value) (rv : Int) (thing pT : Nat) (va vb vc vd ve : Value) (i : Nat) (f : Nat → Value) (ns : Nat → Sy.Let) : Sy.Res (Exit × Nat × List Value × List Blk) :=
 let z0 := Int.ofNat i
 let z1 := 0 ≤ Int.ofNat i ∧ Int.ofNat i < (↑nb : Int)
 let z2 := Cont.seg sp [Value.int .i64 (OpD.kind x), Value.int .i64 (OpD.n x), Value.int .u64 (OpD.v x)]
 let z3 := o + Int.toNat z0 * 3
 let z4 := Nat.add z3 0
 let z5 := Nat.succ z3
 let z6 := ns 2
 let z7 := Array.mk [va, vb, vc, vd, ve]
 let z8 := natV (Value.int .i64 (↑(kindW thing (ns 0).i) : Int))
 let z9 := Cont.obj (Obj.cells z7 31)
 let z10 := fun (p : Nat × Cont) => Blk.mk (Prod.fst p) (Prod.snd p) true
 let z11 := Let.q (ns 3)
 let z12 := some (Addr.mk gb o none)
 let z13 := some (Addr.mk pT 0 none)
 let z14 := Ex.wrapQ .i64 (Ex.addQ z0 1)
 let z15 := [Value.int .i64 (↑(kindW thing (ns 0).i) : Int)]
 let z16 := [Value.pointer (some ⟨(ns 4).n, 0, none⟩)]
 br (bif Ex.ltQ z0 (Int.ofNat nb) then Ex.ltQ z0 30 else false) (need z1 (need (∃ (i_1 : Int), Cont.at z2 z4 = some (Value.int .i64 i_1)) (hyp (Cont.at z2 z4 = some (Value.int .i64 (ns 0).i)) (need (1 ≤ thing ∧ thing ≤ 5) (hyp True (need z1 (need (∃ (i_1 : Int), Cont.at z2 (Nat.succ z5) = some (Value.int .u64 i_1)) (hyp (Cont.at z2 (Nat.succ z5) = some (Value.int .u64 (ns 1).i)) (need z1 (need (∃ (i_1 : Int), Cont.at z2 z5 = some (Value.int .i64 i_1)) (hyp (Cont.at z2 z5 = some (Value.int .i64 z6.i)) (need (Array.mk [Value.agg z7, Value.int .i64 (↑(kindW thing (ns 0).i) : Int), Value.int .u64 (ns 1).i, Value.int .i64 z6.i] = Array.mk [thV4 (WorldD.thing w) st, Value.int .i64 (↑z8 : Int), Value.int .u64 (ns 1).i, Value.int .i64 z6.i] ∧ okBegun w st tks b z8) (need (List.Perm (Blk.mk gb z2 false :: Blk.mk gb C false :: Blk.mk pT z9 false :: TL) ((List.map z10 b).append [Blk.mk gb z2 false, Blk.mk gb C false, Blk.mk pT z9 false])) (both (hyp (mayW w z8 z6.i = true ∧ Heap (beginW w z8 (ns 1).i z6.i) st (tks.append [(ns 4).n]) z11) (hyp (Nat.le 1 (ns 7).n) (hyp (Nat.le 1 (ns 10).n) (leaf (Exit.normal, 122, [Value.slice z12 nb cb, pv, Value.int .i64 (↑thing : Int), Value.int .i64 rv, Value.pointer z13, Value.slice (some ⟨(ns 6).n, 0, none⟩) 1 (ns 7).n, Value.slice (some ⟨(ns 9).n, 0, none⟩) 1 (ns 10).n, Value.int .i64 z14], Blk.mk (ns 9).n (Cont.row 3 1 1 (ns 10).n z15) true :: Blk.mk (ns 8).n (Cont.obj (Obj.cells (Array.mk z15) 3)) true :: Blk.mk (ns 6).n (Cont.row 48 1 1 (ns 7).n
 z16) true :: Blk.mk (ns 5).n (Cont.obj (Obj.cells (Array.mk z16) 48)) true :: Blk.mk gb z2 false :: Blk.mk gb C false :: Blk.mk pT z9 false :: List.map z10 z11))))) (hyp (mayW w z8 z6.i = false ∧ Heap w st tks z11) (leaf (Exit.normal, 122, [Value.slice z12 nb cb, pv, Value.int .i64 (↑thing : Int), Value.int .i64 rv, Value.pointer z13, Value.slice none 0 0, Value.slice none 0 0, Value.int .i64 z14], Blk.mk gb z2 false :: Blk.mk gb C false :: Blk.mk pT z9 false :: List.map z10 z11))))))))))))))))) (leaf (Exit.exit 0, 122, [Value.slice z12 nb cb, pv, Value.int .i64 (↑thing : Int), Value.int .i64 rv, Value.pointer z13, Value.slice none 0 0, Value.slice none 0 0, Value.int .i64 z0], Blk.mk gb z2 false :: Blk.mk gb C false :: Blk.mk pT z9 false :: TL))
theorem bgB0_run (w : WorldD) (st : Nat) (tks : List Nat) (b : Bun) (TL : List Blk) (gb o nb cb sp : Nat) (C : Cont) (x : OpD) (pv : Value) (rv : Int) (thing pT : Nat) (va vb vc vd ve : Value) (i : Nat) (f : Nat → Value) : Sy.Ran (Sy.pieceT Tryd.prog (ctxBgB w st tks b thing (⟨gb, .seg sp [.int .i64 x.kind, .int .i64 x.n, .int .u64 x.v], false⟩ :: ⟨gb, C, false⟩ :: ⟨pT, .obj (.cells #[va, vb, vc, vd, ve] tThg (0, 0)), false⟩ :: [])) 50 fAB bodyBgB 122 (slBgB (.slice (some ⟨gb, o, none⟩) nb cb) pv rv thing pT nil0 nil0 i) ((List.range 122).map f) (⟨gb, .seg sp [.int .i64 x.kind, .int .i64 x.n, .int .u64 x.v], false⟩ :: ⟨gb, C, false⟩ :: ⟨pT, .obj (.cells #[va, vb, vc, vd, ve] tThg (0, 0)), false⟩ :: TL) [1, 2, 7, 8, 9, 11, 12, 13]) bgB0_o (bgB0_R w st tks b TL gb o nb cb sp C x pv rv thing pT va vb vc vd ve i f) := ⟨fun _ => by kernel_rfl, fun _ => by kernel_rfl⟩
def bgB1_o : Sy.O := (steps [0, 1] (fork (steps [0, 1, 0, 2, 1, 1, 1, 1, 0, 0, 0, 1, 1, 0, 4, 0, 2, 0, 0, 0, 0, 1, 2, 3, 4, 0, 1, 5, 6, 0, 1, 1, 1, 1, 1, 7, 8, 9, 0, 1, 10, 11, 0, 1, 1, 1, 1, 1, 20, 0, 0, 0] (fork (steps [1, 1, 0, 4, 2, 13, 14, 15, 16, 17, 0, 0, 0, 0, 1, 0, 1, 1, 0, 1, 0, 1, 0, 0, 1, 0, 0, 0, 3, 0, 1, 1, 0, 1, 2, 1, 0, 0, 1] nil) (steps [1, 1, 0, 4, 2, 13, 14, 15, 16, 17, 0] nil))) nil))
noncomputable def bgB1_R (w : WorldD) (st : Nat) (tks : List Nat) (b : Bun) (TL : List Blk) (gb o nb cb sp : Nat) (C : Cont) (x : OpD) (pv : Value) (rv : Int) (thing pT : Nat) (va vb vc vd ve : Value) (i tr tc kr kc m : Nat) (xs ks : List Value) (f : Nat → Value) (ns : Nat → Sy.Let) : Sy.Res (Exit × Nat × List Value × List Blk) :=
 let z0 := Int.ofNat i
 let z1 := 0 ≤ Int.ofNat i ∧ Int.ofNat i < (↑nb : Int)
 let z2 := Cont.seg sp [Value.int .i64 (OpD.kind x), Value.int .i64 (OpD.n x), Value.int .u64 (OpD.v x)]
 let z3 := o + Int.toNat z0 * 3
 let z4 := Nat.add z3 0
 let z5 := Nat.succ z3
 let z6 := ns 2
 let z7 := Array.mk [va, vb, vc, vd, ve]
 let z8 := natV (Value.int .i64 (↑(kindW thing (ns 0).i) : Int))
 let z9 := m + 1
 let z10 := Cont.row 48 1 z9 tc xs
 let z11 := Cont.row 3 1 z9 kc ks
 let z12 := Cont.obj (Obj.cells z7 31)
 let z13 := fun (p : Nat × Cont) => Blk.mk (Prod.fst p) (Prod.snd p) true
 let z14 := Let.q (ns 3)
 let z15 := m + 1 + (1 : Nat) ≤ 9223372036854775807
 let z16 := m + 1 + 1
 let z17 := z16 * (8 : Nat) ≤ 140737488355328
 let z18 := some (Addr.mk gb o none)
 let z19 := some (Addr.mk pT 0 none)
 let z20 := Ex.wrapQ .i64 (Ex.addQ z0 1)
 let z21 := [Value.int .i64 (↑(kindW thing (ns 0).i) : Int)]
 let z22 := [Value.pointer (some ⟨(ns 4).n, 0, none⟩)]
 let z23 := some (Addr.mk tr 0 none)
 let z24 := some (Addr.mk kr 0 none)
 br (bif Ex.ltQ z0 (Int.ofNat nb) then Ex.ltQ z0 30 else false) (need z1 (need (∃ (i_1 : Int), Cont.at z2 z4 = some (Value.int .i64 i_1)) (hyp (Cont.at z2 z4 = some (Value.int .i64 (ns 0).i)) (need (1 ≤ thing ∧ thing ≤ 5) (hyp True (need z1 (need (∃ (i_1 : Int), Cont.at z2 (Nat.succ z5) = some (Value.int .u64 i_1)) (hyp (Cont.at z2 (Nat.succ z5) = some (Value.int .u64 (ns 1).i)) (need z1 (need (∃ (i_1 : Int), Cont.at z2 z5 = some (Value.int .i64 i_1)) (hyp (Cont.at z2 z5 = some (Value.int .i64 z6.i)) (need (Array.mk [Value.agg z7, Value.int .i64 (↑(kindW thing (ns 0).i) : Int), Value.int .u64 (ns 1).i, Value.int .i64 z6.i] = Array.mk [thV4 (WorldD.thing w) st, Value.int .i64 (↑z8 : Int), Value.int .u64 (ns 1).i, Value.int .i64 z6.i] ∧ okBegun w st tks b z8) (need (List.Perm (Blk.mk tr z10 true :: Blk.mk kr z11 true :: Blk.mk gb z2 false :: Blk.mk gb C false :: Blk.mk pT z12 false :: TL) ((List.map z13 b).append [Blk.mk tr z10 true, Blk.mk kr z11 true, Blk.mk gb z2 false, Blk.mk gb C false, Blk.mk pT z12 false])) (both (hyp (mayW w z8 z6.i = true ∧ Heap (beginW w z8 (ns 1).i z6.i) st (tks.append [(ns 4).n]) z14) (need z15 (need z17 (hyp (Nat.le z16 (ns 7).n) (need z15 (need z17 (hyp (Nat.le z16 (ns 10).n) (leaf (Exit.normal, 122, [Value.slice z18 nb cb, pv, Value.int .i64 (↑thing : Int), Value.int .i64 rv, Value.pointer z19, Value.slice (some ⟨(ns 6).n, 0, none⟩) z16 (ns 7).n, Value.slice (some ⟨(ns 9).n, 0, none⟩) z16 (ns 10).n, Value.int .i64 z20], Blk.mk (ns 9).n (Cont.row 3
 1 z16 (ns 10).n (ks.append z21)) true :: Blk.mk (ns 8).n (Cont.obj (Obj.cells (Array.mk z21) 3)) true :: Blk.mk (ns 6).n (Cont.row 48 1 z16 (ns 7).n (xs.append z22)) true :: Blk.mk (ns 5).n (Cont.obj (Obj.cells (Array.mk z22) 48)) true :: Blk.mk gb z2 false :: Blk.mk gb C false :: Blk.mk pT z12 false :: List.map z13 z14))))))))) (hyp (mayW w z8 z6.i = false ∧ Heap w st tks z14) (leaf (Exit.normal, 122, [Value.slice z18 nb cb, pv, Value.int .i64 (↑thing : Int), Value.int .i64 rv, Value.pointer z19, Value.slice z23 z9 tc, Value.slice z24 z9 kc, Value.int .i64 z20], Blk.mk tr z10 true :: Blk.mk kr z11 true :: Blk.mk gb z2 false :: Blk.mk gb C false :: Blk.mk pT z12 false :: List.map z13 z14))))))))))))))))) (leaf (Exit.exit 0, 122, [Value.slice z18 nb cb, pv, Value.int .i64 (↑thing : Int), Value.int .i64 rv, Value.pointer z19, Value.slice z23 z9 tc, Value.slice z24 z9 kc, Value.int .i64 z0], Blk.mk tr z10 true :: Blk.mk kr z11 true :: Blk.mk gb z2 false :: Blk.mk gb C false :: Blk.mk pT z12 false :: TL))
theorem bgB1_run (w : WorldD) (st : Nat) (tks : List Nat) (b : Bun) (TL : List Blk) (gb o nb cb sp : Nat) (C : Cont) (x : OpD) (pv : Value) (rv : Int) (thing pT : Nat) (va vb vc vd ve : Value) (i tr tc kr kc m : Nat) (xs ks : List Value) (f : Nat → Value) : Sy.Ran (Sy.pieceT Tryd.prog (ctxBgB w st tks b thing (⟨tr, .row tTP 1 (m + 1) tc xs, true⟩ :: ⟨kr, .row tI 1 (m + 1) kc ks, true⟩ :: ⟨gb, .seg sp [.int .i64 x.kind, .int .i64 x.n, .int .u64 x.v], false⟩ :: ⟨gb, C, false⟩ :: ⟨pT, .obj (.cells #[va, vb, vc, vd, ve] tThg (0, 0)), false⟩ :: [])) 50 fAB bodyBgB 122 (slBgB (.slice (some ⟨gb, o, none⟩) nb cb) pv rv thing pT (sl tr (m + 1) tc) (sl kr (m + 1) kc) i) ((List.range 122).map f) (⟨tr, .row tTP 1 (m + 1) tc xs, true⟩ :: ⟨kr, .row tI 1 (m + 1) kc ks, true⟩ :: ⟨gb, .seg sp [.int .i64 x.kind, .int .i64 x.n, .int .u64 x.v], false⟩ :: ⟨gb, C, false⟩ :: ⟨pT, .obj (.cells #[va, vb, vc, vd, ve] tThg (0, 0)), false⟩ :: TL) [1, 2, 7, 8, 9, 11, 12, 13]) bgB1_o (bgB1_R w st tks b TL gb o nb cb sp C x pv rv thing pT va vb vc vd ve i tr tc kr kc m xs ks f) := ⟨fun _ => by kernel_rfl, fun _ => by kernel_rfl⟩
end Go.Proofs.YtjohknpmhlildaaDoor.At
namespace Go.Proofs.YtjohknpmhlildaaDoor.At
open Go Go.RowKit
open Go.Proofs.YtjohknpmhlildaaDoor.Sy (Let Blk Cont Bun ptr ptr0 bx tkB tkU clo DoesB usedK ownOf rdsOf Rep does_frame does_perm does_mono does_all does_of S0_holds bunO)
open Go.Proofs.YtjohknpmhlildaaDoor.As
def opsC (o : Nat) (ops : List OpD) : Cont := .seg o (ops.flatMap OpD.cells)
theorem seg_sub {off : Nat} {a ys c : List Value} {h : Option Obj} (hs : (Cont.seg off (a ++ (ys ++ c))).sat h) : (Cont.seg (off + a.length) ys).sat h := by
 obtain ⟨cur, e, f, hh, hu⟩ := hs
 refine ⟨cur, e, f, hh, fun j u hj => ?_⟩
 have := hu (a.length + j) u (by rw [List.getElem?_append_right (by omega), show a.length + j - a.length = j by omega, List.getElem?_append_left (List.getElem?_eq_some_iff.1 hj).1]; exact hj)
 rw [Nat.add_assoc]
 exact this
theorem flat_len (l : List OpD) : (l.flatMap OpD.cells).length = l.length * 3 := by
 induction l with
 | nil => rfl
 | cons x l ih => rw [List.flatMap_cons, List.length_append, ih, List.length_cons]; show 3 + _ = _; omega
theorem flat_at {ops : List OpD} {i : Nat} (h : i < ops.length) : ops.flatMap OpD.cells = (ops.take i).flatMap OpD.cells ++ ((opG ops i).cells ++ (ops.drop (i + 1)).flatMap OpD.cells) := by
 have e : ops = ops.take i ++ (opG ops i :: ops.drop (i + 1)) := by
  unfold opG
  rw [List.getD_eq_getElem?_getD, List.getElem?_eq_getElem h, Option.getD_some, ← List.drop_eq_getElem_cons h, List.take_append_drop]
 conv => lhs; rw [e]
 rw [List.flatMap_append, List.flatMap_cons]
theorem ops_seg {o i : Nat} {ops : List OpD} (h : i < ops.length) {x : Option Obj} (hs : (opsC o ops).sat x) : (Cont.seg (o + i * 3) (opG ops i).cells).sat x := by
 unfold opsC at hs
 rw [flat_at h] at hs
 have := seg_sub hs
 rw [flat_len, List.length_take, Nat.min_eq_left (by omega)] at this
 exact this
theorem seg_at0 (sp : Nat) (a b c : Value) : Cont.at (.seg sp [a, b, c]) (Nat.add sp 0) = some a := by
 show (if sp ≤ sp + 0 then [a, b, c][sp + 0 - sp]? else none) = _
 simp
theorem seg_at1 (sp : Nat) (a b c : Value) : Cont.at (.seg sp [a, b, c]) (Nat.succ sp) = some b := by
 show (if sp ≤ sp + 1 then [a, b, c][sp + 1 - sp]? else none) = _
 simp
theorem seg_at2 (sp : Nat) (a b c : Value) : Cont.at (.seg sp [a, b, c]) (Nat.succ (Nat.succ sp)) = some c := by
 show (if sp ≤ sp + 2 then [a, b, c][sp + 2 - sp]? else none) = _
 simp
abbrev thB (va vb vc vd ve : Value) : Cont := .obj (.cells #[va, vb, vc, vd, ve] tThg (0, 0))
theorem bg_ent (X : List Blk) (gb pT o j : Nat) (ct : Cont) (ops : List OpD) (q : Bun) (h : j < ops.length) :
  Sy.Ent (X ++ (⟨gb, opsC o ops, false⟩ :: ⟨pT, ct, false⟩ :: q.map ownOf)) (X ++ (⟨gb, .seg (o + j * 3) (opG ops j).cells, false⟩ :: ⟨gb, opsC o ops, false⟩ :: ⟨pT, ct, false⟩ :: q.map ownOf)) := by
 letI : DecidableEq Blk := Classical.typeDecidableEq _
 refine Sy.Ent.trans (Sy.Ent.perm (B := (X ++ q.map ownOf) ++ [⟨gb, opsC o ops, false⟩, ⟨pT, ct, false⟩]) ?_) (Sy.Ent.trans (ent_rds (X := X ++ q.map ownOf) (R := [⟨gb, .seg (o + j * 3) (opG ops j).cells, false⟩]) (S := [⟨gb, opsC o ops, false⟩, ⟨pT, ct, false⟩]) fun r hr => ?_) (Sy.Ent.perm ?_))
 ·refine List.perm_iff_count.2 fun p => ?_
  simp only [List.count_append, List.count_cons, List.count_nil]
  omega
 ·rw [List.mem_singleton.1 hr]
  exact ⟨rfl, _, Sy.mH, rfl, rfl, fun _ hs => ops_seg h hs⟩
 ·refine List.perm_iff_count.2 fun p => ?_
  simp only [List.count_append, List.count_cons, List.count_nil]
  omega
theorem natV_nat (n : Nat) : natV (.int .i64 (n : Int)) = n := Int.toNat_natCast n
structure okBg (w0 : WorldD) (st : Nat) (b : Bun) (o nb : Nat) (C : Cont) (ops : List OpD) (thing : Nat) (cs : Value) : Prop where
 heap : Heap w0 st [] b
 tasks : w0.tasks = []
 ht : 1 ≤ thing ∧ thing ≤ 5
 hw : w0.thing = thing
 cs : cs = thV4 thing st
 nq : ops.length = nb
 pos : 0 < nb
 C : C = opsC o ops
structure StBg where
 r : Option (Nat × Nat × Nat × Nat × Nat)
 tks : List Nat
 i : Nat
 q : Bun
def rowsBg (w : WorldD) (s : StBg) : List Blk := match s.r with
 | none => []
 | some (tr, tc, kr, kc, m) => [⟨tr, .row tTP 1 (m + 1) tc (ptrs s.tks), true⟩, ⟨kr, .row tI 1 (m + 1) kc (kindsV w), true⟩]
def spBg (o nb i : Nat) : Nat := o + min i (nb - 1) * 3
def xBg (ops : List OpD) (nb i : Nat) : OpD := opG ops (min i (nb - 1))
def memBg (w0 : WorldD) (ops : List OpD) (gb pT o nb : Nat) (C ct : Cont) (s : StBg) : List Blk :=
 rowsBg (begsW w0 (ops.take s.i)) s ++ (⟨gb, .seg (spBg o nb s.i) (xBg ops nb s.i).cells, false⟩ :: ⟨gb, C, false⟩ :: ⟨pT, ct, false⟩ :: s.q.map ownOf)
structure OkBgS (w0 : WorldD) (st : Nat) (ops : List OpD) (nb lim : Nat) (s : StBg) : Prop where
 i : s.i ≤ nb ∧ s.i ≤ lim
 heap : Heap (begsW w0 (ops.take s.i)) st s.tks s.q
 nil : s.r = none → s.tks = []
 row : ∀ tr tc kr kc m, s.r = some (tr, tc, kr, kc, m) → s.tks.length = m + 1
theorem sp_eq {o nb i : Nat} (h : i < nb) : spBg o nb i = o + i * 3 := by
 unfold spBg
 rw [Nat.min_eq_left (by omega)]
theorem x_eq {ops : List OpD} {nb i : Nat} (h : i < nb) : xBg ops nb i = opG ops i := by
 unfold xBg
 rw [Nat.min_eq_left (by omega)]
theorem lt_and {i nb lim : Nat} : (bif Ex.ltQ (Int.ofNat i) (Int.ofNat nb) then Ex.ltQ (Int.ofNat i) (Int.ofNat lim) else false) = decide (i < nb ∧ i < lim) := by
 rw [ltq_nat, ltq_nat]
 by_cases h1 : i < nb <;> by_cases h2 : i < lim <;> simp [h1, h2]
open Go.Proofs.YtjohknpmhlildaaDoor.Sy (Let Blk Cont Bun ptr ptr0 bx tkB tkU clo DoesB usedK ownOf rdsOf Rep does_frame does_perm does_mono does_all does_of S0_holds bunO)
open Go.Proofs.YtjohknpmhlildaaDoor.As
def bgCB (w0 : WorldD) (st : Nat) (b : Bun) (gb o nb cb : Nat) (C : Cont) (ops : List OpD) (pv : Value) (rv : Int) (thing pT : Nat) (va vb vc vd ve : Value) : Sy.LoopC :=
 ⟨.loop bodyBgB, 122, slBgB (.slice (some ⟨gb, o, none⟩) nb cb) pv rv thing pT nil0 nil0 0, okBg w0 st b o nb C ops thing (.agg #[va, vb, vc, vd, ve]), ⟨[(gb, C), (pT, thB va vb vc vd ve)], b, 7, []⟩,
  [(⟨fun ns => (begsW w0 (ops.take 30)).tasks = [] ∧ Heap (begsW w0 (ops.take 30)) st [] (bunO ns), fun _ => [], bunO⟩, .exit 0, fun _ => [(2, pv), (7, .int .i64 (thing : Int)), (8, .int .i64 rv), (11, nil0), (12, nil0)]),
   (⟨fun ns => Heap (begsW w0 (ops.take 30)) st (namesOf (ns.getD 5 Let.none).l) (bunO ns) ∧ (begsW w0 (ops.take 30)).tasks.length = Sy.num ns 6 + 1,
     fun ns => [(Sy.num ns 1, .row tTP 1 (Sy.num ns 6 + 1) (Sy.num ns 2) (ptrs (namesOf (ns.getD 5 Let.none).l))), (Sy.num ns 3, .row tI 1 (Sy.num ns 6 + 1) (Sy.num ns 4) (kindsV (begsW w0 (ops.take 30))))], bunO⟩, .exit 0, fun ns => [(2, pv), (7, .int .i64 (thing : Int)), (8, .int .i64 rv), (11, sl (Sy.num ns 1) (Sy.num ns 6 + 1) (Sy.num ns 2)), (12, sl (Sy.num ns 3) (Sy.num ns 6 + 1) (Sy.num ns 4))])]⟩
theorem ctxBgB_holds (w : WorldD) (st : Nat) (tks : List Nat) (b : Bun) (thing : Nat) (R : List Blk) : (ctxBgB w st tks b thing R).holds Tryd.prog := Sy.mkU_holds (Sy.mkS_holds (fun p hp a L => by
 rcases List.mem_singleton.1 hp with rfl
 exact kdC_met _ _) (fun _ h => (by cases h)) (fun _ h => (by cases h))) (fun p hp a L => by
 rcases List.mem_singleton.1 hp with rfl
 exact begunA_met _ _ _ _ _) (fun _ h => (by cases h))
def slSB (gb o nb cb : Nat) (pv : Value) (rv : Int) (thing pT : Nat) (s : StBg) : List (Nat × Value) := match s.r with
 | none => slBgB (.slice (some ⟨gb, o, none⟩) nb cb) pv rv thing pT nil0 nil0 s.i
 | some (tr, tc, kr, kc, m) => slBgB (.slice (some ⟨gb, o, none⟩) nb cb) pv rv thing pT (sl tr (m + 1) tc) (sl kr (m + 1) kc) s.i
def ctxSB (w0 : WorldD) (st gb o nb : Nat) (C : Cont) (ops : List OpD) (thing pT : Nat) (va vb vc vd ve : Value) (s : StBg) : Sy.Ctx :=
 ctxBgB (begsW w0 (ops.take s.i)) st s.tks s.q thing (rowsBg (begsW w0 (ops.take s.i)) s ++ (⟨gb, .seg (spBg o nb s.i) (xBg ops nb s.i).cells, false⟩ :: ⟨gb, C, false⟩ :: ⟨pT, thB va vb vc vd ve, false⟩ :: []))
set_option maxRecDepth 10000 in
theorem bgCB_met (w0 : WorldD) (st : Nat) (b : Bun) (gb o nb cb : Nat) (C : Cont) (ops : List OpD) (pv : Value) (rv : Int) (thing pT : Nat) (va vb vc vd ve : Value) : Sy.MeetsL Tryd.prog (bgCB w0 st b gb o nb cb C ops pv rv thing pT va vb vc vd ve) := by
 intro hok0
 obtain rfl : C = opsC o ops := hok0.C
 have hpos := hok0.pos
 have hnq := hok0.nq
 refine Sy.loop_ofB (σ := StBg) (S := fun s => ctxSB w0 st gb o nb (opsC o ops) ops thing pT va vb vc vd ve s) (n := 50) (fn := fAB) (fun _ => ctxBgB_holds _ _ _ _ _ _) mixed (body := bodyBgB) rfl [1, 2, 7, 8, 9, 11, 12, 13]
  (fun s => slSB gb o nb cb pv rv thing pT s) (fun s => memBg w0 ops gb pT o nb (opsC o ops) (thB va vb vc vd ve) s) (fun s => okBg w0 st b o nb (opsC o ops) ops thing (.agg #[va, vb, vc, vd, ve]) ∧ OkBgS w0 st ops nb 30 s) (fun s => 30 - s.i)
  ⟨none, [], 0, b⟩ (fun h => ⟨h, ⟨Nat.zero_le _, Nat.zero_le _⟩, h.heap, fun _ => rfl, fun _ _ _ _ _ h => (by cases h)⟩) (fun p hp => hp) ?_
  (o := fun s => match s.r with
   | none => bgB0_o
   | some _ => bgB1_o)
  (R := fun s f => match s.r with
   | none => bgB0_R (begsW w0 (ops.take s.i)) st s.tks s.q (s.q.map ownOf) gb o nb cb (spBg o nb s.i) (opsC o ops) (xBg ops nb s.i) pv rv thing pT va vb vc vd ve s.i f
   | some (tr, tc, kr, kc, m) => bgB1_R (begsW w0 (ops.take s.i)) st s.tks s.q (s.q.map ownOf) gb o nb cb (spBg o nb s.i) (opsC o ops) (xBg ops nb s.i) pv rv thing pT va vb vc vd ve s.i tr tc kr kc m (ptrs s.tks) (kindsV (begsW w0 (ops.take s.i))) f) ?_ ?_ hok0
 ·show Sy.Ent _ (memBg w0 ops gb pT o nb (opsC o ops) (thB va vb vc vd ve) ⟨none, [], 0, b⟩)
  refine Sy.Ent.trans (Sy.Ent.perm (List.Perm.of_eq ?_)) (bg_ent [] gb pT o (min 0 (nb - 1)) (thB va vb vc vd ve) ops b (by omega))
  show [_, _] ++ (b.map ownOf ++ []) = _
  rw [List.append_nil]
  rfl
 ·rintro ⟨r, tks, i, q⟩ f -
  cases r with
  | none => exact bgB0_run (begsW w0 (ops.take i)) st tks q (q.map ownOf) gb o nb cb (spBg o nb i) (opsC o ops) (xBg ops nb i) pv rv thing pT va vb vc vd ve i f
  | some x =>
    obtain ⟨tr, tc, kr, kc, m⟩ := x
    exact bgB1_run (begsW w0 (ops.take i)) st tks q (q.map ownOf) gb o nb cb (spBg o nb i) (opsC o ops) (xBg ops nb i) pv rv thing pT va vb vc vd ve i tr tc kr kc m (ptrs tks) (kindsV (begsW w0 (ops.take i))) f
 rintro - ⟨r, tks, i, q⟩ f ⟨hok, ⟨hi, hi2⟩, hH, hnil, hrow⟩ ns
 simp only at hi hi2 hH hnil hrow
 have hwt : (begsW w0 (ops.take i)).thing = thing := ((begs_thing _ w0).1).trans hok.hw
 have hlen := (heap_task hH).1
 have hle := (begs_len (ops.take i) w0).1
 rw [hok.tasks, List.length_nil, List.length_take] at hle
 have hwi : Ex.wrapQ .i64 (Ex.addQ (Int.ofNat i) 1) = Int.ofNat (i + 1) := stp_nat (k := i) (by omega)
 have hcs : Value.agg (Array.mk [va, vb, vc, vd, ve]) = thV4 (WorldD.thing (begsW w0 (ops.take i))) st := by rw [hwt]; exact hok.cs
 have hkd : As.kindOk (begsW w0 (ops.take i)).thing (kindW thing (xBg ops nb i).kind) := by rw [hwt]; exact kind_ok hok.ht _
 have hperm : ∀ X : List Blk, List.Perm (X ++ q.map ownOf) (List.append (List.map (fun p : Nat × Cont => (⟨p.1, p.2, true⟩ : Blk)) q) X) := fun X => List.perm_append_comm
 have hsp : i < nb → spBg o nb i = o + Int.toNat (Int.ofNat i) * 3 := fun h => by rw [sp_eq h]; rfl
 have hnext : i < nb → begsW w0 (ops.take (i + 1)) = begO (begsW w0 (ops.take i)) (xBg ops nb i) := fun h => by rw [x_eq h]; exact begs_take w0 ops (by omega)

 have h0 : i < nb → Cont.at (Cont.seg (spBg o nb i) [Value.int .i64 (xBg ops nb i).kind, Value.int .i64 (xBg ops nb i).n, Value.int .u64 (xBg ops nb i).v]) (Nat.add (o + Int.toNat (Int.ofNat i) * 3) 0) = some (Value.int .i64 (xBg ops nb i).kind) := fun h => by rw [← hsp h]; exact seg_at0 _ _ _ _
 have h1 : i < nb → Cont.at (Cont.seg (spBg o nb i) [Value.int .i64 (xBg ops nb i).kind, Value.int .i64 (xBg ops nb i).n, Value.int .u64 (xBg ops nb i).v]) (Nat.succ (o + Int.toNat (Int.ofNat i) * 3)) = some (Value.int .i64 (xBg ops nb i).n) := fun h => by rw [← hsp h]; exact seg_at1 _ _ _ _
 have h2 : i < nb → Cont.at (Cont.seg (spBg o nb i) [Value.int .i64 (xBg ops nb i).kind, Value.int .i64 (xBg ops nb i).n, Value.int .u64 (xBg ops nb i).v]) (Nat.succ (Nat.succ (o + Int.toNat (Int.ofNat i) * 3))) = some (Value.int .u64 (xBg ops nb i).v) := fun h => by rw [← hsp h]; exact seg_at2 _ _ _ _
 have hx : ∀ {v : Option Value} {k : IntKind} {a b : Int}, v = some (.int k a) → v = some (.int k b) → b = a := fun h1 h2 => by
  rw [h1] at h2
  injection h2 with h2
  injection h2 with _ h2
  exact h2.symm

 have hgo : ∀ (r' : Option (Nat × Nat × Nat × Nat × Nat)) (tks' : List Nat) (q' : Bun) (L' : List Blk) (vs : List Value), i < nb → i < 30 → Heap (begsW w0 (ops.take (i + 1))) st tks' q' → (r' = none → tks' = []) → (∀ tr tc kr kc m, r' = some (tr, tc, kr, kc, m) → tks'.length = m + 1) →
   [1, 2, 7, 8, 9, 11, 12, 13].zip vs = slSB gb o nb cb pv rv thing pT ⟨r', tks', i + 1, q'⟩ → Sy.Ent L' (rowsBg (begsW w0 (ops.take (i + 1))) ⟨r', tks', i + 1, q'⟩ ++ (⟨gb, opsC o ops, false⟩ :: ⟨pT, thB va vb vc vd ve, false⟩ :: q'.map ownOf)) →
   Sy.leafLB (bgCB w0 st b gb o nb cb (opsC o ops) ops pv rv thing pT va vb vc vd ve) [1, 2, 7, 8, 9, 11, 12, 13] (fun s => slSB gb o nb cb pv rv thing pT s) (fun s => memBg w0 ops gb pT o nb (opsC o ops) (thB va vb vc vd ve) s) (fun s => okBg w0 st b o nb (opsC o ops) ops thing (.agg #[va, vb, vc, vd, ve]) ∧ OkBgS w0 st ops nb 30 s) (fun s => 30 - s.i) ⟨r, tks, i, q⟩ (.normal, 122, vs, L') :=
  fun r' tks' q' L' vs hl hl2 hH' hn' hr' hs hE => ⟨rfl, .inl ⟨rfl, ⟨r', tks', i + 1, q'⟩, ⟨hok, ⟨hl, hl2⟩, hH', hn', hr'⟩, by show 30 - (i + 1) < 30 - i; omega, hs, Sy.Ent.trans hE (bg_ent _ gb pT o (min (i + 1) (nb - 1)) (thB va vb vc vd ve) ops q' (by omega))⟩⟩
 have hlast : ¬ (i < nb ∧ i < 30) → begsW w0 (ops.take i) = begsW w0 (ops.take 30) := fun h => by
  by_cases e : i = 30
  ·rw [e]
  ·rw [List.take_of_length_le (by omega), List.take_of_length_le (by omega)]
 have key : ∀ (w : WorldD) (kd v n : Int) (k : Nat), w = begsW w0 (ops.take i) → kd = (xBg ops nb i).kind → n = (xBg ops nb i).n → v = (xBg ops nb i).v → k = kindW thing kd → i < nb →
   (mayW w k n = true → begsW w0 (ops.take (i + 1)) = beginW w k v n) ∧ (mayW w k n = false → begsW w0 (ops.take (i + 1)) = w) := fun w kd v n k e0 e1 e2 e3 e4 hl => by
  subst e0 e1 e2 e3 e4
  rw [hnext hl]
  unfold begO
  rw [hwt]
  exact ⟨fun h => if_pos h, fun h => if_neg (by rw [h]; decide)⟩
 cases r with
 | none =>
   have ht := hnil rfl
   subst ht
   simp only [bgB0_R, Sy.Res.holds, hwi, natV_nat]
   rw [show (30 : Int) = Int.ofNat 30 from rfl, lt_and]
   have htn : (begsW w0 (ops.take i)).tasks = [] := List.eq_nil_of_length_eq_zero hlen.symm
   have hk0 : kindsV (begsW w0 (ops.take i)) = [] := by unfold kindsV; rw [htn]; rfl
   refine ⟨fun hl => ?_, fun hl => ?_⟩
   ·obtain ⟨hl, hl2⟩ := of_decide_eq_true hl
    refine ⟨⟨Int.natCast_nonneg i, by show (i : Int) < _; omega⟩, ⟨_, h0 hl⟩, fun g0 => ⟨hok.ht, fun _ => ⟨⟨Int.natCast_nonneg i, by show (i : Int) < _; omega⟩, ⟨_, h2 hl⟩, fun g2 => ⟨⟨Int.natCast_nonneg i, by show (i : Int) < _; omega⟩, ⟨_, h1 hl⟩, fun g1 => ?_⟩⟩⟩⟩
    have e0 := hx (h0 hl) g0
    have e1 := hx (h1 hl) g1
    have e2 := hx (h2 hl) g2
    obtain ⟨k1, k2⟩ := key _ _ _ _ _ rfl e0 e1 e2 rfl hl
    refine ⟨⟨congrArg (fun z => #[z, _, _, _]) hcs, hH, by rw [e0]; exact hkd⟩, hperm [_, _, _], fun hq _ _ => ?_, fun hq => ?_⟩
    ·obtain ⟨hq1, hq2⟩ := hq
     have kk := k1 hq1
     refine hgo (some ((ns 6).n, (ns 7).n, (ns 9).n, (ns 10).n, 0)) [(ns 4).n] (ns 3).q _ _ hl hl2 (by rw [kk]; exact hq2) (fun h => by cases h) (fun _ _ _ _ m h => by injection h with h; injection h with _ h; injection h with _ h; injection h with _ h; injection h with _ h; rw [← h]; rfl) rfl ?_
     show Sy.Ent _ (⟨_, .row tTP 1 1 _ (ptrs [(ns 4).n]), true⟩ :: ⟨_, .row tI 1 1 _ (kindsV (begsW w0 (ops.take (i + 1)))), true⟩ :: _)
     rw [kk, kinds_begin, hk0]
     exact Sy.Ent.trans (Sy.Ent.sub (.cons_cons _ (.cons _ (.cons_cons _ (.cons _ (.cons _ (List.Sublist.refl _))))))) (Sy.Ent.perm (List.Perm.swap _ _ _))
    ·obtain ⟨hq1, hq2⟩ := hq
     have kk := k2 hq1
     exact hgo none [] (ns 3).q _ _ hl hl2 (by rw [kk]; exact hq2) (fun _ => rfl) (fun _ _ _ _ m h => by cases h) rfl (Sy.Ent.sub (.cons _ (List.Sublist.refl _)))
   ·have hl := hlast (of_decide_eq_false hl)
    refine ⟨rfl, .inr ⟨by simp, _, Sy.mH, rfl, [⟨0, 0, false, undef, [], q⟩, Let.none, Let.none, Let.none, Let.none, Let.none, Let.none], rfl, ⟨[1, 2, 3, 5, 6], rfl⟩, Sy.Ent.sub (.cons _ (.cons _ (.cons _ (List.Sublist.refl _)))), ?_, ?_⟩⟩
    ·rw [← hl]
     exact htn
    ·rw [← hl]
     exact hH
 | some x =>
   obtain ⟨tr, tc, kr, kc, m⟩ := x
   have hm := hrow tr tc kr kc m rfl
   simp only [bgB1_R, Sy.Res.holds, hwi, natV_nat]
   rw [show (30 : Int) = Int.ofNat 30 from rfl, lt_and]
   refine ⟨fun hl => ?_, fun hl => ?_⟩
   ·obtain ⟨hl, hl2⟩ := of_decide_eq_true hl
    refine ⟨⟨Int.natCast_nonneg i, by show (i : Int) < _; omega⟩, ⟨_, h0 hl⟩, fun g0 => ⟨hok.ht, fun _ => ⟨⟨Int.natCast_nonneg i, by show (i : Int) < _; omega⟩, ⟨_, h2 hl⟩, fun g2 => ⟨⟨Int.natCast_nonneg i, by show (i : Int) < _; omega⟩, ⟨_, h1 hl⟩, fun g1 => ?_⟩⟩⟩⟩
    have e0 := hx (h0 hl) g0
    have e1 := hx (h1 hl) g1
    have e2 := hx (h2 hl) g2
    obtain ⟨k1, k2⟩ := key _ _ _ _ _ rfl e0 e1 e2 rfl hl
    refine ⟨⟨congrArg (fun z => #[z, _, _, _]) hcs, hH, by rw [e0]; exact hkd⟩, hperm [_, _, _, _, _], fun hq => ⟨by omega, by omega, fun _ => ⟨by omega, by omega, fun _ => ?_⟩⟩, fun hq => ?_⟩
    ·obtain ⟨hq1, hq2⟩ := hq
     have kk := k1 hq1
     refine hgo (some ((ns 6).n, (ns 7).n, (ns 9).n, (ns 10).n, m + 1)) (tks ++ [(ns 4).n]) (ns 3).q _ _ hl hl2 (by rw [kk]; exact hq2) (fun h => by cases h) (fun _ _ _ _ m' h => by injection h with h; injection h with _ h; injection h with _ h; injection h with _ h; injection h with _ h; rw [← h, List.length_append, hm]; rfl) rfl ?_
     show Sy.Ent _ (⟨_, .row tTP 1 (m + 1 + 1) _ (ptrs (tks ++ [(ns 4).n])), true⟩ :: ⟨_, .row tI 1 (m + 1 + 1) _ (kindsV (begsW w0 (ops.take (i + 1)))), true⟩ :: _)
     rw [kk, kinds_begin, ptrs_app]
     exact Sy.Ent.trans (Sy.Ent.sub (.cons_cons _ (.cons _ (.cons_cons _ (.cons _ (.cons _ (List.Sublist.refl _))))))) (Sy.Ent.perm (List.Perm.swap _ _ _))
    ·obtain ⟨hq1, hq2⟩ := hq
     have kk := k2 hq1
     refine hgo (some (tr, tc, kr, kc, m)) tks (ns 3).q _ _ hl hl2 (by rw [kk]; exact hq2) (fun h => by cases h) (fun _ _ _ _ m' h => by injection h with h; injection h with _ h; injection h with _ h; injection h with _ h; injection h with _ h; rw [← h]; exact hm) rfl ?_
     rw [kk]
     exact Sy.Ent.sub (.cons_cons _ (.cons_cons _ (.cons _ (List.Sublist.refl _))))
   ·have hl := hlast (of_decide_eq_false hl)
    refine ⟨rfl, .inr ⟨by simp, _, Sy.mC _ (Sy.mS _), rfl, [⟨0, 0, false, undef, [], q⟩, ⟨tr, 0, false, undef, [], []⟩, ⟨tc, 0, false, undef, [], []⟩, ⟨kr, 0, false, undef, [], []⟩, ⟨kc, 0, false, undef, [], []⟩, ⟨0, 0, false, undef, ptrs tks, []⟩, ⟨m, 0, false, undef, [], []⟩], rfl, ⟨[1, 2, 3, 5, 6], rfl⟩, ?_, ?_, ?_⟩⟩
    ·show Sy.Ent _ (⟨tr, .row tTP 1 (m + 1) tc (ptrs (namesOf (ptrs tks))), true⟩ :: ⟨kr, .row tI 1 (m + 1) kc (kindsV (begsW w0 (ops.take 30))), true⟩ :: q.map ownOf)
     rw [names_ptrs, ← hl]
     exact Sy.Ent.sub (.cons_cons _ (.cons_cons _ (.cons _ (.cons _ (.cons _ (List.Sublist.refl _))))))
    ·show Heap _ st (namesOf (ptrs tks)) q
     rw [names_ptrs, ← hl]
     exact hH
    ·show _ = m + 1
     rw [← hl]
     omega
end Go.Proofs.YtjohknpmhlildaaDoor.At
namespace Go.Proofs.YtjohknpmhlildaaDoor.Sy
open Go Go.RowKit
def dropB (n : Nat) (L : List Blk) : List Blk := @Nat.rec (fun _ => List Blk → List Blk) (fun l => l) (fun _ ih l => match l with
 | _ :: r => ih r
 | [] => []) n L
def takeB (n : Nat) (L : List Blk) : List Blk := @Nat.rec (fun _ => List Blk → List Blk) (fun _ => []) (fun _ ih l => match l with
 | b :: r => b :: ih r
 | [] => []) n L
def rowOf (e : TypeId) (L : List Blk) : Blk := @List.rec Blk (fun _ => Blk) ⟨0, .seg 0 [], false⟩ (fun b _ ih => match b with
 | ⟨n, .row e' z k c xs, o⟩ => match Nat.beq e' e with
   | true => ⟨n, .row e' z k c xs, o⟩
   | false => ih
 | _ => ih) L
def nmB (e : TypeId) (L : List Blk) : Nat := match rowOf e L with
 | ⟨n, _, _⟩ => n
def rowXs (e : TypeId) (L : List Blk) : List Value := match rowOf e L with
 | ⟨_, .row _ _ _ _ xs, _⟩ => xs
 | _ => []
def celB (n i : Nat) (L : List Blk) : Value := match nth L n with
 | some ⟨_, .obj (.cells c _ _), _⟩ => argV c i
 | _ => undef
end Go.Proofs.YtjohknpmhlildaaDoor.Sy
namespace Go.Proofs.YtjohknpmhlildaaDoor.At
open Go Go.RowKit
open Go.Proofs.YtjohknpmhlildaaDoor.Sy (Let Blk Cont Bun ptr ptr0 bx tkB tkU clo DoesB usedK ownOf rdsOf Rep does_frame does_perm does_mono does_all does_of S0_holds bunO)
open Go.Proofs.YtjohknpmhlildaaDoor.As
def stE (w : WorldD) (tks : List Nat) (b : Bun) : Nat := @Classical.epsilon Nat ⟨0⟩ fun st => Heap w st tks b
theorem stE_spec {w : WorldD} {st : Nat} {tks : List Nat} {b : Bun} (h : Heap w st tks b) : Heap w (stE w tks b) tks b := @Classical.epsilon_spec Nat (fun st => Heap w st tks b) ⟨st, h⟩
def kdA (w : WorldD) (n : Nat) : Nat := (w.tasks.map (·.kind)).getD n 0
theorem kinds_at {w : WorldD} {n : Nat} (h : n < w.tasks.length) : (kindsV w)[n]? = some (.int .i64 (kdA w n : Int)) := by
 unfold kindsV kdA
 rw [List.getElem?_map, List.getD_eq_getElem?_getD, List.getElem?_map, List.getElem?_eq_getElem h]
 rfl
theorem kdA_of {w : WorldD} {n : Nat} {t : TaskD} (h : w.tasks[n]? = some t) : kdA w n = t.kind := by
 unfold kdA
 rw [List.getD_eq_getElem?_getD, List.getElem?_map, h]
 rfl
end Go.Proofs.YtjohknpmhlildaaDoor.At
namespace Go.Proofs.YtjohknpmhlildaaDoor.At
open Go Go.RowKit
open Go.Proofs.YtjohknpmhlildaaDoor.Sy (Let Blk Cont Bun ptr ptr0 bx tkB tkU clo DoesB usedK ownOf rdsOf Rep does_frame does_perm does_mono does_all does_of S0_holds bunO)
open Go.Proofs.YtjohknpmhlildaaDoor.As
theorem new_all {thing room : Nat} (ht : 1 ≤ thing ∧ thing ≤ 5) (hr : 1 ≤ room ∧ room ≤ 16) : ∃ w, newW (thing : Int) (room : Int) = some w ∧ OkW w ∧ w.thing = thing ∧ w.room = room ∧ w.tasks = [] := by
 have hn : ¬ (((thing : Int) = 3 ∧ ((room : Int) < 1 ∨ 64 < (room : Int))) ∨ ((thing : Int) = 4 ∧ ((room : Int) < 1 ∨ 16 < (room : Int)))) := by omega
 obtain ⟨w, hw⟩ : ∃ w, newW (thing : Int) (room : Int) = some w := by
  unfold newW
  rw [if_neg hn]
  exact ⟨_, rfl⟩
 obtain ⟨h1, h2, h3⟩ := new_thing hw
 exact ⟨w, hw, ok_new (by omega) hw, by rw [h1]; rfl, by rw [h2]; rfl, h3⟩
theorem stepP_kinds (w : WorldD) (p : Int) : (stepP w p).tasks.map (·.kind) = w.tasks.map (·.kind) := by
 unfold stepP
 split
 ·rfl
 ·exact step_kinds _ _
theorem stepP_room (w : WorldD) (p : Int) : (stepP w p).thing = w.thing ∧ (stepP w p).room = w.room := by
 unfold stepP
 split
 ·exact ⟨rfl, rfl⟩
 ·exact step_thing _ _
theorem stepP_ok {w : WorldD} (h : OkW w) (p : Int) : OkW (stepP w p) := by
 unfold stepP
 split
 ·exact h
 ·exact ok_step h _
theorem play_kinds (P : List Int) : ∀ w : WorldD, (playW w P).tasks.map (·.kind) = w.tasks.map (·.kind) := by
 induction P with
 | nil => exact fun w => rfl
 | cons p P ih => exact fun w => (ih (stepP w p)).trans (stepP_kinds w p)
theorem play_room (P : List Int) : ∀ w : WorldD, (playW w P).thing = w.thing ∧ (playW w P).room = w.room := by
 induction P with
 | nil => exact fun w => ⟨rfl, rfl⟩
 | cons p P ih => exact fun w => ⟨(ih (stepP w p)).1.trans (stepP_room w p).1, (ih (stepP w p)).2.trans (stepP_room w p).2⟩
theorem play_ok (P : List Int) : ∀ {w : WorldD}, OkW w → OkW (playW w P) := by
 induction P with
 | nil => exact fun h => h
 | cons p P ih => exact fun h => ih (stepP_ok h p)
theorem picks_any {pv : Value} {P : List Int} {B : Bun} (h : PicksV pv P B) {gb : Nat} {C : Cont} (hd : (gb, C) ∈ B) : ∃ gp C2, (gp, C2) ∈ B ∧ ∀ B', (gp, C2) ∈ B' → PicksV pv P B' := by
 rcases h with ⟨h1, h2⟩ | ⟨gp, o, pc, C2, h1, h2, h3⟩
 ·exact ⟨gb, C, hd, fun B' _ => .inl ⟨h1, h2⟩⟩
 ·exact ⟨gp, C2, h2, fun B' h' => .inr ⟨gp, o, pc, C2, h1, h', h3⟩⟩
def OpsV (bv : Value) (ops : List OpD) (B : Bun) : Prop := (ops = [] ∧ ∃ p c, bv = .slice p 0 c) ∨ ∃ gb o cb, bv = .slice (some ⟨gb, o, none⟩) ops.length cb ∧ 0 < ops.length ∧ (gb, opsC o ops) ∈ B
theorem eqq_lit (a b : Nat) : Ex.eqQ (a : Int) (b : Int) = decide (a = b) := by
 show Nat.beq a b = _
 by_cases h : a = b
 ·rw [decide_eq_true h, h]
  exact Nat.beq_refl b
 ·rw [decide_eq_false h]
  cases e : Nat.beq a b
  ·rfl
  ·exact absurd (Nat.eq_of_beq_eq_true e) h
end Go.Proofs.YtjohknpmhlildaaDoor.At
--@tail 0
namespace Go.Proofs.YtjohknpmhlildaaDoor.At
open Sy.O (fork nil step steps)
open Sy.Res (need hyp br leaf both)
open Go Go.RowKit
open Go.Proofs.YtjohknpmhlildaaDoor.Sy (Let Blk Cont Bun ptr ptr0 bx tkB tkU clo bunO)
open Go.Proofs.YtjohknpmhlildaaDoor.As
def bodyB2 : Code := Sy.loopBody Tryd.f6 1
def slB2 (tr tc kr kc m i : Nat) : List (Nat × Value) := [(8, .int .i64 4), (11, sl tr (m + 1) tc), (12, sl kr (m + 1) kc), (18, .int .i64 (Int.ofNat i))]
def ctxB2 (b : Bun) (tr tc kr kc m n kd tk : Nat) (xs ks : List Value) (sv : Nat) : Sy.Ctx :=
 Sy.mkS [(fSteps, fun a _ => okM (rdC fSteps a b (.int .i64 (sv : Nat))))] []
  [(fAB, 108, fun F _ => ldP tI kr (.row tI 1 (m + 1) kc ks) n (.int .i64 (kd : Nat)) 107 F), (fAB, 114, fun F _ => ldP tTP tr (.row tTP 1 (m + 1) tc xs) n (ptr tk) 113 F)]
def b2_o : Sy.O := (steps [0] (fork (steps [0, 1, 0, 1, 1, 0, 0, 1] (fork (steps [0, 0, 0, 1, 0, 0, 1, 1, 0, 0, 1, 0, 0, 1, 0, 0, 1, 0, 0, 0, 0, 0] (fork nil nil)) (steps [0, 0, 0, 0, 0, 0, 0, 0, 0, 0] nil))) nil))
noncomputable def b2_R (b : Bun) (TL : List Blk) (tr tc kr kc m n kd tk : Nat) (xs ks : List Value) (sv i : Nat) (f : Nat → Value) (ns : Nat → Sy.Let) : Sy.Res (Exit × Nat × List Value × List Blk) :=
 let z0 := Int.ofNat i
 let z1 := m + 1
 let z2 := 0 ≤ Int.ofNat i ∧ Int.ofNat i < (↑z1 : Int)
 let z3 := 0 + Int.toNat z0 * 1
 let z4 := Cont.row 3 1 z1 kc ks
 let z5 := Cont.row 48 1 z1 tc xs
 let z6 := some (Addr.mk tk 0 none)
 let z7 := some (Addr.mk tr 0 none)
 let z8 := some (Addr.mk kr 0 none)
 let z9 := [Value.int .i64 4, Value.slice z7 z1 tc, Value.slice z8 z1 kc, Value.int .i64 z0]
 let z10 := [Value.int .i64 4, Value.slice z7 z1 tc, Value.slice z8 z1 kc, Value.int .i64 (Ex.wrapQ .i64 (Ex.addQ z0 1))]
 br (Ex.ltQ z0 (Int.ofNat z1)) (need z2 (need (some false = some false ∧ adrV (Value.pointer (some ⟨kr, z3, none⟩)) = Addr.mk kr n none ∧ Cont.at z4 n = some (Value.int .i64 (↑kd : Int))) (hyp True (br (Ex.eqQ (↑kd : Int) 7) (need z2 (need (some false = some false ∧ adrV (Value.pointer (some ⟨tr, z3, none⟩)) = Addr.mk tr n none ∧ Cont.at z5 n = some (Value.pointer z6)) (hyp True (need (True ∧ MeetsA (rdC 26 (Array.mk [Value.pointer z6]) b (Value.int .i64 (↑sv : Int)))) (need (Sy.GotL (Blk.mk tr z5 false :: Blk.mk kr z4 false :: TL) b) (hyp True (br (bif true then Ex.ltQ 24 (↑sv : Int) else false) (leaf (Exit.ret, 122, z9, Blk.mk tr z5 false :: Blk.mk kr z4 false :: TL)) (leaf (Exit.normal, 122, z10, Blk.mk tr z5 false :: Blk.mk kr z4 false :: TL))))))))) (leaf (Exit.normal, 122, z10, Blk.mk kr z4 false :: Blk.mk tr z5 false :: TL)))))) (leaf (Exit.exit 2, 122, z9, Blk.mk tr z5 false :: Blk.mk kr z4 false :: TL))
theorem b2_run (b : Bun) (TL : List Blk) (tr tc kr kc m n kd tk : Nat) (xs ks : List Value) (sv i : Nat) (f : Nat → Value) : Sy.Ran (Sy.pieceT Tryd.prog (ctxB2 b tr tc kr kc m n kd tk xs ks sv) 50 fAB bodyB2 122 (slB2 tr tc kr kc m i) ((List.range 122).map f) (⟨tr, .row tTP 1 (m + 1) tc xs, false⟩ :: ⟨kr, .row tI 1 (m + 1) kc ks, false⟩ :: TL) [8, 11, 12, 18]) b2_o (b2_R b TL tr tc kr kc m n kd tk xs ks sv i f) := ⟨fun _ => by kernel_rfl, fun _ => by kernel_rfl⟩
def b2n_o : Sy.O := (steps [0, 0] nil)
noncomputable def b2n_R (TL : List Blk) (f : Nat → Value) (ns : Nat → Sy.Let) : Sy.Res (Exit × Nat × List Value × List Blk) :=
 leaf (Exit.exit 2, 122, [Value.int .i64 4, Value.slice none 0 0, Value.slice none 0 0, Value.int .i64 0], TL)
theorem b2n_run (TL : List Blk) (f : Nat → Value) : Sy.Ran (Sy.pieceT Tryd.prog Sy.S0 50 fAB bodyB2 122 [(8, .int .i64 4), (11, nil0), (12, nil0), (18, .int .i64 0)] ((List.range 122).map f) TL [8, 11, 12, 18]) b2n_o (b2n_R TL f) := ⟨fun _ => by kernel_rfl, fun _ => by kernel_rfl⟩
end Go.Proofs.YtjohknpmhlildaaDoor.At
namespace Go.Proofs.YtjohknpmhlildaaDoor.Sy
open Go Go.RowKit
def kB (k : Nat) (v : Value) : Nat := match v with
 | .slice none _ _ => k
 | _ => 5
def xsB (v : Value) (L : List Blk) : List Value := match v with
 | .slice none _ _ => []
 | _ => rowXs 48 L
end Go.Proofs.YtjohknpmhlildaaDoor.Sy
namespace Go.Proofs.YtjohknpmhlildaaDoor.At
open Go Go.RowKit
open Go.Proofs.YtjohknpmhlildaaDoor.Sy (Let Blk Cont Bun ptr ptr0 bx tkB tkU clo DoesB usedK ownOf rdsOf Rep does_frame does_perm does_mono does_all does_of S0_holds bunO)
open Go.Proofs.YtjohknpmhlildaaDoor.As
structure okB2 (w : WorldD) (st : Nat) (tks : List Nat) (b : Bun) (m : Nat) (xs ks : List Value) : Prop where
 heap : Heap w st tks b
 len : tks.length = m + 1
 m30 : m ≤ 30
 xs : xs = ptrs tks
 ks : ks = kindsV w
 law : ∀ t ∈ w.tasks, t.kind = 7 → t.steps ≤ 24
def b2C (w : WorldD) (st : Nat) (tks : List Nat) (b : Bun) (tr tc kr kc m : Nat) (xs ks : List Value) : Sy.LoopC :=
 ⟨.loop bodyB2, 122, slB2 tr tc kr kc m 0, okB2 w st tks b m xs ks, ⟨[(tr, .row tTP 1 (m + 1) tc xs), (kr, .row tI 1 (m + 1) kc ks)], [], 0, b⟩, [(⟨fun _ => True, fun _ => [], fun _ => []⟩, .exit 2, fun _ => [])]⟩
theorem ctxB2_holds (b : Bun) (tr tc kr kc m n kd tk : Nat) (xs ks : List Value) (sv : Nat) : (ctxB2 b tr tc kr kc m n kd tk xs ks sv).holds Tryd.prog := Sy.mkS_holds (fun p hp a L => by
 rcases List.mem_singleton.1 hp with rfl
 exact okM_met _) (fun _ h => (by cases h)) (fun p hp a L => by
 rcases List.mem_cons.1 hp with rfl | hp
 ·exact ldP_met _ _ _ _ _ _ _
 ·rcases List.mem_singleton.1 hp with rfl
  exact ldP_met _ _ _ _ _ _ _)
def stepsA (w : WorldD) (n : Nat) : Nat := (w.tasks.getD n tk0).steps
theorem b2C_met (w : WorldD) (st : Nat) (tks : List Nat) (b : Bun) (tr tc kr kc m : Nat) (xs ks : List Value) : Sy.MeetsL Tryd.prog (b2C w st tks b tr tc kr kc m xs ks) := by
 refine Sy.loop_ofB (σ := Nat) (S := fun i => ctxB2 b tr tc kr kc m i (kdA w i) (tks.getD i 0) xs ks (stepsA w i)) (n := 50) (fn := fAB) (fun _ => ctxB2_holds _ _ _ _ _ _ _ _ _ _ _ _) mixed (body := bodyB2) rfl [8, 11, 12, 18]
  (fun i => slB2 tr tc kr kc m i) (fun _ => ⟨tr, .row tTP 1 (m + 1) tc xs, false⟩ :: ⟨kr, .row tI 1 (m + 1) kc ks, false⟩ :: rdsOf b) (fun i => okB2 w st tks b m xs ks ∧ i ≤ m + 1) (fun i => m + 1 - i)
  0 (fun h => ⟨h, Nat.zero_le _⟩) (fun p hp => hp) (Sy.Ent.refl _)
  (o := fun _ => b2_o) (R := fun i f => b2_R b (rdsOf b) tr tc kr kc m i (kdA w i) (tks.getD i 0) xs ks (stepsA w i) i f)
  (fun i f _ => b2_run b (rdsOf b) tr tc kr kc m i (kdA w i) (tks.getD i 0) xs ks (stepsA w i) i f) ?_
 rintro - i f ⟨hok, hi⟩ ns
 have hlen := hok.len
 have hwl := (heap_task hok.heap).1
 have hm := hok.m30
 have hwi : Ex.wrapQ .i64 (Ex.addQ (Int.ofNat i) 1) = Int.ofNat (i + 1) := stp_nat (k := i) (by omega)
 have hgo : ∀ (L : List Blk), i < m + 1 → Sy.Ent L (⟨tr, .row tTP 1 (m + 1) tc xs, false⟩ :: ⟨kr, .row tI 1 (m + 1) kc ks, false⟩ :: rdsOf b) → Sy.leafLB (b2C w st tks b tr tc kr kc m xs ks) [8, 11, 12, 18] (fun i => slB2 tr tc kr kc m i) (fun _ => ⟨tr, .row tTP 1 (m + 1) tc xs, false⟩ :: ⟨kr, .row tI 1 (m + 1) kc ks, false⟩ :: rdsOf b) (fun i => okB2 w st tks b m xs ks ∧ i ≤ m + 1) (fun i => m + 1 - i) i
   (.normal, 122, [.int .i64 4, .slice (some ⟨tr, 0, none⟩) (m + 1) tc, .slice (some ⟨kr, 0, none⟩) (m + 1) kc, .int .i64 (Int.ofNat (i + 1))], L) := fun L hl hE => ⟨rfl, .inl ⟨rfl, i + 1, ⟨hok, hl⟩, by show m + 1 - (i + 1) < m + 1 - i; omega, rfl, hE⟩⟩
 simp only [b2_R, Sy.Res.holds, hwi]
 refine ⟨fun hl => ?_, fun hl => ?_⟩
 ·have hl : i < m + 1 := by rw [ltq_nat] at hl; exact of_decide_eq_true hl
  have hidx : (0 : Int) ≤ Int.ofNat i ∧ Int.ofNat i < ((m + 1 : Nat) : Int) := ⟨Int.natCast_nonneg i, by show (i : Int) < _; omega⟩
  have hadr : ∀ g, adrV (.pointer (some ⟨g, 0 + Int.toNat (Int.ofNat i) * 1, none⟩)) = ⟨g, i, none⟩ := fun g => by simp [adrV]
  obtain ⟨t, ht⟩ : ∃ t, w.tasks[i]? = some t := ⟨_, List.getElem?_eq_getElem (by omega)⟩
  have htk : tks[i]? = some (tks.getD i 0) := by
   rw [List.getD_eq_getElem?_getD, List.getElem?_eq_getElem (by omega)]
   rfl
  have hs : stepsA w i = t.steps := by
   unfold stepsA
   rw [List.getD_eq_getElem?_getD, ht]
   rfl
  have hk : (Cont.row 3 1 (m + 1) kc ks).at i = some (.int .i64 (kdA w i : Nat)) := by
   rw [hok.ks]
   exact kinds_at (by omega)
  have hT : (Cont.row 48 1 (m + 1) tc xs).at i = some (ptr (tks.getD i 0)) := by
   rw [hok.xs]
   exact ptrs_at (by omega)
  refine ⟨hidx, ⟨trivial, hadr kr, hk⟩, fun _ => ⟨fun h7 => ⟨hidx, ⟨trivial, hadr tr, hT⟩, fun _ => ⟨⟨trivial, ?_⟩, fun p hp => ⟨⟨p.1, p.2, false⟩, Sy.mC _ (Sy.mC _ (List.mem_map.2 ⟨p, hp, rfl⟩)), rfl, fun _ h => h⟩, fun _ => ⟨fun hgt => ?_, fun _ => hgo _ hl (Sy.Ent.refl _)⟩⟩⟩, fun _ => hgo _ hl (Sy.Ent.perm (List.Perm.swap _ _ _))⟩⟩
  ·rw [hs]
   exact look_read hok.heap ht htk (V := fun d => .int .i64 (d.steps : Int)) steps_read
  ·exfalso
   have h7 : kdA w i = 7 := by
    have h7' := (eqq_lit (kdA w i) 7).symm.trans h7
    exact of_decide_eq_true h7'
   rw [kdA_of ht] at h7
   have hle := hok.law t (List.mem_of_getElem? ht) h7
   have hgt : Ex.ltQ (Int.ofNat 24) (Int.ofNat (stepsA w i)) = true := hgt
   rw [ltq_nat] at hgt
   have := of_decide_eq_true hgt
   omega
 ·exact ⟨rfl, .inr ⟨by simp, _, Sy.mS _, rfl, [], rfl, ⟨[], rfl⟩, Sy.Ent.sub (List.nil_sublist _), trivial⟩⟩
def b2N : Sy.LoopC := ⟨.loop bodyB2, 122, [(8, .int .i64 4), (11, nil0), (12, nil0), (18, .int .i64 0)], True, ⟨[], [], 0, []⟩, [(⟨fun _ => True, fun _ => [], fun _ => []⟩, .exit 2, fun _ => [])]⟩
theorem b2N_met : Sy.MeetsL Tryd.prog b2N := by
 refine Sy.loop_ofB (σ := Unit) (S := fun _ => Sy.S0) (n := 50) (fn := fAB) (fun _ => S0_holds) mixed (body := bodyB2) rfl [8, 11, 12, 18]
  (fun _ => [(8, .int .i64 4), (11, nil0), (12, nil0), (18, .int .i64 0)]) (fun _ => []) (fun _ => True) (fun _ => 0)
  () (fun _ => trivial) (fun p hp => hp) (Sy.Ent.refl _)
  (o := fun _ => b2n_o) (R := fun _ f => b2n_R [] f) (fun _ f _ => b2n_run [] f) ?_
 rintro - ⟨⟩ f - ns
 simp only [b2n_R, Sy.Res.holds]
 exact ⟨rfl, .inr ⟨by simp, _, Sy.mS _, rfl, [], rfl, ⟨[], rfl⟩, Sy.Ent.refl _, trivial⟩⟩
end Go.Proofs.YtjohknpmhlildaaDoor.At
--@tail 00
namespace Go.Proofs.YtjohknpmhlildaaDoor.At
open Sy.O (fork nil step steps)
open Sy.Res (need hyp br leaf both)
open Go Go.RowKit
open Go.Proofs.YtjohknpmhlildaaDoor.Sy (Let Blk Cont Bun ptr ptr0 bx tkB tkU clo bunO)
open Go.Proofs.YtjohknpmhlildaaDoor.As
def bbgC (W0 : WorldD) (ops : List OpD) (gb o nb cb : Nat) (C : Cont) (pv : Value) (t : Int) (F : Sy.F) (L : List Blk) : Sy.LoopC :=
 bgCB W0 (stV (fitN t) (.agg #[Sy.celB 0 0 L, Sy.celB 0 1 L, Sy.celB 0 2 L, Sy.celB 0 3 L, Sy.celB 0 4 L])) (allB (Sy.dropB 3 L)) gb o nb cb C ops pv (intV (F.get 8)) (fitN t) (Sy.ptrN (F.get 9)) (Sy.celB 0 0 L) (Sy.celB 0 1 L) (Sy.celB 0 2 L) (Sy.celB 0 3 L) (Sy.celB 0 4 L)
def b2D (WP : WorldD) (F : Sy.F) (L : List Blk) : Sy.LoopC :=
 b2C WP (stE WP (namesOf (Sy.rowXs tTP L)) (allB (Sy.dropB 5 L))) (namesOf (Sy.rowXs tTP L)) (allB (Sy.dropB 5 L)) (Sy.nmB tTP L) (Sy.capN (F.get 11)) (Sy.nmB tI L) (Sy.capN (F.get 12)) (Nat.pred (Sy.lenS (F.get 11))) (Sy.rowXs tTP L) (Sy.rowXs tI L)
def ctxAB (W0 WL WP : WorldD) (ops : List OpD) (gb o nb cb : Nat) (C : Cont) (pv : Value) (P : List Int) (t : Int) (kN : Nat) : Sy.Ctx :=
 Sy.mkU (Sy.mkS [(fAwake, fun _ _ => awC), (fFit, fun _ _ => fitC t), (fMade, fun a _ => atC (madeD (fitN t) 4 W0) a), (fThere, fun a _ => atC (thereC (fitN t) (stV (fitN t) (Sy.argV a 0))) a)]
   [(fAB, fun F L => b2D WP F L), (fAB, fun _ _ => b2N)] [])
  [(fPlay, fun a L => (playC WL (stE WL (namesOf (Sy.xsB (Sy.argV a 0) L)) (allB (Sy.dropB (Sy.kB kN (Sy.argV a 0)) L))) (namesOf (Sy.xsB (Sy.argV a 0) L)) (allB (Sy.dropB (Sy.kB kN (Sy.argV a 0)) L)) (Sy.argV a 0) (Sy.argV a 1) P (allB (Sy.takeB (Sy.kB kN (Sy.argV a 0)) L))).toU [] (allB (Sy.dropB (Sy.kB kN (Sy.argV a 0)) L)) (Sy.takeB (Sy.kB kN (Sy.argV a 0)) L))]
  [(fAB, fun F L => (bbgC W0 ops gb o nb cb C pv t F L).toU [] (allB (Sy.dropB 3 L)) (Sy.takeB 1 (Sy.dropB 2 L)))]
def ab_o : Sy.O := (steps [0, 0, 0, 0, 0, 0, 0, 0, 0, 0, 2, 0, 0, 1, 1, 0, 0, 1, 0, 0, 0, 0, 0, 0, 0, 0, 0, 1, 0, 0, 0, 1, 1, 0, 1, 0, 0] (fork (steps [1, 0, 0, 1, 0, 1, 1, 1, 0, 0] (fork nil (steps [1, 1, 0, 0, 1] nil))) (steps [1, 0, 0, 1, 0, 1, 1, 1, 0, 0] (fork nil (steps [1, 0, 0, 1, 0, 1, 1, 0, 0, 1] nil)))))
noncomputable def ab_R (W0 WL WP : WorldD) (ops : List OpD) (gb o nb cb : Nat) (xs : List Value) (gp : Nat) (C2 : Cont) (pv : Value) (P : List Int) (t : Int) (ns : Nat → Sy.Let) : Sy.Res (Value × List Blk) :=
 let z0 := fitN t
 let z1 := [Value.int .i64 (↑z0 : Int), Value.int .i64 4]
 let z2 := ns 1
 let z3 := Let.q (ns 0)
 let z4 := Array.mk [tvI 1 z0 z2.n, tvI 2 z0 z2.n, tvI 3 z0 z2.n, tvI 4 z0 z2.n, tvI 5 z0 z2.n]
 let z5 := stV z0 (Value.agg z4)
 let z6 := fun (p : Nat × Cont) => Blk.mk (Prod.fst p) (Prod.snd p) true
 let z7 := allB (List.map z6 z3)
 let z8 := Cont.seg o xs
 let z9 := begsW W0 (List.take 30 ops)
 let z10 := Let.q (ns 3)
 let z11 := namesOf []
 let z12 := allB (List.map z6 z10)
 let z13 := ns 2
 let z14 := Cont.obj (Obj.cells z4 31)
 let z15 := [Blk.mk gb z8 false, Blk.mk z13.n z14 true, Blk.mk gp C2 false]
 let z16 := playW WL P
 let z17 := Let.q (ns 11)
 let z18 := Int.ofNat (ns 12).n
 let z19 := ptrs (namesOf (ns 8).l)
 let z20 := namesOf z19
 let z21 := ns 4
 let z22 := (ns 9).n + 1
 let z23 := Cont.row 48 1 z22 (ns 5).n z19
 let z24 := ns 6
 let z25 := kindsV z9
 let z26 := Cont.row 3 1 z22 (ns 7).n z25
 let z27 := [Blk.mk z21.n z23 true, Blk.mk z24.n z26 true, Blk.mk gb z8 false, Blk.mk z13.n z14 true, Blk.mk gp C2 false]
 let z28 := allB (List.map z6 z17)
 need True (hyp True (need True (hyp True (need (Array.mk z1 = Array.mk z1 ∧ okMade z0 4 W0) (hyp (WorldD.thing W0 = 3 ∧ HeapL W0 z2.n [] z3 ∨ ∃ (b0 : List (Nat × Cont)), List.Perm z3 (b0.append [(0, Cont.row 175 1 64 64 tabV)]) ∧ HeapX W0 z2.n [] b0) (need ((5 : Nat) = 5 ∧ (5 : Nat) = 5 ∧ Array.all z4 (fun (x : Value) => Value.oneCell' x) 0 5 = true) (need (Array.mk [Value.agg z4, Value.int .i64 (↑z0 : Int)] = Array.mk [thV4 z0 z5, Value.int .i64 (↑z0 : Int)] ∧ 1 ≤ fitN t ∧ fitN t ≤ 5) (hyp True (need (okBg W0 z5 z7 o nb z8 ops z0 (Value.agg z4)) (need (List.Perm (Blk.mk gp C2 false :: List.map z6 z3) ((List.map z6 z7).append [Blk.mk gp C2 false])) (both (hyp (WorldD.tasks z9 = [] ∧ Heap z9 z5 [] z10) (need (okPlay WL (stE WL z11 z12) z11 z12 (Value.slice none 0 0) pv P (allB z15)) (need (List.Perm (Blk.mk gb z8 false :: Blk.mk z13.n z14 true :: Blk.mk gp C2 false :: List.map z6 z10) ((List.map z6 z12).append z15)) (need (Sy.GotL z15 (Sy.MemC.rb (Sy.MemC.mk [] z12 2 (allB z15)))) (hyp (Heap z16 (stE WL z11 z12) z11 z17 ∧ sumW z16 = sumW WL + (ns 12).n) (br (bif bif Ex.eqQ (↑z0 : Int) 1 then true else Ex.eqQ (↑z0 : Int) 3 then Ex.ltQ 0 z18 else false) (leaf (Value.bool false, Blk.mk gb z8 false :: Blk.mk z13.n z14 true :: Blk.mk gp C2 false :: List.map z6 z17)) (need True (hyp True (leaf (Value.bool true, Blk.mk gb z8 false :: Blk.mk z13.n z14 true :: Blk.mk gp C2 false :: List.map z6 z17)))))))))) (hyp (Heap z9 z5 (namesOf (ns 8).l) z10 ∧ List.length (WorldD.tasks z9) = (ns
 9).n + 1) (need (okPlay WL (stE WL z20 z12) z20 z12 (Value.slice (some (Addr.mk z21.n 0 none)) z22 (ns 5).n) pv P (allB z27)) (need (List.Perm (Blk.mk z21.n z23 true :: Blk.mk z24.n z26 true :: Blk.mk gb z8 false :: Blk.mk z13.n z14 true :: Blk.mk gp C2 false :: List.map z6 z10) ((List.map z6 z12).append z27)) (need (Sy.GotL z27 (Sy.MemC.rb (Sy.MemC.mk [] z12 2 (allB z27)))) (hyp (Heap z16 (stE WL z20 z12) z20 z17 ∧ sumW z16 = sumW WL + (ns 12).n) (br (bif bif Ex.eqQ (↑z0 : Int) 1 then true else Ex.eqQ (↑z0 : Int) 3 then Ex.ltQ (Ex.wrapQ .i64 (Ex.mulQ (Ex.wrapQ .i64 (Ex.mulQ 2 (Int.ofNat z22))) (Int.ofNat z22))) z18 else false) (leaf (Value.bool false, Blk.mk z21.n z23 true :: Blk.mk z24.n z26 true :: Blk.mk gb z8 false :: Blk.mk z13.n z14 true :: Blk.mk gp C2 false :: List.map z6 z17)) (need (okB2 WP (stE WP z20 z28) z20 z28 (ns 9).n z19 z25) (need (Sy.GotL (Blk.mk z21.n z23 true :: Blk.mk z24.n z26 true :: Blk.mk gb z8 false :: Blk.mk z13.n z14 true :: Blk.mk gp C2 false :: List.map z6 z17) (Sy.MemC.rb (Sy.MemC.mk [(z21.n, Cont.row 48 1 z22 (ns 5).n z19), (z24.n, Cont.row 3 1 z22 (ns 7).n z25)] [] 0 z28))) (hyp True (leaf (Value.bool true, Blk.mk z21.n z23 true :: Blk.mk z24.n z26 true :: Blk.mk gb z8 false :: Blk.mk z13.n z14 true :: Blk.mk gp C2 false :: List.map z6 z17))))))))))))))))))))))
theorem ab_run (W0 WL WP : WorldD) (ops : List OpD) (gb o nb cb : Nat) (xs : List Value) (gp : Nat) (C2 : Cont) (pv : Value) (P : List Int) (t : Int) : Sy.Ran (Sy.inB Tryd.prog (ctxAB W0 WL WP ops gb o nb cb (.seg o xs) pv P t 3) 50 fAB #[.int .i64 t, .slice (some ⟨gb, o, none⟩) nb cb, pv] (⟨gb, .seg o xs, false⟩ :: ⟨gp, C2, false⟩ :: [Sy.ownOf tabB])) ab_o (ab_R W0 WL WP ops gb o nb cb xs gp C2 pv P t) := ⟨fun _ => by kernel_rfl, fun _ => by kernel_rfl⟩
def abE_o : Sy.O := (steps [0, 0, 0, 0, 0, 0, 0, 0, 0, 0, 1, 0, 0, 1, 1, 0, 0, 1, 0, 0, 0, 0, 0, 0, 0, 0, 0, 1, 0, 0, 1, 2, 0, 0, 0, 0, 0, 0, 0, 0, 1, 0, 1, 1, 1, 0, 0] (fork nil (steps [1, 1, 0, 0, 1] nil)))
noncomputable def abE_R (W0 WL WP : WorldD) (p : Option Addr) (cb gp : Nat) (C2 : Cont) (pv : Value) (P : List Int) (t : Int) (ns : Nat → Sy.Let) : Sy.Res (Value × List Blk) :=
 let z0 := fitN t
 let z1 := [Value.int .i64 (↑z0 : Int), Value.int .i64 4]
 let z2 := ns 1
 let z3 := Let.q (ns 0)
 let z4 := Array.mk [tvI 1 z0 z2.n, tvI 2 z0 z2.n, tvI 3 z0 z2.n, tvI 4 z0 z2.n, tvI 5 z0 z2.n]
 let z5 := namesOf []
 let z6 := fun (p : Nat × Cont) => Blk.mk (Prod.fst p) (Prod.snd p) true
 let z7 := allB (List.map z6 z3)
 let z8 := Cont.obj (Obj.cells z4 31)
 let z9 := [Blk.mk (ns 2).n z8 true, Blk.mk gp C2 false]
 let z10 := Let.q (ns 3)
 need True (hyp True (need True (hyp True (need (Array.mk z1 = Array.mk z1 ∧ okMade z0 4 W0) (hyp (WorldD.thing W0 = 3 ∧ HeapL W0 z2.n [] z3 ∨ ∃ (b0 : List (Nat × Cont)), List.Perm z3 (b0.append [(0, Cont.row 175 1 64 64 tabV)]) ∧ HeapX W0 z2.n [] b0) (need ((5 : Nat) = 5 ∧ (5 : Nat) = 5 ∧ Array.all z4 (fun (x : Value) => Value.oneCell' x) 0 5 = true) (need (Array.mk [Value.agg z4, Value.int .i64 (↑z0 : Int)] = Array.mk [thV4 z0 (stV z0 (Value.agg z4)), Value.int .i64 (↑z0 : Int)] ∧ 1 ≤ fitN t ∧ fitN t ≤ 5) (hyp True (need (okPlay WL (stE WL z5 z7) z5 z7 (Value.slice none 0 0) pv P (allB z9)) (need (List.Perm (Blk.mk (ns 2).n z8 true :: Blk.mk gp C2 false :: List.map z6 z3) ((List.map z6 z7).append z9)) (need (Sy.GotL z9 (Sy.MemC.rb (Sy.MemC.mk [] z7 2 (allB z9)))) (hyp (Heap (playW WL P) (stE WL z5 z7) z5 z10 ∧ sumW (playW WL P) = sumW WL + (ns 4).n) (br (bif bif Ex.eqQ (↑z0 : Int) 1 then true else Ex.eqQ (↑z0 : Int) 3 then Ex.ltQ 0 (Int.ofNat (ns 4).n) else false) (leaf (Value.bool false, Blk.mk (ns 2).n z8 true :: Blk.mk gp C2 false :: List.map z6 z10)) (need True (hyp True (leaf (Value.bool true, Blk.mk (ns 2).n z8 true :: Blk.mk gp C2 false :: List.map z6 z10)))))))))))))))))
theorem abE_run (W0 WL WP : WorldD) (p : Option Addr) (cb : Nat) (gp : Nat) (C2 : Cont) (pv : Value) (P : List Int) (t : Int) : Sy.Ran (Sy.inB Tryd.prog (ctxAB W0 WL WP [] 0 0 0 0 (.seg 0 []) pv P t 2) 50 fAB #[.int .i64 t, .slice p 0 cb, pv] (⟨gp, C2, false⟩ :: [Sy.ownOf tabB])) abE_o (abE_R W0 WL WP p cb gp C2 pv P t) := ⟨fun _ => by kernel_rfl, fun _ => by kernel_rfl⟩
def abF_o : Sy.O := (steps [0, 0, 0, 0, 0, 0, 0, 0, 0, 0, 0, 0, 0, 1, 1, 0, 0, 1, 0, 0, 0, 0, 0, 0, 0, 0, 0, 1, 0, 0, 1, 2, 0, 0, 0, 0, 0, 0, 0, 0, 1, 0, 1, 1, 1, 0, 0] (fork nil (steps [1, 1, 0, 0, 1] nil)))
noncomputable def abF_R (W0 WL WP : WorldD) (p : Option Addr) (cb : Nat) (pv : Value) (P : List Int) (t : Int) (ns : Nat → Sy.Let) : Sy.Res (Value × List Blk) :=
 let z0 := fitN t
 let z1 := [Value.int .i64 (↑z0 : Int), Value.int .i64 4]
 let z2 := ns 1
 let z3 := Let.q (ns 0)
 let z4 := Array.mk [tvI 1 z0 z2.n, tvI 2 z0 z2.n, tvI 3 z0 z2.n, tvI 4 z0 z2.n, tvI 5 z0 z2.n]
 let z5 := namesOf []
 let z6 := fun (p : Nat × Cont) => Blk.mk (Prod.fst p) (Prod.snd p) true
 let z7 := [] ++ ([] ++ List.map z6 z3)
 let z8 := allB z7
 let z9 := Cont.obj (Obj.cells z4 31)
 let z10 := [Blk.mk (ns 2).n z9 true]
 let z11 := Let.q (ns 3)
 need True (hyp True (need True (hyp True (need (Array.mk z1 = Array.mk z1 ∧ okMade z0 4 W0) (hyp (WorldD.thing W0 = 3 ∧ HeapL W0 z2.n [] z3 ∨ ∃ (b0 : List (Nat × Cont)), List.Perm z3 (b0.append [(0, Cont.row 175 1 64 64 tabV)]) ∧ HeapX W0 z2.n [] b0) (need ((5 : Nat) = 5 ∧ (5 : Nat) = 5 ∧ Array.all z4 (fun (x : Value) => Value.oneCell' x) 0 5 = true) (need (Array.mk [Value.agg z4, Value.int .i64 (↑z0 : Int)] = Array.mk [thV4 z0 (stV z0 (Value.agg z4)), Value.int .i64 (↑z0 : Int)] ∧ 1 ≤ fitN t ∧ fitN t ≤ 5) (hyp True (need (okPlay WL (stE WL z5 z8) z5 z8 (Value.slice none 0 0) pv P (allB z10)) (need (List.Perm (Blk.mk (ns 2).n z9 true :: z7) ((List.map z6 z8).append z10)) (need (Sy.GotL z10 (Sy.MemC.rb (Sy.MemC.mk [] z8 2 (allB z10)))) (hyp (Heap (playW WL P) (stE WL z5 z8) z5 z11 ∧ sumW (playW WL P) = sumW WL + (ns 4).n) (br (bif bif Ex.eqQ (↑z0 : Int) 1 then true else Ex.eqQ (↑z0 : Int) 3 then Ex.ltQ 0 (Int.ofNat (ns 4).n) else false) (leaf (Value.bool false, Blk.mk (ns 2).n z9 true :: List.map z6 z11)) (need True (hyp True (leaf (Value.bool true, Blk.mk (ns 2).n z9 true :: List.map z6 z11)))))))))))))))))
theorem abF_run (W0 WL WP : WorldD) (p : Option Addr) (cb : Nat) (pv : Value) (P : List Int) (t : Int) : Sy.Ran (Sy.inB Tryd.prog (ctxAB W0 WL WP [] 0 0 0 0 (.seg 0 []) pv P t 1) 50 fAB #[.int .i64 t, .slice p 0 cb, pv] [Sy.ownOf tabB]) abF_o (abF_R W0 WL WP p cb pv P t) := ⟨fun _ => by kernel_rfl, fun _ => by kernel_rfl⟩
end Go.Proofs.YtjohknpmhlildaaDoor.At
namespace Go.Proofs.YtjohknpmhlildaaDoor.At
open Go Go.RowKit
open Go.Proofs.YtjohknpmhlildaaDoor.Sy (Let Blk Cont Bun ptr ptr0 bx tkB tkU clo DoesB usedK ownOf rdsOf Rep does_frame does_perm does_mono does_all does_of S0_holds bunO)
open Go.Proofs.YtjohknpmhlildaaDoor.As
structure okLaw (bv pv : Value) (ops : List OpD) (P : List Int) (B : Bun) : Prop where
 bv : OpsV bv ops B
 pv : PicksV pv P B
 lt : P.length < 1152921504606846976
theorem tv_one (i thing st : Nat) : (tvI i thing st).oneCell' = true := by
 unfold tvI
 split <;> rfl
theorem hB (q : Bun) : allB (List.map (fun p : Nat × Cont => (⟨p.1, p.2, true⟩ : Blk)) q) = q := allB_own q
theorem got_allB (L : List Blk) : Sy.GotL L (allB L) := fun p hp => by
 rw [allB_eq] at hp
 obtain ⟨b, hb, rfl⟩ := List.mem_map.1 hp
 exact ⟨b, hb, rfl, fun _ h => h⟩
theorem got5 (a b c d e : Blk) (q : Bun) : Sy.GotL (a :: b :: c :: d :: e :: List.map (fun p : Nat × Cont => (⟨p.1, p.2, true⟩ : Blk)) q) q := fun p hp =>
 ⟨ownOf p, Sy.mC _ (Sy.mC _ (Sy.mC _ (Sy.mC _ (Sy.mC _ (List.mem_map.2 ⟨p, hp, rfl⟩))))), rfl, fun _ h => h⟩
end Go.Proofs.YtjohknpmhlildaaDoor.At
namespace Go.Proofs.YtjohknpmhlildaaDoor
open Go.RowKit Go.WideShapes Go.ChangeShapes
section
variable {H : Type} {enc : TypeId × Value → H} {P : Program}
theorem post_of_below {f : Func} {s : ChangeSpec} {apart fresh handsOn again : Bool} {W W' : World} {args : Array Value} {v : Value} {ds gs : List (DataW H)} {before pa pv : List MemPlace}
  (hW : DataW.Whole enc P f.params.toList s.vars apart W args.toList ds gs before)
  (hres : ∀ (b : Nat) (sp : Nat → Bool) (hd : Bool), DataW.TrodAll enc P W' b sp hd f.resultTypes.toList (v.resultList f.resultTypes.size) (s.fn H (ds ++ gs)).results [])
  (hargs : ∀ sp : Nat → Bool, (∀ p ∈ before, sp p.block = true) → DataW.TrodAll enc P W' 0 sp true f.params.toList args.toList (s.fn H (ds ++ gs)).args pa)
  (hvars : ∀ sp : Nat → Bool, (∀ p ∈ before, sp p.block = true) → DataW.TrodVars enc P W' sp s.vars (s.fn H (ds ++ gs)).vars pv)
  (hps : before = pa ++ pv) (hb : Below W.heap.size W W')
  (hok : ∀ (j : Nat) (t : TypeId) (r : Value), f.resultTypes[j]? = some t → (v.resultList f.resultTypes.size)[j]? = some r → Value.okWide P W' .any 0 t r) :
  s.post enc P f apart fresh handsOn again W args v W' := by
 have hlt : ∀ p ∈ before, p.block < W.heap.size := fun p hp => hW.lt p hp
 have hold : ∀ p ∈ before, (fun b => decide (b < W.heap.size)) p.block = true := fun p hp => by simpa using hlt p hp
 refine ⟨ds, gs, before, [], pa, pv, hW, hres _ _ _, hargs _ hold, hvars _ hold, World.keptBut_mono (fun p hp => ⟨hp, ?_⟩) (hb.frame (· ∈ before)), fun _ => ?_⟩
 ·rw [hps, List.mem_append] at hp
  exact Or.inr hp
 ·obtain ⟨_, _, _, _, _, hz, hn⟩ := hW
  refine ⟨hok, _, _, ([] ++ pa) ++ pv, ⟨[] ++ pa, pv, trodAll_append (hargs _ (fun _ _ => rfl)) (hres _ _ _), hvars _ (fun _ _ => rfl), rfl, ?_, ?_⟩, ?_⟩
  ·intro b off hp
   have hin : MemPlace.cell b off ∈ before := by rw [hps]; simpa using hp
   rw [hb.frozen (hlt _ hin)]
   exact hz b off hin
  ·intro ha
   have := hn ha
   rw [hps] at this
   simpa using this
  ·intro p hp _
   rw [hps]
   simpa using hp
end
end Go.Proofs.YtjohknpmhlildaaDoor
namespace Go.Proofs.YtjohknpmhlildaaDoor
open Go Go.Joins Go.ChangeShapes Go.WideShapes Go.RowKit Go.Deep
open Sy (Cont)
theorem own : ownKnob Tryd.prog.godebug = none := by kernel_rfl
theorem laidOut : laidOutB Tryd.prog = true := by kernel_rfl
theorem spot_of {w : World} {a : Addr} {u : Value} (h : w.cell? a = some u) : a.spot = none ∧ ∃ c t f, w.heap[a.block]? = some (.cells c t f) ∧ c[a.off]? = some u := by
 unfold World.cell? at h
 split at h
 ·rename_i c t f hh
  split at h
  ·cases h
  ·rename_i hs
   exact ⟨by simpa using hs, c, t, f, hh, h⟩
 ·cases h
theorem seg_of {w : World} {a : Addr} {xs : List Value} (h0 : 0 < xs.length) (hc : ∀ j u, xs[j]? = some u → w.cell? (a.add j) = some u) : a.spot = none ∧ (Cont.seg a.off xs).sat w.heap[a.block]? := by
 have h1 := hc 0 _ (List.getElem?_eq_getElem h0)
 obtain ⟨hs, c, t, f, hh, -⟩ := spot_of (by simpa [Addr.add] using h1)
 refine ⟨hs, c, t, f, hh, fun j u hu => ?_⟩
 obtain ⟨b, o, s⟩ := a
 simp only at hs hh
 subst hs
 have h2 := hc j u hu
 rw [Sy.addr_add] at h2
 obtain ⟨-, c', t', f', hh', hc'⟩ := spot_of h2
 simp only at hh' hc'
 rw [hh] at hh'
 injection hh' with hh'
 injection hh' with e1 e2 e3
 subst e1
 simpa using hc'
theorem open_rows {H : Type} {enc : TypeId × Value → H} {P : Program} {w : World} {base : Nat} {spare : Nat → Bool} {held : Bool} {r : Reach} {b0 : Nat} {v : Value} {d : DataW H} {p : List MemPlace} {t e : TypeId} {sz : Nat} (ht : P.underlying t = some (.slice e)) (hC : P.cellsOf e = sz) (hsz : 0 < sz)
  {α : Type} (good : α → Prop) (f : α → List Value) (hf : ∀ a, (f a).length = sz)
  (hel : ∀ (cs : List Value) (n : Nat) (D : DataW H) (Pl : List MemPlace), cs.length = sz → DataW.trod enc P w base spare held n e cs = some (D, Pl) → ∃ a, good a ∧ cs = f a)
  (hv : Value.okWide P w r b0 t v) (h : DataW.Trod enc P w base spare held t v d p) :
  (∃ A c, v = .slice A 0 c) ∨ ∃ (b o c : Nat) (l : List α), 0 < l.length ∧ v = .slice (some ⟨b, o, none⟩) l.length c ∧ (∀ x ∈ l, good x) ∧ (Cont.seg o (l.flatMap f)).sat w.heap[b]? ∧ l.length ≤ maxLen ∧ ∃ D E, d = .slice D E ∧ D.length = l.length := by
 obtain ⟨A, n, c, rfl⟩ := okWide_slice ht hv
 obtain ⟨fuel, hfu⟩ := h
 rcases Go.Deep.open_slice ht hfu with ⟨h0, -⟩ | ⟨a, len, cap, m, k, D, Pl, hcs, -, hle, hcap, hm, hx, hi⟩
 ·left
  injection h0 with h0
  injection h0 with h1 h2 h3
  subst h1 h2 h3
  exact ⟨_, _, rfl⟩
 ·injection hcs with hcs
  injection hcs with h1 h2 h3
  subst h1 h2 h3
  rcases Nat.eq_zero_or_pos n with hn | hn
  ·subst hn
   exact .inl ⟨_, _, rfl⟩
  right
  have hmn : n ≤ m := by rw [hm]; split <;> omega
  have key : ∀ q, q ≤ n → ∃ l : List α, l.length = q ∧ (∀ x ∈ l, good x) ∧ ∀ j u, (l.flatMap f)[j]? = some u → w.cell? (a.add j) = some u := by
   intro q
   induction q with
   | zero => exact fun _ => ⟨[], rfl, fun _ h => (by cases h), fun j u h => (by simp at h)⟩
   | succ q ih =>
     intro hq
     obtain ⟨l, hl, hg, hc⟩ := ih (by omega)
     obtain ⟨cs', hcc, htr⟩ := hi q (by omega)
     rw [hC] at hcc
     obtain ⟨_, hcl, hat⟩ := World.cells?_some hcc
     obtain ⟨x, hx, rfl⟩ := hel cs' _ _ _ hcl htr
     have hfl : (l.flatMap f).length = q * sz := by
      rw [← hl]
      clear hl hg hc
      induction l with
      | nil => simp
      | cons y l ih => rw [List.flatMap_cons, List.length_append, hf, ih, List.length_cons, Nat.add_mul]; omega
     refine ⟨l ++ [x], by simp [hl], fun y hy => ?_, fun j u hu => ?_⟩
     ·rcases List.mem_append.1 hy with hy | hy
      ·exact hg y hy
      ·rcases List.mem_singleton.1 hy with rfl
       exact hx
     ·rw [List.flatMap_append] at hu
      rcases Nat.lt_or_ge j (q * sz) with hj | hj
      ·rw [List.getElem?_append_left (by omega)] at hu
       exact hc j u hu
      ·rw [List.getElem?_append_right (by omega), hfl] at hu
       have hu' : (f x)[j - q * sz]? = some u := by simpa using hu
       have hlt : j - q * sz < sz := by
        have := (List.getElem?_eq_some_iff.1 hu').1
        rw [hf] at this
        exact this
       have h5 := hat (j - q * sz) hlt
       rw [Go.Deep.add_add, show q * sz + (j - q * sz) = j by omega, hu'] at h5
       exact h5
  obtain ⟨l, hl, hg, hc⟩ := key n (Nat.le_refl _)
  have hpos : 0 < (l.flatMap f).length := by
   cases l with
   | nil => simp at hl; omega
   | cons y l => rw [List.flatMap_cons, List.length_append, hf]; omega
  obtain ⟨hs, hseg⟩ := seg_of hpos hc
  obtain ⟨b, o, s⟩ := a
  simp only at hs
  subst hs
  injection hx with hx hx2
  exact ⟨b, o, c, l, by omega, by rw [hl], hg, hseg, by omega, _, _, hx, by simp [hl]⟩
theorem cell_int {H : Type} {enc : TypeId × Value → H} {w : World} {base : Nat} {spare : Nat → Bool} {held : Bool} {n : Nat} {t : TypeId} {k : IntKind} {c : Value} {y : Option (DataW H × List MemPlace)} (ht : Tryd.prog.underlying t = some (.int k))
  (h : DataW.trod enc Tryd.prog w base spare held n t [c] = y) (hy : y.isSome = true) : ∃ x : Int, c = .int k x ∧ (Lit.int k x).wf = true := by
 cases y with
 | none => cases hy
 | some y =>
   obtain ⟨m, e, -, hw⟩ := DataW.trod_int ht h
   injection e with e
   exact ⟨m, e, hw⟩
theorem cell_field {H : Type} {enc : TypeId × Value → H} {w : World} {base : Nat} {spare : Nat → Bool} {held : Bool} {n : Nat} {t : TypeId} {fs : Array Field} {cs : List Value} {y : DataW H × List MemPlace} (hu : Tryd.prog.underlying t = some (.struct fs)) (hone : oneCellFields Tryd.prog fs = true)
  (hl : cs.length = fs.size) (h : DataW.trod enc Tryd.prog w base spare held n t cs = some y) : ∃ n', ∀ (j : Nat) (f : Field) (c : Value), fs[j]? = some f → cs[j]? = some c → ∃ y, DataW.trod enc Tryd.prog w base spare held n' f.type [c] = some y := by
 obtain ⟨ys, n', -, -, -, hyl, hf⟩ := DataW.trod_struct hu h
 refine ⟨n', fun j f c hj hc => ?_⟩
 obtain ⟨ho, hk⟩ := hone_of hone j f hj
 have h1 := hf j f hj
 rw [ho, hk] at h1
 have hjl : j < cs.length := (List.getElem?_eq_some_iff.1 hc).1
 have he : (cs.drop j).take 1 = [c] := by
  rw [List.drop_eq_getElem_cons hjl]
  simp only [List.take_succ_cons, List.take_zero, List.cons.injEq, and_true]
  exact (List.getElem?_eq_some_iff.1 hc).2
 rw [he] at h1
 rw [h1, List.getElem?_eq_getElem (by rw [hyl, ← hl]; exact hjl)]
 exact ⟨_, rfl⟩
theorem again_any {H : Type} {enc : TypeId × Value → H} {W W' : World} {t : TypeId} {v : Value} {d : DataW H} {p : List MemPlace} {sp : Nat → Bool} (hr : Tryd.prog.readableRec t = true) (hrow : t < Tryd.prog.types.size)
  (h : DataW.Trod enc Tryd.prog W 0 (fun _ => true) true t v d p) (hb : Below W.heap.size W W') (hlt : ∀ x ∈ p, x.block < W.heap.size) (hsp : ∀ x ∈ p, sp x.block = true) :
  DataW.Trod enc Tryd.prog W' 0 sp true t v d p :=
 WideElems.Trod_stays laidOut hr hrow h (fun x hx => hb.same (hlt x hx)) hsp
end Go.Proofs.YtjohknpmhlildaaDoor
namespace Go.Proofs.YtjohknpmhlildaaDoor.At
open Go Go.RowKit Go.ChangeShapes Go.WideShapes Go.ChangeAt
open Go.Proofs.YtjohknpmhlildaaDoor.Sy (Let Blk Cont Bun ptr ptr0 bx tkB tkU clo DoesB usedK ownOf rdsOf Rep does_frame does_perm does_mono does_all does_of S0_holds bunO)
open Go.Proofs.YtjohknpmhlildaaDoor.As
theorem wrap_laid {H : Type} {enc : TypeId × Value → H} {a : Assume} {C : Checked} {os : Os} {f : FuncId} {fn : Func} {s : ChangeSpec} {conds : List PathCond} {apart fresh handsOn again : Bool} {X : World → Array Value → Prop}
  (hX : ∀ (w w' : World) (args : Array Value), w.heap = w'.heap → X w args → X w' args)
  (own : ownKnob C.prog.godebug = none) (started : os.Started) (noInit : C.prog.inits.idxOf? f = none) (hfn : C.prog.funcs[f]? = some fn)
  (witness : ∃ (w : World) (tape : Tape) (i : Input), w.os = os ∧ (w.forCall tape i).Shaped C.prog ∧ i.vars = [] ∧ Input.okWide C.prog (w.forCall tape i) .any w.heap.size f i ∧
   ((s.pre enc C.prog fn conds apart (w.forCall tape i).memory i.args ∧ X (w.forCall tape i).memory i.args) ∧ sizedMet enc C.prog fn (OpenSpec.ofChange s) apart (w.forCall tape i).memory i.args) ∧ a.holds C.prog (lone (Frame.enter C.prog f i.args .normal) [] (w.forCall tape i)))
  (contract : ∀ (W : World) (base : Nat) (args : Array Value) (ds gs : List (DataW H)) (before : List MemPlace),
   (∀ (j : Nat) t v, fn.params[j]? = some t → args[j]? = some v → Value.okWide C.prog W .any base t v) →
   DataW.Whole enc C.prog fn.params.toList s.vars apart W args.toList ds gs before →
   (DataW.weightsEach C.prog (fn.params.toList ++ s.plain.varTypes C.prog) (ds ++ gs)).all (· ≤ reachBytes) = true → X W args → W.ShapedOpen C.prog →
   Calls C.prog f args W fun e W' => ∃ v, e = .returned v ∧ s.post enc C.prog fn apart fresh handsOn again W args v W') :
  ReturnsInHanded a C os f .any (fun w args => (s.pre enc C.prog fn conds apart w args ∧ X w args) ∧ sizedMet enc C.prog fn (OpenSpec.ofChange s) apart w args) (s.post enc C.prog fn apart fresh handsOn again) := by
 refine returnsInHanded_of_calls own started noInit witness fun w tape i _ hsh _ hok hpre _ => ?_
 obtain ⟨_, _, _, fn', hfn', _, _, _, _, hval⟩ := hok
 obtain rfl : fn' = fn := Option.some.inj (hfn'.symm.trans hfn)
 obtain ⟨⟨⟨ds, gs, before, hw, -⟩, hx⟩, hz⟩ := hpre
 refine (contract (w.forCall tape i) w.heap.size i.args ds gs before hval (DataW.Whole.of_heap (w' := w.forCall tape i) (by rfl) hw) (hz.weights hw) (hX _ _ _ (by rfl) hx) hsh).mono fun e W' h => ?_
 obtain ⟨v, rfl, hp⟩ := h
 exact ChangeSpec.post_blind hp
abbrev laidL : List (String × DataW Unit) := [("math/bits.deBruijn64tab", Rows.laid_math_bits_deBruijn64tab)]
theorem gTab : Tryd.prog.globalNamed "math/bits.deBruijn64tab" = some 0 := by kernel_rfl
theorem tTab_is : (Tryd.prog.globals[0]?).map (·.type) = some tTab := by kernel_rfl
theorem tab_len : tabV.length = 64 := by decide +kernel
theorem tab_row {h : Option Obj} : tabB.2.sat h ↔ h = some (.cells tabV.toArray tTab (0, 0)) := by
 refine ⟨fun hs => ?_, fun hs => ?_⟩
 ·obtain ⟨cur, rfl, -, -, -, hc, ht⟩ := hs
  have hc : cur.size = 64 := hc
  have ht : cur.toList.take 64 = tabV := ht
  rw [List.take_of_length_le (by rw [Array.length_toList, hc]; exact Nat.le_refl _)] at ht
  rw [← ht]
 ·subst hs
  exact ⟨_, rfl, tab_len, Nat.le_refl _, by decide, by rw [List.size_toArray]; exact tab_len, by rw [List.toList_toArray]; exact List.take_of_length_le (by rw [tab_len]; exact Nat.le_refl _)⟩
theorem tab_u8 {o : Nat} {v : Value} {xs : List Value} {h : Option Obj} (ht : tabB.2.sat h) (hs : (Cont.seg o (v :: xs)).sat h) : ∃ n : Int, v = .int .u8 n := by
 rw [tab_row] at ht
 subst ht
 obtain ⟨c, t, f, hc, hx⟩ := hs
 injection hc with hc
 injection hc with hc
 have h0 := hx 0 v rfl
 rw [← hc] at h0
 have h0 : tabV[o + 0]? = some v := h0
 unfold tabV at h0
 rw [List.getElem?_map] at h0
 cases hb : Lib.deBruijn64tab[o + 0]? with
 | none => rw [hb] at h0; cases h0
 | some n =>
   rw [hb] at h0
   injection h0 with h0
   exact ⟨_, h0.symm⟩
set_option maxRecDepth 100000 in
theorem tab_of {W : World} (h : laidMetH Tryd.prog laidL W) (hsh : W.ShapedOpen Tryd.prog) : tabB.2.sat W.heap[0]? := by
 have hz : ((((begin Tryd.prog (fun _ _ => 0) default).world.heap[0]?).bind Obj.row?).map fun x => x.2) = some tTab := by kernel_rfl
 obtain ⟨zero, hb⟩ : ∃ zero, ((begin Tryd.prog (fun _ _ => 0) default).world.heap[0]?).bind Obj.row? = some (zero, tTab) := by
  generalize ((begin Tryd.prog (fun _ _ => 0) default).world.heap[0]?).bind Obj.row? = x at hz
  cases x with
  | none => cases hz
  | some x =>
    obtain ⟨a, b⟩ := x
    injection hz with hz
    have hz : b = tTab := hz
    exact ⟨a, by rw [hz]⟩
 obtain ⟨cs, hh, -, -⟩ := hsh.1 0 zero tTab (by decide +kernel) hb
 rw [MakeChecks.laidMetH_plain _ _ _ (by kernel_rfl)] at h
 obtain ⟨ps, ⟨g0, t0, cs0, f0, p0, q0, hg0, ht0, hv0, hd0, -, -⟩, -, -⟩ := h
 obtain rfl := Option.some.inj (gTab.symm.trans hg0)
 obtain rfl := Option.some.inj (tTab_is.symm.trans ht0)
 have e : cs = cs0 := by
  simp only [World.var?, gTab, Option.bind_some, hh] at hv0
  exact Option.some.inj hv0
 subst e
 obtain ⟨xs, m1, rfl, hx1, hlen, hn, hel⟩ := DataW.trod_array Tryd.underlying175 hd0
 have c1 : Tryd.prog.cellsOf 5 = 1 := by kernel_rfl
 have c64 : Tryd.prog.cellsOf tTab = 64 := by kernel_rfl
 rw [c64] at hlen
 simp only [Prod.mk.injEq] at hx1
 rw [tab_row, hh]
 have key : cs.toList = tabV := by
  apply List.ext_getElem?
  intro i
  by_cases hi : i < 64
  ·have h0 := hel i hi
   rw [c1, Nat.mul_one] at h0
   have hxi : i < xs.length := by omega
   rw [List.getElem?_eq_getElem hxi] at h0
   obtain ⟨k, e1, e2, -⟩ := DataW.trod_int Tryd.underlying5 h0
   have e3 : cs.toList[i]? = some (.int .u8 k) := by
    have : ((cs.toList.drop i).take 1)[0]? = some (.int .u8 k) := by rw [e1]; rfl
    rw [List.getElem?_take] at this
    simpa using this
   rw [e3]
   have e4 : (xs.map (·.1))[i]? = some (.lit (.int .u8 k)) := by
    rw [List.getElem?_map, List.getElem?_eq_getElem hxi]
    show some (xs[i]).1 = _
    rw [e2]
   have e5 : (Lib.deBruijn64tab.map fun (n : Nat) => (DataW.lit (.int .u8 (n : Int)) : DataW Unit)) = xs.map (·.1) := by
    have := hx1.1
    have e6 : Rows.laid_math_bits_deBruijn64tab = (DataW.agg (Lib.deBruijn64tab.map fun (n : Nat) => (DataW.lit (.int .u8 (n : Int)) : DataW Unit))) := by rfl
    rw [e6] at this
    injection this
   rw [← e5, List.getElem?_map] at e4
   unfold tabV
   rw [List.getElem?_map]
   cases hb : Lib.deBruijn64tab[i]? with
   | none => rw [hb] at e4; cases e4
   | some n =>
     rw [hb] at e4
     have e4 : some (DataW.lit (H := Unit) (.int .u8 (n : Int))) = some (.lit (.int .u8 k)) := e4
     simp only [Option.some.injEq, DataW.lit.injEq, Lit.int.injEq, true_and] at e4
     rw [← e4]
     rfl
  ·rw [List.getElem?_eq_none (by omega), List.getElem?_eq_none (by rw [tab_len]; omega)]
 have hcs : cs = tabV.toArray := by rw [← key, Array.toArray_toList]
 rw [hcs]
section
variable {H : Type} {enc : TypeId × Value → H} {w : World} {base : Nat} {spare : Nat → Bool} {held : Bool} {r : Reach} {b0 : Nat} {v : Value} {d : DataW H} {p : List MemPlace}
def FarB (B : Bun) (w : World) : Prop := ∀ q ∈ B, q.2.sat w.heap[q.1]? ∧ (tabB.2.sat w.heap[0]? → q.1 ≠ 0)
theorem far_seg {b o : Nat} {k : IntKind} {x : Int} {xs : List Value} (hk : k ≠ .u8) (hs : (Cont.seg o (.int k x :: xs)).sat w.heap[b]?) : FarB [(b, .seg o (.int k x :: xs))] w := fun q hq => by
 rw [List.mem_singleton.1 hq]
 refine ⟨hs, fun ht e => ?_⟩
 have e : b = 0 := e
 subst e
 obtain ⟨n, hn⟩ := tab_u8 ht hs
 injection hn with hn
 exact hk hn
set_option maxRecDepth 100000 in
theorem open_begins (hv : Value.okWide Tryd.prog w r b0 22 v) (h : DataW.Trod enc Tryd.prog w base spare held 22 v d p) :
  ∃ (B : Bun) (ops : List OpD), OpsV v ops B ∧ FarB B w := by
 rcases open_rows (sz := 3) Tryd.underlying22 (by kernel_rfl) (by omega) (fun _ : OpD => True) OpD.cells (fun _ => rfl) (fun cs n D Pl hl ht => by
  match cs, hl with
  | [c0, c1, c2], _ =>
    obtain ⟨n', hf⟩ := cell_field (cs := [c0, c1, c2]) Tryd.underlying46 (by kernel_rfl) (by rfl) ht
    obtain ⟨y0, h0⟩ := hf 0 _ c0 rfl rfl
    obtain ⟨y1, h1⟩ := hf 1 _ c1 rfl rfl
    obtain ⟨y2, h2⟩ := hf 2 _ c2 rfl rfl
    obtain ⟨x0, rfl, -⟩ := cell_int Tryd.underlying3 h0 rfl
    obtain ⟨x1, rfl, -⟩ := cell_int Tryd.underlying3 h1 rfl
    obtain ⟨x2, rfl, -⟩ := cell_int Tryd.underlying36 h2 rfl
    exact ⟨⟨x0, x1, x2⟩, trivial, rfl⟩) hv h with ⟨A, c, rfl⟩ | ⟨b, o, c, l, hpos, rfl, -, hs, -⟩
 ·exact ⟨[], [], .inl ⟨rfl, A, c, rfl⟩, fun q hq => nomatch hq⟩
 ·refine ⟨[(b, opsC o l)], l, .inr ⟨b, o, c, rfl, hpos, Sy.mS _⟩, ?_⟩
  obtain ⟨x, l', rfl⟩ : ∃ x l', l = x :: l' := by
   cases l with
   | nil => exact absurd hpos (Nat.lt_irrefl _)
   | cons x l' => exact ⟨x, l', rfl⟩
  exact far_seg (by decide) hs
theorem weights_at {P : Program} : ∀ {ts : List TypeId} {l : List (DataW H)} {j : Nat} {t : TypeId} {d : DataW H}, ts[j]? = some t → l[j]? = some d → (∀ x ∈ DataW.weightsEach P ts l, x ≤ reachBytes) → ∀ x ∈ d.weights P t, x ≤ reachBytes
 | [], _, _, _, _, h, _, _ => by simp at h
 | _ :: _, [], _, _, _, _, h, _ => by simp at h
 | t :: ts, d :: l, j, t', d', ht, hd, hw => by
   unfold DataW.weightsEach at hw
   cases j with
   | zero =>
     simp only [List.getElem?_cons_zero, Option.some.injEq] at ht hd
     subst ht hd
     exact fun x hx => hw x (Sy.mL _ hx)
   | succ j => exact weights_at (j := j) (by simpa using ht) (by simpa using hd) fun x hx => hw x (Sy.mR _ hx)
set_option maxRecDepth 100000 in
theorem open_picks (hv : Value.okWide Tryd.prog w r b0 35 v) (h : DataW.Trod enc Tryd.prog w base spare held 35 v d p) (hw : ∀ x ∈ d.weights Tryd.prog 35, x ≤ reachBytes) :
  ∃ (B : Bun) (P : List Int), PicksV v P B ∧ FarB B w ∧ P.length < 1152921504606846976 := by
 rcases open_rows (sz := 1) Tryd.underlying35 (by kernel_rfl) (by omega) (fun _ : Int => True) (fun x => [.int .i64 x]) (fun _ => rfl) (fun cs n D Pl hl ht => by
  match cs, hl with
  | [c0], _ =>
    obtain ⟨x0, rfl, -⟩ := cell_int Tryd.underlying3 ht rfl
    exact ⟨x0, trivial, rfl⟩) hv h with ⟨A, c, rfl⟩ | ⟨b, o, c, l, hpos, rfl, -, hs, -, D, E, rfl, hD⟩
 ·exact ⟨[], [], .inl ⟨rfl, A, c, rfl⟩, (fun q hq => nomatch hq), by decide⟩
 ·have e : ∀ l : List Int, l.flatMap (fun x => [Value.int .i64 x]) = l.map fun x => Value.int .i64 x := fun l => by
   induction l with
   | nil => rfl
   | cons x l ih => rw [List.flatMap_cons, ih]; rfl
  have hb : l.length < 1152921504606846976 := by
   simp only [DataW.weights, Tryd.underlying35] at hw
   have h1 := hw _ Sy.mH
   have h2 : Tryd.prog.bytesOf 3 = 8 := by kernel_rfl
   rw [h2] at h1
   simp only [reachBytes] at h1
   omega
  refine ⟨[(b, .seg o (l.flatMap fun x => [Value.int .i64 x]))], l, .inr ⟨b, o, c, _, rfl, Sy.mS _, fun i hi => ?_⟩, ?_, hb⟩
  ·rw [e]
   show (if o ≤ o + i then (l.map fun x => Value.int .i64 x)[o + i - o]? else none) = _
   rw [if_pos (Nat.le_add_right _ _), Nat.add_sub_cancel_left, List.getElem?_map, List.getD_eq_getElem?_getD, List.getElem?_eq_getElem hi]
   rfl
  ·obtain ⟨x, l', rfl⟩ : ∃ x l', l = x :: l' := by
    cases l with
    | nil => exact absurd hpos (Nat.lt_irrefl _)
    | cons x l' => exact ⟨x, l', rfl⟩
   exact far_seg (by decide) hs
end
theorem opsV_mono {bv : Value} {ops : List OpD} {B B' : Bun} (h : OpsV bv ops B) (hs : ∀ p ∈ B, p ∈ B') : OpsV bv ops B' := by
 rcases h with h | ⟨gb, o, cb, h1, h2, h3⟩
 ·exact .inl h
 ·exact .inr ⟨gb, o, cb, h1, h2, hs _ h3⟩
theorem picksV_mono {pv : Value} {P : List Int} {B B' : Bun} (h : PicksV pv P B) (hs : ∀ p ∈ B, p ∈ B') : PicksV pv P B' := by
 rcases h with h | ⟨gp, o, pc, C, h1, h2, h3⟩
 ·exact .inl h
 ·exact .inr ⟨gp, o, pc, C, h1, hs _ h2, h3⟩
theorem farB_app {A B : Bun} {w : World} (ha : FarB A w) (hb : FarB B w) : FarB (A ++ B) w := fun q hq => by
 rcases List.mem_append.1 hq with hq | hq
 ·exact ha q hq
 ·exact hb q hq
theorem law_any {f : FuncId} {args : Array Value} {ok : Prop} {B : Bun} (hc : Sy.Meets Tryd.prog ⟨f, args, ok, ⟨[], [tabB], 1, B⟩, [(⟨fun ns => tabB ∈ bunO ns, fun _ => [], bunO⟩, fun _ => .bool true)]⟩) (hok : ok) (W : World) (hB : FarB B W) (ht : tabB.2.sat W.heap[0]?) :
  Calls Tryd.prog f args W fun e W' => e = .returned (.bool true) ∧ Below W.heap.size W W' := by
 refine (hc hok W ⟨fun p hp => (by cases hp), fun p hp => ?_, by simp, fun p hp => (by cases hp), fun p hp => (hB p hp).1, fun p hp q hq => ?_⟩).mono ?_
 ·rw [List.mem_singleton.1 hp]
  exact ht
 ·rw [List.mem_singleton.1 hq]
  exact (hB p hp).2 ht
 ·rintro e W' ⟨o, ho, ns, rfl, hpost⟩
  rcases List.mem_singleton.1 ho with rfl
  refine ⟨rfl, hpost.os, hpost.tape, hpost.output, hpost.size, fun k hk => ?_⟩
  by_cases h0 : k = 0
  ·subst h0
   have h1 := (hpost.nb tabB hpost.hyp).2
   rw [tab_row] at ht
   have h1 := tab_row.1 h1
   exact h1.trans ht.symm
  ·exact hpost.old k hk fun p hp => by
    rw [List.mem_singleton.1 hp]
    exact fun e => h0 e.symm
end Go.Proofs.YtjohknpmhlildaaDoor.At
namespace Go.Proofs.YtjohknpmhlildaaDoor.At
open Go Go.RowKit
open Go.Proofs.YtjohknpmhlildaaDoor.Sy (Let Blk Cont Bun ptr ptr0 bx tkB tkU clo DoesB usedK ownOf rdsOf Rep does_frame does_perm does_mono does_all does_of S0_holds bunO)
open Go.Proofs.YtjohknpmhlildaaDoor.As
def abC (t : Int) (bv pv : Value) (ops : List OpD) (P : List Int) (B : Bun) : Sy.CallC :=
 ⟨fAB, #[.int .i64 t, bv, pv], okLaw bv pv ops P B, ⟨[], [tabB], 1, B⟩, [(⟨fun ns => tabB ∈ bunO ns, fun _ => [], bunO⟩, fun _ => .bool true)]⟩
theorem ctxAB_holds (W0 WL WP : WorldD) (ops : List OpD) (gb o nb cb : Nat) (C : Cont) (pv : Value) (P : List Int) (t : Int) (kN : Nat) : (ctxAB W0 WL WP ops gb o nb cb C pv P t kN).holds Tryd.prog := Sy.mkU_holds (Sy.mkS_holds (fun p hp a L => by
 rcases List.mem_cons.1 hp with rfl | hp
 ·exact awC_met
 rcases List.mem_cons.1 hp with rfl | hp
 ·exact fitC_met _
 rcases List.mem_cons.1 hp with rfl | hp
 ·exact atC_met (madeD_met _ _ _) _
 rcases List.mem_singleton.1 hp with rfl
 exact atC_met (thereC_met _ _) _) (fun p hp a L => by
 rcases List.mem_cons.1 hp with rfl | hp
 ·exact b2C_met _ _ _ _ _ _ _ _ _ _ _
 rcases List.mem_singleton.1 hp with rfl
 exact b2N_met) (fun _ h => (by cases h))) (fun p hp a L => by
 rcases List.mem_singleton.1 hp with rfl
 exact playC_met _ _ _ _ _ _ _ _) (fun p hp a L => by
 rcases List.mem_singleton.1 hp with rfl
 exact bgCB_met _ _ _ _ _ _ _ _ _ _ _ _ _ _ _ _ _ _)
theorem no_both {c b : Bool} (hb : c = true → b = false) : ¬ (bif c then b else false) = true := by
 cases c
 ·simp
 ·rw [hb rfl]
  simp
theorem ltq_zero {n : Nat} (h : n = 0) : Ex.ltQ 0 (Int.ofNat n) = false := by
 subst h
 rfl
theorem kindsV_congr {w w' : WorldD} (h : w.tasks.map (·.kind) = w'.tasks.map (·.kind)) : kindsV w = kindsV w' := by
 have e : ∀ l : List TaskD, (l.map fun t => Value.int .i64 (t.kind : Int)) = (l.map (·.kind)).map fun k => Value.int .i64 ((k : Nat) : Int) := fun l => by rw [List.map_map]; rfl
 unfold kindsV
 rw [e, e, h]
theorem mul_sq {m : Nat} (h : m ≤ 30) : Ex.wrapQ .i64 (Ex.mulQ (Ex.wrapQ .i64 (Ex.mulQ 2 (Int.ofNat (m + 1)))) (Int.ofNat (m + 1))) = Int.ofNat (2 * (m + 1) * (m + 1)) := by
 have e1 : Ex.wrapQ .i64 (Ex.mulQ 2 (Int.ofNat (m + 1))) = ((2 * (m + 1) : Nat) : Int) := by
  rw [Ex.mulQ_eq, Ex.wrapQ_eq, IntKind.wrap_i64, Int.ofNat_eq_natCast]
  omega
 have e2 : 2 * (m + 1) * (m + 1) ≤ 62 * 31 := Nat.mul_le_mul (by omega) (by omega)
 rw [e1, Ex.mulQ_eq, Ex.wrapQ_eq, IntKind.wrap_i64]
 have e3 : ((2 * (m + 1) : Nat) : Int) * Int.ofNat (m + 1) = ((2 * (m + 1) * (m + 1) : Nat) : Int) := (Int.natCast_mul _ _).symm
 rw [e3, Int.ofNat_eq_natCast]
 generalize 2 * (m + 1) * (m + 1) = z at e2
 omega
theorem play_zero {w : WorldD} (h : w.tasks = []) (P : List Int) {n : Nat} (hs : sumW (playW w P) = sumW w + n) : n = 0 := by
 rw [play_none w h] at hs
 omega
theorem thing_of {x : Nat} (h : (bif Ex.eqQ (x : Int) 1 then true else Ex.eqQ (x : Int) 3) = true) : x = 1 ∨ x = 3 := by
 rw [show Ex.eqQ (x : Int) 1 = decide (x = 1) from eqq_lit x 1, show Ex.eqQ (x : Int) 3 = decide (x = 3) from eqq_lit x 3] at h
 by_cases h1 : x = 1
 ·exact .inl h1
 ·rw [decide_eq_false h1] at h
  exact .inr (of_decide_eq_true h)
set_option maxRecDepth 10000 in
theorem abC_met (t : Int) (bv pv : Value) (ops : List OpD) (P : List Int) (B : Bun) : Sy.Meets Tryd.prog (abC t bv pv ops P B) := by
 intro hok
 have hfit := fitN_le t
 obtain ⟨W0, hW, hO, hth, hro, htk0⟩ := new_all hfit (room := 4) ⟨by decide, by decide⟩
 have hmade : okMade (fitN t) 4 W0 := ⟨hfit, by decide, by decide, hW⟩
 have hs0 : sumW W0 = 0 := by unfold sumW; rw [htk0]; rfl
 have hlt := hok.lt
 have hend : ∀ {L : List Blk} {q : Bun} {w : WorldD} {st : Nat} {tks : List Nat}, Heap w st tks q → Sy.Ent L (q.map ownOf) → Sy.leafB (abC t bv pv ops P B) (.bool true, L) := fun hH hE =>
  ⟨_, Sy.mS _, [⟨0, 0, false, undef, [], _⟩], rfl, rfl, hE, heap_tab hH⟩
 rcases hok.bv with ⟨h0, p, c, rfl⟩ | ⟨gb, o, cb, rfl, hpos, hgb⟩
 ·rcases hok.pv with ⟨hP0, hpv⟩ | ⟨gp, o2, pc, C2, hpv, hgp, hat⟩
  ·refine Sy.meets_ofB (L := [ownOf tabB]) (ctxAB_holds W0 W0 W0 [] 0 0 0 0 (.seg 0 []) pv P t 1) mixed (Sy.Ent.sub ?_) (abF_run W0 W0 W0 p c pv P t) (fun _ ns => ?_) hok
   ·show List.Sublist _ ([] ++ ([ownOf tabB] ++ rdsOf B))
    exact List.sublist_append_left _ _
   have hst : stV (fitN t) (Value.agg (Array.mk [tvI 1 (fitN t) (ns 1).n, tvI 2 (fitN t) (ns 1).n, tvI 3 (fitN t) (ns 1).n, tvI 4 (fitN t) (ns 1).n, tvI 5 (fitN t) (ns 1).n])) = (ns 1).n := stV_eq hfit _
   simp only [abF_R, Sy.Res.holds, hst, List.append_eq, List.nil_append, hB, names_ptrs]
   refine ⟨trivial, fun _ => ⟨trivial, fun _ => ⟨⟨trivial, hmade⟩, fun hH => ?_⟩⟩⟩
   have hH : Heap W0 (ns 1).n [] (ns 0).q := hH
   refine ⟨⟨trivial, trivial, by simp [tv_one]⟩, ⟨rfl, hfit⟩, fun _ => ⟨⟨stE_spec hH, .inl ⟨rfl, rfl⟩, .inl ⟨hP0, hpv⟩, by omega⟩, List.perm_append_comm (l₁ := [_]), got_allB _, fun h3 => ?_⟩⟩
   obtain ⟨h3, hs⟩ := h3
   exact ⟨fun hb => absurd hb (no_both fun _ => ltq_zero (play_zero htk0 P hs)), fun _ => ⟨trivial, fun _ => hend h3 (Sy.Ent.sub (.cons _ (List.Sublist.refl _)))⟩⟩
  ·refine Sy.meets_ofB (L := ⟨gp, C2, false⟩ :: [ownOf tabB]) (ctxAB_holds W0 W0 W0 [] 0 0 0 0 (.seg 0 []) pv P t 2) mixed ?_ (abE_run W0 W0 W0 p c gp C2 pv P t) (fun _ ns => ?_) hok
   ·exact rds_own (b := [tabB]) (X := [⟨gp, C2, false⟩]) fun r hr => by
     rw [List.mem_singleton.1 hr]
     exact ⟨rfl, hgp⟩
   have hst : stV (fitN t) (Value.agg (Array.mk [tvI 1 (fitN t) (ns 1).n, tvI 2 (fitN t) (ns 1).n, tvI 3 (fitN t) (ns 1).n, tvI 4 (fitN t) (ns 1).n, tvI 5 (fitN t) (ns 1).n])) = (ns 1).n := stV_eq hfit _
   simp only [abE_R, Sy.Res.holds, hst, hB, names_ptrs]
   refine ⟨trivial, fun _ => ⟨trivial, fun _ => ⟨⟨trivial, hmade⟩, fun hH => ?_⟩⟩⟩
   have hH : Heap W0 (ns 1).n [] (ns 0).q := hH
   refine ⟨⟨trivial, trivial, by simp [tv_one]⟩, ⟨rfl, hfit⟩, fun _ => ⟨⟨stE_spec hH, .inl ⟨rfl, rfl⟩, .inr ⟨gp, o2, pc, C2, hpv, by rw [allB_eq]; simp, hat⟩, by omega⟩, List.perm_append_comm (l₁ := [_, _]), got_allB _, fun h3 => ?_⟩⟩
   obtain ⟨h3, hs⟩ := h3
   exact ⟨fun hb => absurd hb (no_both fun _ => ltq_zero (play_zero htk0 P hs)), fun _ => ⟨trivial, fun _ => hend h3 (Sy.Ent.sub (.cons _ (.cons _ (List.Sublist.refl _))))⟩⟩
 ·obtain ⟨gp, C2, hgp, hpv⟩ := picks_any hok.pv hgb
  refine Sy.meets_ofB (L := ⟨gb, opsC o ops, false⟩ :: ⟨gp, C2, false⟩ :: [ownOf tabB]) (ctxAB_holds W0 (begsW W0 (ops.take 30)) (playW (begsW W0 (ops.take 30)) P) ops gb o ops.length cb (opsC o ops) pv P t 3) mixed ?_
   (ab_run W0 (begsW W0 (ops.take 30)) (playW (begsW W0 (ops.take 30)) P) ops gb o ops.length cb (ops.flatMap OpD.cells) gp C2 pv P t) (fun _ ns => ?_) hok
  ·exact rds_own (b := [tabB]) (X := [⟨gb, opsC o ops, false⟩, ⟨gp, C2, false⟩]) fun r hr => by
    rcases List.mem_cons.1 hr with rfl | hr
    ·exact ⟨rfl, hgb⟩
    ·rw [List.mem_singleton.1 hr]
     exact ⟨rfl, hgp⟩
  have hst : stV (fitN t) (Value.agg (Array.mk [tvI 1 (fitN t) (ns 1).n, tvI 2 (fitN t) (ns 1).n, tvI 3 (fitN t) (ns 1).n, tvI 4 (fitN t) (ns 1).n, tvI 5 (fitN t) (ns 1).n])) = (ns 1).n := stV_eq hfit _
  have hsL := (begs_len (ops.take 30) W0).2
  simp only [ab_R, Sy.Res.holds, hst, hB, names_ptrs]
  refine ⟨trivial, fun _ => ⟨trivial, fun _ => ⟨⟨trivial, hmade⟩, fun hH => ?_⟩⟩⟩
  have hH : Heap W0 (ns 1).n [] (ns 0).q := hH
  refine ⟨⟨trivial, trivial, by simp [tv_one]⟩, ⟨rfl, hfit⟩, fun _ => ⟨⟨hH, htk0, hfit, hth, rfl, rfl, hpos, rfl⟩, List.perm_append_comm (l₁ := [_]), fun h1 => ?_, fun h2 => ?_⟩⟩
  ·obtain ⟨htn, h1⟩ := h1
   refine ⟨⟨stE_spec h1, .inl ⟨rfl, rfl⟩, hpv _ (by rw [allB_eq]; simp), by omega⟩, List.perm_append_comm (l₁ := [_, _, _]), got_allB _, fun h3 => ?_⟩
   obtain ⟨h3, hs⟩ := h3
   exact ⟨fun hb => absurd hb (no_both fun _ => ltq_zero (play_zero htn P hs)), fun _ => ⟨trivial, fun _ => hend h3 (Sy.Ent.sub (.cons _ (.cons _ (.cons _ (List.Sublist.refl _)))))⟩⟩
  ·obtain ⟨h2, hlen⟩ := h2
   have h2 := stE_spec h2
   have htl := (heap_task h2).1
   have hW30 := (begs_len (ops.take 30) W0).1
   rw [htk0, List.length_nil, List.length_take] at hW30
   refine ⟨⟨h2, .inr ⟨_, _, _, htl.trans hlen, by omega, rfl, by rw [allB_eq]; exact Sy.mH⟩, hpv _ (by rw [allB_eq]; simp), by omega⟩, List.perm_append_comm (l₁ := [_, _, _, _, _]), got_allB _, fun h3 => ?_⟩
   obtain ⟨h3, hs⟩ := h3
   have h3' := stE_spec h3
   have hokP : OkW (playW (begsW W0 (ops.take 30)) P) := play_ok P (ok_begs _ hO (by rw [hth]; exact hfit))
   have hroom : (playW (begsW W0 (ops.take 30)) P).room = 4 := by rw [(play_room P _).2, (begs_thing _ _).2, hro]
   have hthP : (playW (begsW W0 (ops.take 30)) P).thing = fitN t := by rw [(play_room P _).1, (begs_thing _ _).1, hth]
   have hlP : (playW (begsW W0 (ops.take 30)) P).tasks.length = (ns 9).n + 1 := by rw [play_len, hlen]
   obtain ⟨hb1, hb2⟩ := bounds_law hokP
   rw [hroom] at hb2
   rw [hlP] at hb1
   have hm : (ns 9).n ≤ 30 := by omega
   simp only [mul_sq hm]
   refine ⟨fun hb => absurd hb (no_both fun hc => ?_), fun _ => ⟨⟨h3', htl.trans hlen, hm, rfl, (kindsV_congr (play_kinds P _)).symm, fun x hx hk => hb2 x hx hk⟩, got5 _ _ _ _ _ _, fun _ => hend h3 (Sy.Ent.sub (.cons _ (.cons _ (.cons _ (.cons _ (.cons _ (List.Sublist.refl _)))))))⟩⟩
   have h13 := thing_of hc
   rw [ltq_nat]
   refine decide_eq_false ?_
   have := hb1 (by rw [hthP]; exact h13)
   omega
end Go.Proofs.YtjohknpmhlildaaDoor.At
end
