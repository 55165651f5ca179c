/-
  A task begins: the heap with one more (all but a snap's); The things a
-/
import Derived.Test.YtjohknpmhlildaaDoorPbc

noncomputable section
set_option linter.unusedVariables false
set_option linter.unusedSimpArgs false
namespace Go.Proofs.YtjohknpmhlildaaDoor.At
open Go Go.RowKit
open Go.Proofs.YtjohknpmhlildaaDoor.Sy (Let Blk Cont Bun ptr ptr0 bx tkB tkU clo DoesB usedK ownOf rdsOf Rep does_frame does_perm does_mono does_all does_of S0_holds)
open Go.Proofs.YtjohknpmhlildaaDoor.As
def beginQ (H : WorldD → List Nat → Bun → Prop) (w : WorldD) (kind : Nat) (v slot : Int) (tks : List Nat) (r : Value) (o : Bun) : Prop :=
 ∃ tk, r = .tuple #[ptr tk, .int .i64 0] ∧ H (beginW w kind v slot) (tks ++ [tk]) o
def begunQ (w : WorldD) (kind : Nat) (v slot : Int) (T : TaskH → Prop) (r : Value) (o : Bun) : Prop := ∃ y : TaskH, y.d = taskW w kind v slot ∧ r = .tuple #[ptr y.tk, .int .i64 0] ∧ T y ∧ o = y.all
theorem begin_one {args : Array Value} {w : WorldD} {kind : Nat} {v slot : Int} {T : TaskH → Prop} {th s b : Bun} {xs : List TaskH} {Q' : Value → Bun → Prop} (hb : b.Perm (th ++ (allH xs ++ ([] ++ s)))) (h : DoesB Tryd.prog fBegun args [] [] (begunQ w kind v slot T))
  (hQ : ∀ y : TaskH, y.d = taskW w kind v slot → T y → ∀ o : Bun, o.Perm (th ++ (allH (xs ++ [y]) ++ ([] ++ s))) → Q' (.tuple #[ptr y.tk, .int .i64 0]) o) : DoesB Tryd.prog fBegun args [] b Q' := by
 have hb' : b.Perm ([] ++ (allH xs ++ (th ++ s))) := hb.trans (by
  letI : DecidableEq (Nat × Cont) := Classical.typeDecidableEq _
  refine List.perm_iff_count.2 fun p => ?_
  simp only [List.count_append, List.count_nil]
  omega)
 refine begin_glue hb' h (fun p hp => nomatch hp) fun r o hq => ?_
 obtain ⟨y, hd, rfl, hT, rfl⟩ := hq
 refine ⟨[y], [], by simp [allH], hQ y hd hT _ ?_⟩
 letI : DecidableEq (Nat × Cont) := Classical.typeDecidableEq _
 refine List.perm_iff_count.2 fun p => ?_
 simp only [List.count_append, List.count_nil]
 omega
theorem all_new {x : TaskH} (h : x.d.pc ≠ 0) (hs : x.d.steps = 0) : x.all = tkU x.tk x.nx 0 :: x.bl := by
 rw [all_cell h, hs]
 rfl
theorem map_app1 {α β : Type} {f : α → β} {l : List α} {m : List β} {x : α} {y : β} (h : l.map f = m) (e : f x = y) : (l ++ [x]).map f = m ++ [y] := by rw [List.map_append, h, List.map_singleton, e]
theorem all_app {α : Type} {p : α → Prop} {l : List α} {x : α} (h : ∀ a ∈ l, p a) (hx : p x) : ∀ a ∈ l ++ [x], p a := fun a ha => by
 rcases List.mem_append.1 ha with ha | ha
 ·exact h a ha
 ·rw [List.mem_singleton.1 ha]
  exact hx
theorem begin_stack {w : WorldD} {st : Nat} {tks : List Nat} {b : Bun} (hH : HeapS w st tks b) {args : Array Value} {kind : Nat} {v slot : Int} (h : ∀ nd, DoesB Tryd.prog fBegun args [] [] (begunQ w kind v slot (TS st nd))) : DoesB Tryd.prog fBegun args [] b (beginQ (fun w t o => HeapS w st t o) w kind v slot tks) := by
 obtain ⟨xs, nd, hx⟩ := hH
 refine begin_one hx.perm (h nd) fun y hd hT o ho => ⟨y.tk, rfl, xs ++ [y], nd, hx.thing, map_app1 hx.d hd, map_app1 hx.tk rfl, all_app hx.ok hT, hx.vlen, hx.blen, hx.bel, hx.top, ho⟩
theorem begin_queue {w : WorldD} {st : Nat} {tks : List Nat} {b : Bun} (hH : HeapQ w st tks b) {args : Array Value} {kind : Nat} {v slot : Int} (h : ∀ nd, DoesB Tryd.prog fBegun args [] [] (begunQ w kind v slot (TQ st nd))) : DoesB Tryd.prog fBegun args [] b (beginQ (fun w t o => HeapQ w st t o) w kind v slot tks) := by
 obtain ⟨xs, nd, hx⟩ := hH
 refine begin_one hx.perm (h nd) fun y hd hT o ho => ⟨y.tk, rfl, xs ++ [y], nd, hx.thing, map_app1 hx.d hd, map_app1 hx.tk rfl, all_app hx.ok hT, hx.vlen, hx.blen, hx.bel, hx.first, hx.last, ho⟩
theorem begin_slots {w : WorldD} {st : Nat} {tks : List Nat} {b : Bun} (hH : HeapL w st tks b) {args : Array Value} {kind : Nat} {v slot : Int} (h : DoesB Tryd.prog fBegun args [] [] (begunQ w kind v slot (TL st))) : DoesB Tryd.prog fBegun args [] b (beginQ (fun w t o => HeapL w st t o) w kind v slot tks) := by
 obtain ⟨xs, hx⟩ := hH
 refine begin_one hx.perm h fun y hd hT o ho => ⟨y.tk, rfl, xs ++ [y], hx.thing, map_app1 hx.d hd, map_app1 hx.tk rfl, all_app hx.ok hT, hx.room, hx.lent, ho⟩
theorem begin_once {w : WorldD} {st : Nat} {tks : List Nat} {b : Bun} (hH : HeapO w st tks b) {args : Array Value} {kind : Nat} {v slot : Int} (h : ∀ dn, DoesB Tryd.prog fBegun args [] [] (begunQ w kind v slot (TO st dn))) : DoesB Tryd.prog fBegun args [] b (beginQ (fun w t o => HeapO w st t o) w kind v slot tks) := by
 obtain ⟨xs, wb, hx⟩ := hH
 refine begin_one hx.perm (h w.done) fun y hd hT o ho => ⟨y.tk, rfl, xs ++ [y], wb, hx.thing, map_app1 hx.d hd, map_app1 hx.tk rfl, all_app hx.ok hT, ho⟩
theorem bg1_does (w : WorldD) (st : Nat) (v n : Int) (nd : List Nat) : DoesB Tryd.prog fBegun #[thT (ptr st) ptr0 ptr0 ptr0 ptr0, .int .i64 1, .int .u64 v, .int .i64 n] [] [] (begunQ w 1 v n (TS st nd)) := by
 refine does_of S0_holds mixed (Sy.Ent.refl _) (bg1_run st v n) fun ns => ?_
 simp only [bg1_R, Sy.Res.holds]
 refine ⟨_, ent_pick (out := tkU (ns 3).n (cPush (ns 1).n (ns 5).n (ns 4).n (ns 2).n) 0 :: ([bx (ns 1).n tSP (ptr st), bx (ns 5).n tFn (cPush (ns 1).n (ns 5).n (ns 4).n (ns 2).n), bx (ns 4).n tTP (ptr (ns 3).n), bx (ns 2).n tU (.int .u64 v)])) [2, 4, 0, 1, 3] (by decide) rfl, ⟨taskW w 1 v n, (ns 3).n, cPush (ns 1).n (ns 5).n (ns 4).n (ns 2).n, nil0, [bx (ns 1).n tSP (ptr st), bx (ns 5).n tFn (cPush (ns 1).n (ns 5).n (ns 4).n (ns 2).n), bx (ns 4).n tTP (ptr (ns 3).n), bx (ns 2).n tU (.int .u64 v)]⟩, rfl, rfl, .push1 (taskW w 1 v n) _ _ _ _ _ _ rfl rfl rfl, ?_⟩
 rw [all_new (by show (1 : Nat) ≠ 0; decide) rfl]
theorem bg2_does (w : WorldD) (st : Nat) (v n : Int) (nd : List Nat) : DoesB Tryd.prog fBegun #[thT (ptr st) ptr0 ptr0 ptr0 ptr0, .int .i64 2, .int .u64 v, .int .i64 n] [] [] (begunQ w 2 v n (TS st nd)) := by
 refine does_of S0_holds mixed (Sy.Ent.refl _) (bg2_run st v n) fun ns => ?_
 simp only [bg2_R, Sy.Res.holds]
 refine ⟨_, ent_pick (out := tkU (ns 2).n (cPop (ns 1).n (ns 3).n (ns 4).n) 0 :: ([bx (ns 1).n tSP (ptr st), bx (ns 4).n tFn (cPop (ns 1).n (ns 3).n (ns 4).n), bx (ns 3).n tTP (ptr (ns 2).n)])) [2, 3, 0, 1] (by decide) rfl, ⟨taskW w 2 v n, (ns 2).n, cPop (ns 1).n (ns 3).n (ns 4).n, nil0, [bx (ns 1).n tSP (ptr st), bx (ns 4).n tFn (cPop (ns 1).n (ns 3).n (ns 4).n), bx (ns 3).n tTP (ptr (ns 2).n)]⟩, rfl, rfl, .pop1 (taskW w 2 v n) _ _ _ _ _ rfl rfl rfl, ?_⟩
 rw [all_new (by show (1 : Nat) ≠ 0; decide) rfl]
theorem bg3_does (w : WorldD) (st : Nat) (v n : Int) (nd : List Nat) : DoesB Tryd.prog fBegun #[thT ptr0 (ptr st) ptr0 ptr0 ptr0, .int .i64 3, .int .u64 v, .int .i64 n] [] [] (begunQ w 3 v n (TQ st nd)) := by
 refine does_of S0_holds mixed (Sy.Ent.refl _) (bg3_run st v n) fun ns => ?_
 simp only [bg3_R, Sy.Res.holds]
 refine ⟨_, ent_pick (out := tkU (ns 3).n (cPut (ns 1).n (ns 7).n (ns 5).n (ns 6).n (ns 2).n) 0 :: (putB st (ns 1).n (ns 7).n (ns 5).n (ns 6).n (ns 2).n (ns 3).n (ns 4).n v ++ [lkB (ns 4).n v ptr0])) [4, 6, 0, 2, 1, 5, 3] (by decide) rfl, ⟨taskW w 3 v n, (ns 3).n, cPut (ns 1).n (ns 7).n (ns 5).n (ns 6).n (ns 2).n, nil0, putB st (ns 1).n (ns 7).n (ns 5).n (ns 6).n (ns 2).n (ns 3).n (ns 4).n v ++ [lkB (ns 4).n v ptr0]⟩, rfl, rfl, .put1 (taskW w 3 v n) _ _ _ _ _ _ _ _ rfl rfl rfl, ?_⟩
 rw [all_new (by show (1 : Nat) ≠ 0; decide) rfl]
theorem bg4_does (w : WorldD) (st : Nat) (v n : Int) (nd : List Nat) : DoesB Tryd.prog fBegun #[thT ptr0 (ptr st) ptr0 ptr0 ptr0, .int .i64 4, .int .u64 v, .int .i64 n] [] [] (begunQ w 4 v n (TQ st nd)) := by
 refine does_of S0_holds mixed (Sy.Ent.refl _) (bg4_run st v n) fun ns => ?_
 simp only [bg4_R, Sy.Res.holds]
 refine ⟨_, ent_pick (out := tkU (ns 2).n (cTake (ns 1).n (ns 3).n (ns 4).n) 0 :: (takeB st (ns 1).n (ns 4).n (ns 3).n (ns 2).n)) [2, 3, 0, 1] (by decide) rfl, ⟨taskW w 4 v n, (ns 2).n, cTake (ns 1).n (ns 3).n (ns 4).n, nil0, takeB st (ns 1).n (ns 4).n (ns 3).n (ns 2).n⟩, rfl, rfl, .take1 (taskW w 4 v n) _ _ _ _ _ rfl rfl rfl, ?_⟩
 rw [all_new (by show (1 : Nat) ≠ 0; decide) rfl]
theorem bg5_does (w : WorldD) (st : Nat) (v n : Int) : DoesB Tryd.prog fBegun #[thT ptr0 ptr0 (ptr st) ptr0 ptr0, .int .i64 5, .int .u64 v, .int .i64 n] [] [] (begunQ w 5 v n (TL st)) := by
 refine does_of S0_holds mixed (Sy.Ent.refl _) (bg5_run st v n) fun ns => ?_
 simp only [bg5_R, Sy.Res.holds]
 refine ⟨_, ent_pick (out := tkU (ns 4).n (cChg (ns 2).n (ns 3).n (ns 5).n (ns 6).n) 0 :: (lendB st (ns 2).n (ns 3).n (ns 5).n (ns 6).n (ns 1).n (ns 4).n)) [2, 4, 3, 1, 0, 5] (by decide) rfl, ⟨taskW w 5 v n, (ns 4).n, cChg (ns 2).n (ns 3).n (ns 5).n (ns 6).n, nil0, lendB st (ns 2).n (ns 3).n (ns 5).n (ns 6).n (ns 1).n (ns 4).n⟩, rfl, rfl, .lend1 (taskW w 5 v n) _ _ _ _ _ _ _ rfl rfl rfl, ?_⟩
 rw [all_new (by show (1 : Nat) ≠ 0; decide) rfl]
theorem bg6_does (w : WorldD) (st : Nat) (v n : Int) : DoesB Tryd.prog fBegun #[thT ptr0 ptr0 (ptr st) ptr0 ptr0, .int .i64 6, .int .u64 v, .int .i64 n] [] [] (begunQ w 6 v n (TL st)) := by
 refine does_of S0_holds mixed (Sy.Ent.refl _) (bg6_run st v n) fun ns => ?_
 simp only [bg6_R, Sy.Res.holds]
 refine ⟨_, ent_pick (out := tkU (ns 5).n (cChg (ns 3).n (ns 4).n (ns 6).n (ns 7).n) 0 :: (giveB st (ns 3).n (ns 4).n (ns 6).n (ns 7).n (ns 1).n (ns 2).n (ns 5).n n)) [2, 4, 3, 1, 0, 6, 5] (by decide) rfl, ⟨taskW w 6 v n, (ns 5).n, cChg (ns 3).n (ns 4).n (ns 6).n (ns 7).n, nil0, giveB st (ns 3).n (ns 4).n (ns 6).n (ns 7).n (ns 1).n (ns 2).n (ns 5).n n⟩, rfl, rfl, .give1 (taskW w 6 v n) _ _ _ _ _ _ _ _ rfl rfl rfl, ?_⟩
 rw [all_new (by show (1 : Nat) ≠ 0; decide) rfl]
theorem bg9_does (w : WorldD) (st : Nat) (v n : Int) (dn : Bool) : DoesB Tryd.prog fBegun #[thT ptr0 ptr0 ptr0 ptr0 (ptr st), .int .i64 9, .int .u64 v, .int .i64 n] [] [] (begunQ w 9 v n (TO st dn)) := by
 refine does_of S0_holds mixed (Sy.Ent.refl _) (bg9_run st v n) fun ns => ?_
 simp only [bg9_R, Sy.Res.holds]
 refine ⟨_, ent_pick (out := tkU (ns 3).n (cDo (ns 1).n (ns 2).n (ns 4).n) 0 :: (doB st (ns 1).n (ns 2).n (ns 4).n (ns 3).n v)) [1, 3, 2, 0] (by decide) rfl, ⟨taskW w 9 v n, (ns 3).n, cDo (ns 1).n (ns 2).n (ns 4).n, nil0, doB st (ns 1).n (ns 2).n (ns 4).n (ns 3).n v⟩, rfl, rfl, .do1 (taskW w 9 v n) _ _ _ _ _ rfl rfl rfl, ?_⟩
 rw [all_new (by show (1 : Nat) ≠ 0; decide) rfl]
end Go.Proofs.YtjohknpmhlildaaDoor.At
--@way 3
--@tail 0
namespace Go.Proofs.YtjohknpmhlildaaDoor.At
open Sy.O (fork nil step steps)
open Sy.Res (need hyp br leaf both)
open Go Go.RowKit
open Go.Proofs.YtjohknpmhlildaaDoor.Sy (Let Blk Cont Bun ptr ptr0 bx tkB tkU clo)
abbrev fMade : FuncId := 10
abbrev fThere : FuncId := 12
abbrev fFit : FuncId := 9
abbrev fKind : FuncId := 13
abbrev fDone : FuncId := 19
abbrev fSteps : FuncId := 26
def md1_o : Sy.O := (steps [0, 1, 0, 0, 0, 1, 0, 0, 2, 0, 0, 2, 0] nil)
noncomputable def md1_R (r : Int) (ns : Nat → Sy.Let) : Sy.Res (Value × List Blk) :=
 let z0 := Array.mk [Value.pointer (some ⟨(ns 2).n, 0, none⟩), Value.pointer none, Value.pointer none, Value.pointer none, Value.pointer none]
 let z1 := Cont.obj (Obj.cells z0 31)
 leaf (Value.tuple (Array.mk [Value.agg z0, .int .i64 0]), [Blk.mk (ns 2).n (Cont.obj (Obj.cells (Array.mk [.pointer none]) 110)) true, Blk.mk (ns 1).n z1 true, Blk.mk (ns 0).n z1 true])
theorem md1_run (r : Int) : Sy.Ran (Sy.inB Tryd.prog Sy.S0 50 fMade #[.int .i64 1, .int .i64 r] []) md1_o (md1_R r) := ⟨fun _ => by kernel_rfl, fun _ => by kernel_rfl⟩
def md2_o : Sy.O := (steps [0, 0, 0, 0, 1, 0, 0, 0, 0, 1, 0, 0, 2, 0, 0, 0, 2, 0, 0, 3, 0, 0, 3, 0] nil)
noncomputable def md2_R (r : Int) (ns : Nat → Sy.Let) : Sy.Res (Value × List Blk) :=
 let z0 := Array.mk [Value.pointer none, Value.pointer (some ⟨(ns 2).n, 0, none⟩), Value.pointer none, Value.pointer none, Value.pointer none]
 let z1 := some (Addr.mk (ns 3).n 0 none)
 let z2 := Cont.obj (Obj.cells z0 31)
 leaf (Value.tuple (Array.mk [Value.agg z0, .int .i64 0]), [Blk.mk (ns 3).n (Cont.obj (Obj.cells (Array.mk [.int .u64 0, .pointer none]) 123)) true, Blk.mk (ns 2).n (Cont.obj (Obj.cells (Array.mk [.pointer z1, .pointer z1]) 121)) true, Blk.mk (ns 1).n z2 true, Blk.mk (ns 0).n z2 true])
theorem md2_run (r : Int) : Sy.Ran (Sy.inB Tryd.prog Sy.S0 50 fMade #[.int .i64 2, .int .i64 r] []) md2_o (md2_R r) := ⟨fun _ => by kernel_rfl, fun _ => by kernel_rfl⟩
def md3_o : Sy.O := (steps [0, 0, 0, 1] (fork (steps [0, 0, 0, 0, 0, 0, 0, 1, 0, 0, 1, 0] nil) (steps [1, 0, 0, 0, 1, 0, 0, 2, 0, 0, 2, 0] nil)))
noncomputable def md3_R (r : Int) (ns : Nat → Sy.Let) : Sy.Res (Value × List Blk) :=
 let z0 := Array.mk [Value.pointer none, Value.pointer none, Value.pointer none, Value.pointer none, Value.pointer none]
 let z1 := Cont.obj (Obj.cells z0 31)
 let z2 := Array.mk [Value.pointer none, Value.pointer none, Value.pointer (some ⟨(ns 2).n, 0, none⟩), Value.pointer none, Value.pointer none]
 let z3 := Cont.obj (Obj.cells z2 31)
 br (bif Ex.ltQ r 1 then true else Ex.ltQ 64 r) (leaf (Value.tuple (Array.mk [Value.agg z0, .int .i64 1]), [Blk.mk (ns 1).n z1 true, Blk.mk (ns 0).n z1 true])) (leaf (Value.tuple (Array.mk [Value.agg z2, .int .i64 0]), [Blk.mk (ns 2).n (Cont.obj (Obj.cells (Array.mk [.int .i64 r, .int .u64 0]) 129)) true, Blk.mk (ns 1).n z3 true, Blk.mk (ns 0).n z3 true]))
theorem md3_run (r : Int) : Sy.Ran (Sy.inB Tryd.prog Sy.S0 50 fMade #[.int .i64 3, .int .i64 r] []) md3_o (md3_R r) := ⟨fun _ => by kernel_rfl, fun _ => by kernel_rfl⟩
def md5_o : Sy.O := (steps [0, 0, 0, 0, 1, 0, 0, 0, 1, 0, 0, 2, 0, 0, 2, 0] nil)
noncomputable def md5_R (r : Int) (ns : Nat → Sy.Let) : Sy.Res (Value × List Blk) :=
 let z0 := Array.mk [Value.pointer none, Value.pointer none, Value.pointer none, Value.pointer none, Value.pointer (some ⟨(ns 2).n, 0, none⟩)]
 let z1 := Cont.obj (Obj.cells z0 31)
 leaf (Value.tuple (Array.mk [Value.agg z0, .int .i64 0]), [Blk.mk (ns 2).n (Cont.obj (Obj.cells (Array.mk [.pointer none]) 145)) true, Blk.mk (ns 1).n z1 true, Blk.mk (ns 0).n z1 true])
theorem md5_run (r : Int) : Sy.Ran (Sy.inB Tryd.prog Sy.S0 50 fMade #[.int .i64 5, .int .i64 r] []) md5_o (md5_R r) := ⟨fun _ => by kernel_rfl, fun _ => by kernel_rfl⟩
def fitR_o : Sy.O := (fork nil nil)
noncomputable def fitR_R (t : Int) (ns : Nat → Sy.Let) : Sy.Res (Value × List Blk) :=
 let z0 := Ex.remQ t (nat_lit 5)
 br (Ex.ltQ z0 0) (leaf (Value.int .i64 (Ex.wrapQ .i64 (Ex.addQ (Ex.wrapQ .i64 (Ex.addQ z0 5)) 1)), [])) (leaf (Value.int .i64 (Ex.wrapQ .i64 (Ex.addQ z0 1)), []))
theorem fitR_run (t : Int) : Sy.Ran (Sy.inB Tryd.prog Sy.S0 50 fFit #[.int .i64 t] []) fitR_o (fitR_R t) := ⟨fun _ => by kernel_rfl, fun _ => by kernel_rfl⟩
def th1_o : Sy.O := (steps [0, 0, 0, 0] nil)
noncomputable def th1_R (a b c d e : Value) (st : Nat) (ns : Nat → Sy.Let) : Sy.Res (Value × List Blk) :=
 leaf (Value.bool true, [Blk.mk (ns 0).n (Cont.obj (Obj.cells (Array.mk [.pointer (some ⟨st, 0, none⟩), b, c, d, e]) 31)) true])
theorem th1_run (a b c d e : Value) (st : Nat) : Sy.Ran (Sy.inB Tryd.prog Sy.S0 50 fThere #[thT (ptr st) b c d e, .int .i64 1] []) th1_o (th1_R a b c d e st) := ⟨fun _ => by kernel_rfl, fun _ => by kernel_rfl⟩
def th2_o : Sy.O := (steps [0, 0, 0, 0, 0] nil)
noncomputable def th2_R (a b c d e : Value) (st : Nat) (ns : Nat → Sy.Let) : Sy.Res (Value × List Blk) :=
 leaf (Value.bool true, [Blk.mk (ns 0).n (Cont.obj (Obj.cells (Array.mk [a, .pointer (some ⟨st, 0, none⟩), c, d, e]) 31)) true])
theorem th2_run (a b c d e : Value) (st : Nat) : Sy.Ran (Sy.inB Tryd.prog Sy.S0 50 fThere #[thT a (ptr st) c d e, .int .i64 2] []) th2_o (th2_R a b c d e st) := ⟨fun _ => by kernel_rfl, fun _ => by kernel_rfl⟩
def th3_o : Sy.O := (steps [0, 0, 0, 0, 0, 0] nil)
noncomputable def th3_R (a b c d e : Value) (st : Nat) (ns : Nat → Sy.Let) : Sy.Res (Value × List Blk) :=
 leaf (Value.bool true, [Blk.mk (ns 0).n (Cont.obj (Obj.cells (Array.mk [a, b, .pointer (some ⟨st, 0, none⟩), d, e]) 31)) true])
theorem th3_run (a b c d e : Value) (st : Nat) : Sy.Ran (Sy.inB Tryd.prog Sy.S0 50 fThere #[thT a b (ptr st) d e, .int .i64 3] []) th3_o (th3_R a b c d e st) := ⟨fun _ => by kernel_rfl, fun _ => by kernel_rfl⟩
def th4_o : Sy.O := (steps [0, 0, 0, 0, 0, 0, 0] nil)
noncomputable def th4_R (a b c d e : Value) (st : Nat) (ns : Nat → Sy.Let) : Sy.Res (Value × List Blk) :=
 leaf (Value.bool true, [Blk.mk (ns 0).n (Cont.obj (Obj.cells (Array.mk [a, b, c, .pointer (some ⟨st, 0, none⟩), e]) 31)) true])
theorem th4_run (a b c d e : Value) (st : Nat) : Sy.Ran (Sy.inB Tryd.prog Sy.S0 50 fThere #[thT a b c (ptr st) e, .int .i64 4] []) th4_o (th4_R a b c d e st) := ⟨fun _ => by kernel_rfl, fun _ => by kernel_rfl⟩
def th5_o : Sy.O := (steps [0, 0, 0, 0, 0, 0, 0] nil)
noncomputable def th5_R (a b c d e : Value) (st : Nat) (ns : Nat → Sy.Let) : Sy.Res (Value × List Blk) :=
 leaf (Value.bool true, [Blk.mk (ns 0).n (Cont.obj (Obj.cells (Array.mk [a, b, c, d, .pointer (some ⟨st, 0, none⟩)]) 31)) true])
theorem th5_run (a b c d e : Value) (st : Nat) : Sy.Ran (Sy.inB Tryd.prog Sy.S0 50 fThere #[thT a b c d (ptr st), .int .i64 5] []) th5_o (th5_R a b c d e st) := ⟨fun _ => by kernel_rfl, fun _ => by kernel_rfl⟩
def kd1_o : Sy.O := (steps [0, 0, 0, 0, 0, 0, 1, 0, 0, 1, 1, 1] nil)
noncomputable def kd1_R (n : Int) (ns : Nat → Sy.Let) : Sy.Res (Value × List Blk) :=
 let z0 := Ex.subQ' 1 (Ex.andQ .i64 n 1)
 let z1 := Cont.obj (Obj.cells (Array.mk [.int .i64 9, .int .i64 9, .int .i64 1, .int .i64 2, .int .i64 3, .int .i64 4, .int .i64 5, .int .i64 6, .int .i64 7, .int .i64 8, .int .i64 9, .int .i64 9]) 88)
 let z2 := 2 + Int.toNat (Ex.wrapQ .i64 z0) * 1
 need (0 ≤ Ex.wrapQ .i64 z0 ∧ Ex.wrapQ .i64 z0 < 2) (need (∃ (i : Int), Cont.at z1 z2 = some (Value.int .i64 i)) (hyp (Cont.at z1 z2 = some (Value.int .i64 (ns 1).i)) (leaf (Value.int .i64 (ns 1).i, [Blk.mk (ns 0).n z1 true]))))
theorem kd1_run (n : Int) : Sy.Ran (Sy.inB Tryd.prog Sy.S0 50 fKind #[.int .i64 1, .int .i64 n] []) kd1_o (kd1_R n) := ⟨fun _ => by kernel_rfl, fun _ => by kernel_rfl⟩
def kd2_o : Sy.O := (steps [0, 0, 0, 0, 0, 0, 1, 0, 0, 1, 1, 1] nil)
noncomputable def kd2_R (n : Int) (ns : Nat → Sy.Let) : Sy.Res (Value × List Blk) :=
 let z0 := Ex.subQ' 1 (Ex.andQ .i64 n 1)
 let z1 := Cont.obj (Obj.cells (Array.mk [.int .i64 9, .int .i64 9, .int .i64 1, .int .i64 2, .int .i64 3, .int .i64 4, .int .i64 5, .int .i64 6, .int .i64 7, .int .i64 8, .int .i64 9, .int .i64 9]) 88)
 let z2 := 4 + Int.toNat (Ex.wrapQ .i64 z0) * 1
 need (0 ≤ Ex.wrapQ .i64 z0 ∧ Ex.wrapQ .i64 z0 < 2) (need (∃ (i : Int), Cont.at z1 z2 = some (Value.int .i64 i)) (hyp (Cont.at z1 z2 = some (Value.int .i64 (ns 1).i)) (leaf (Value.int .i64 (ns 1).i, [Blk.mk (ns 0).n z1 true]))))
theorem kd2_run (n : Int) : Sy.Ran (Sy.inB Tryd.prog Sy.S0 50 fKind #[.int .i64 2, .int .i64 n] []) kd2_o (kd2_R n) := ⟨fun _ => by kernel_rfl, fun _ => by kernel_rfl⟩
def kd3_o : Sy.O := (steps [0, 0, 0, 0, 0, 0, 1, 0, 0, 1, 1, 1] nil)
noncomputable def kd3_R (n : Int) (ns : Nat → Sy.Let) : Sy.Res (Value × List Blk) :=
 let z0 := Ex.subQ' 1 (Ex.andQ .i64 n 1)
 let z1 := Cont.obj (Obj.cells (Array.mk [.int .i64 9, .int .i64 9, .int .i64 1, .int .i64 2, .int .i64 3, .int .i64 4, .int .i64 5, .int .i64 6, .int .i64 7, .int .i64 8, .int .i64 9, .int .i64 9]) 88)
 let z2 := 6 + Int.toNat (Ex.wrapQ .i64 z0) * 1
 need (0 ≤ Ex.wrapQ .i64 z0 ∧ Ex.wrapQ .i64 z0 < 2) (need (∃ (i : Int), Cont.at z1 z2 = some (Value.int .i64 i)) (hyp (Cont.at z1 z2 = some (Value.int .i64 (ns 1).i)) (leaf (Value.int .i64 (ns 1).i, [Blk.mk (ns 0).n z1 true]))))
theorem kd3_run (n : Int) : Sy.Ran (Sy.inB Tryd.prog Sy.S0 50 fKind #[.int .i64 3, .int .i64 n] []) kd3_o (kd3_R n) := ⟨fun _ => by kernel_rfl, fun _ => by kernel_rfl⟩
def kd4_o : Sy.O := (steps [0, 0, 0, 0, 0, 0, 1, 0, 0, 1, 1, 1] nil)
noncomputable def kd4_R (n : Int) (ns : Nat → Sy.Let) : Sy.Res (Value × List Blk) :=
 let z0 := Ex.subQ' 1 (Ex.andQ .i64 n 1)
 let z1 := Cont.obj (Obj.cells (Array.mk [.int .i64 9, .int .i64 9, .int .i64 1, .int .i64 2, .int .i64 3, .int .i64 4, .int .i64 5, .int .i64 6, .int .i64 7, .int .i64 8, .int .i64 9, .int .i64 9]) 88)
 let z2 := 8 + Int.toNat (Ex.wrapQ .i64 z0) * 1
 need (0 ≤ Ex.wrapQ .i64 z0 ∧ Ex.wrapQ .i64 z0 < 2) (need (∃ (i : Int), Cont.at z1 z2 = some (Value.int .i64 i)) (hyp (Cont.at z1 z2 = some (Value.int .i64 (ns 1).i)) (leaf (Value.int .i64 (ns 1).i, [Blk.mk (ns 0).n z1 true]))))
theorem kd4_run (n : Int) : Sy.Ran (Sy.inB Tryd.prog Sy.S0 50 fKind #[.int .i64 4, .int .i64 n] []) kd4_o (kd4_R n) := ⟨fun _ => by kernel_rfl, fun _ => by kernel_rfl⟩
def kd5_o : Sy.O := (steps [0, 0, 0, 0, 0, 0, 1, 0, 0, 1, 1, 1] nil)
noncomputable def kd5_R (n : Int) (ns : Nat → Sy.Let) : Sy.Res (Value × List Blk) :=
 let z0 := Ex.subQ' 1 (Ex.andQ .i64 n 1)
 let z1 := Cont.obj (Obj.cells (Array.mk [.int .i64 9, .int .i64 9, .int .i64 1, .int .i64 2, .int .i64 3, .int .i64 4, .int .i64 5, .int .i64 6, .int .i64 7, .int .i64 8, .int .i64 9, .int .i64 9]) 88)
 let z2 := 10 + Int.toNat (Ex.wrapQ .i64 z0) * 1
 need (0 ≤ Ex.wrapQ .i64 z0 ∧ Ex.wrapQ .i64 z0 < 2) (need (∃ (i : Int), Cont.at z1 z2 = some (Value.int .i64 i)) (hyp (Cont.at z1 z2 = some (Value.int .i64 (ns 1).i)) (leaf (Value.int .i64 (ns 1).i, [Blk.mk (ns 0).n z1 true]))))
theorem kd5_run (n : Int) : Sy.Ran (Sy.inB Tryd.prog Sy.S0 50 fKind #[.int .i64 5, .int .i64 n] []) kd5_o (kd5_R n) := ⟨fun _ => by kernel_rfl, fun _ => by kernel_rfl⟩
end Go.Proofs.YtjohknpmhlildaaDoor.At
namespace Go.Proofs.YtjohknpmhlildaaDoor.At
open Go Go.RowKit
open Go.Proofs.YtjohknpmhlildaaDoor.Sy (Let Blk Cont Bun ptr ptr0 bx tkB tkU clo DoesB usedK ownOf rdsOf Rep does_frame does_perm does_mono does_all does_of S0_holds)
open Go.Proofs.YtjohknpmhlildaaDoor.As
def HeapX (w : WorldD) (st : Nat) (tks : List Nat) (b : Bun) : Prop :=
 (w.thing = 1 ∧ HeapS w st tks b) ∨ (w.thing = 2 ∧ HeapQ w st tks b) ∨ (w.thing = 4 ∧ HeapN w st tks b) ∨ (w.thing = 5 ∧ HeapO w st tks b)
def Heap (w : WorldD) (st : Nat) (tks : List Nat) (b : Bun) : Prop := (w.thing = 3 ∧ HeapL w st tks b) ∨ ∃ b0, b.Perm (b0 ++ [tabB]) ∧ HeapX w st tks b0
theorem stepQ_mono {H H' : WorldD → Bun → Prop} {w : WorldD} {n : Nat} (h : ∀ o, H (stepW w n) o → H' (stepW w n) o) {r : Value} {o : Bun} (hq : stepQ H w n r o) : stepQ H' w n r o := ⟨hq.1, h o hq.2⟩
theorem step_heapX {w : WorldD} {st : Nat} {tks : List Nat} {b : Bun} (hH : HeapX w st tks b) {n : Nat} {t : TaskD} {tk : Nat} (ht : w.tasks[n]? = some t) (hp : t.pc ≠ 0) (hs : t.steps < 4611686018427387904) (htk : tks[n]? = some tk) :
  DoesB Tryd.prog fStep #[ptr tk] [] b (stepQ (fun w' o => HeapX w' st tks o) w n) := by
 have hth := (step_thing w n).1
 rcases hH with ⟨e, h⟩ | ⟨e, h⟩ | ⟨e, h⟩ | ⟨e, h⟩
 ·exact does_mono (step_stack h ht hp hs htk) fun r o => stepQ_mono fun o ho => .inl ⟨hth.trans e, ho⟩
 ·exact does_mono (step_queue h ht hp hs htk) fun r o => stepQ_mono fun o ho => .inr (.inl ⟨hth.trans e, ho⟩)
 ·exact does_mono (step_snap h ht hp hs htk) fun r o => stepQ_mono fun o ho => .inr (.inr (.inl ⟨hth.trans e, ho⟩))
 ·exact does_mono (step_once h ht hp hs htk) fun r o => stepQ_mono fun o ho => .inr (.inr (.inr ⟨hth.trans e, ho⟩))
theorem step_heap {w : WorldD} {st : Nat} {tks : List Nat} {b : Bun} (hH : Heap w st tks b) {n : Nat} {t : TaskD} {tk : Nat} (ht : w.tasks[n]? = some t) (hp : t.pc ≠ 0) (hs : t.steps < 4611686018427387904) (htk : tks[n]? = some tk) :
  DoesB Tryd.prog fStep #[ptr tk] [] b (stepQ (fun w' o => Heap w' st tks o) w n) := by
 have hth := (step_thing w n).1
 rcases hH with ⟨e, h⟩ | ⟨b0, hb, h⟩
 ·exact does_mono (step_slots h ht hp hs htk) fun r o => stepQ_mono fun o ho => .inl ⟨hth.trans e, ho⟩
 ·refine does_all (step_heapX h ht hp hs htk) (fun p hp => nomatch hp) hb.symm fun r o hq => ⟨o ++ [tabB], List.Perm.refl _, hq.1, .inr ⟨o, List.Perm.refl _, hq.2⟩⟩
def taskIn (tks : List Nat) (w : WorldD) (b : Bun) : Prop := tks.length = w.tasks.length ∧ ∀ (n : Nat) (t : TaskD) (tk : Nat), w.tasks[n]? = some t → tks[n]? = some tk → ∃ x : TaskH, x.d = t ∧ x.tk = tk ∧ ∃ oth, b.Perm (x.cell :: oth)
theorem task_of {xs : List TaskH} {tks : List Nat} {w : WorldD} {th s b : Bun} (hd : xs.map (·.d) = w.tasks) (htk : xs.map (·.tk) = tks) (hb : b.Perm (th ++ (allH xs ++ s))) : taskIn tks w b := by
 refine ⟨by rw [← htk, ← hd]; simp, fun n t tk ht hk => ?_⟩
 obtain ⟨x, hx, hxd⟩ := at_d hd ht
 have : x.tk = tk := by
  subst htk
  rw [List.getElem?_map, hx] at hk
  injection hk
 refine ⟨x, hxd, this, x.bl ++ (allH (xs.take n ++ xs.drop (n + 1)) ++ (th ++ s)), ?_⟩
 refine hb.trans ?_
 have h1 := allH_at hx
 refine (List.Perm.append_left th (List.Perm.append_right s h1)).trans ?_
 show List.Perm _ (x.all ++ _)
 letI : DecidableEq (Nat × Cont) := Classical.typeDecidableEq _
 refine List.perm_iff_count.2 fun p => ?_
 simp only [List.count_append]
 omega
theorem taskIn_app {tks : List Nat} {w : WorldD} {b b0 : Bun} {c : Nat × Cont} (h : taskIn tks w b0) (hb : b.Perm (b0 ++ [c])) : taskIn tks w b := ⟨h.1, fun n t tk ht hk => by
 obtain ⟨x, h1, h2, oth, h3⟩ := h.2 n t tk ht hk
 exact ⟨x, h1, h2, oth ++ [c], hb.trans (List.Perm.append_right _ h3)⟩⟩
theorem heap_task {w : WorldD} {st : Nat} {tks : List Nat} {b : Bun} (h : Heap w st tks b) : taskIn tks w b := by
 rcases h with ⟨-, xs, hx⟩ | ⟨b0, hb, h⟩
 ·exact task_of hx.d hx.tk hx.perm
 ·refine taskIn_app ?_ hb
  rcases h with ⟨-, xs, nd, hx⟩ | ⟨-, xs, nd, hx⟩ | ⟨-, xs, Z, hx⟩ | ⟨-, xs, wb, hx⟩
  ·exact task_of hx.d hx.tk hx.perm
  ·exact task_of hx.d hx.tk hx.perm
  ·exact task_of hx.d hx.tk hx.perm
  ·exact task_of hx.d hx.tk hx.perm
open Go.Proofs.YtjohknpmhlildaaDoor.Sy (Let Blk Cont Bun ptr ptr0 bx tkB tkU clo DoesB usedK ownOf rdsOf Rep does_frame does_perm does_mono does_all does_of S0_holds)
open Go.Proofs.YtjohknpmhlildaaDoor.As
def MeetsA (c : Sy.CallC) : Prop := Sy.Meets Tryd.prog c
def okM (c : Sy.CallC) : Sy.CallC := { c with ok := c.ok ∧ MeetsA c }
theorem okM_met (c : Sy.CallC) : Sy.Meets Tryd.prog (okM c) := fun hok W hpre => hok.2 hok.1 W hpre
def rdC (f : FuncId) (args : Array Value) (b : Bun) (v : Value) : Sy.CallC := ⟨f, args, True, ⟨[], [], 0, b⟩, [Sy.plainO v]⟩
def mkC (f : FuncId) (args : Array Value) (b : Bun) (Q : Value → Bun → Prop) : Sy.CallC := Sy.doesC f args True b (fun l => .bool l.b) Q
theorem rd_meets {f : FuncId} {args : Array Value} {rd b : Bun} {v : Value} (h : DoesB Tryd.prog f args rd [] fun r o => r = v ∧ o = []) (hr : ∀ p ∈ rd, p ∈ b) : Sy.Meets Tryd.prog (rdC f args b v) := fun _ W hpre => by
 have pre : Rep W (usedK []) (rdsOf rd ++ ([] : Bun).map ownOf) W := by
  refine ⟨rfl, rfl, rfl, Nat.le_refl _, fun _ _ _ => rfl, fun q hq => ?_, ?_⟩
  ·rw [List.map_nil, List.append_nil] at hq
   obtain ⟨p, hp, rfl⟩ := List.mem_map.1 hq
   exact ⟨hpre.rb p (hr p hp), fun h => by cases h⟩
  ·rw [List.map_nil, List.append_nil, rdsOf, List.pairwise_map]
   exact List.pairwise_of_forall fun a b h => by cases h
 refine (h W pre).mono ?_
 rintro en W' ⟨v', out, rfl, h2, rfl, rfl⟩
 refine ⟨_, Sy.mS _, [], rfl, Sy.post_of_ent ?_ rfl trivial⟩
 exact h2.keep_eq (k' := Sy.keepOf (rdC f args b v').mem) fun n => ⟨fun _ p hp => (by cases hp), fun _ p hp => (by cases hp)⟩
theorem mk_meets {f : FuncId} {args : Array Value} {b : Bun} {Q : Value → Bun → Prop} (h : DoesB Tryd.prog f args [] b Q) (hQ : ∀ v o, Q v o → ∃ x, v = .bool x) : Sy.Meets Tryd.prog (mkC f args b Q) :=
 Sy.does_meets (fun _ _ => h) fun v out hq => by
  obtain ⟨x, rfl⟩ := hQ v out hq
  exact ⟨⟨0, 0, x, undef, [], out⟩, rfl, rfl⟩
end Go.Proofs.YtjohknpmhlildaaDoor.At
--@way 3
--@tail 0
namespace Go.Proofs.YtjohknpmhlildaaDoor.At
open Sy.O (fork nil step steps)
open Sy.Res (need hyp br leaf both)
open Go Go.RowKit
open Go.Proofs.YtjohknpmhlildaaDoor.Sy (Let Blk Cont Bun ptr ptr0 bx tkB tkU clo)
abbrev fPlay : FuncId := 24
def bodyPl : Code := Sy.loopBody Tryd.f24 0
def ctxPl (b : Bun) (R : List Blk) (Q : Value → Bun → Prop) (gp sp : Nat) (C : Cont) (p : Int) (tr m tc kt tk : Nat) (ts : List Value) (dn : Bool) : Sy.Ctx :=
 Sy.mkU (Sy.mkS [(fDone, fun a _ => okM (rdC fDone #[ptr tk] b (.bool dn)))] [] [(fPlay, 15, fun a _ => ldP tI gp C sp (.int .i64 p) 14 a), (fPlay, 32, fun a _ => ldP tTP tr (.row tTP 1 (m + 1) tc ts) kt (ptr tk) 31 a)])
  [(fStep, fun a _ => (okM (mkC fStep #[ptr tk] b Q)).toU [] b R)] []
def slPl (tr m tc gp o np pc : Nat) (n : Int) (i : Nat) : List (Nat × Value) := [(0, sl tr (m + 1) tc), (5, .int .i64 n), (10, .slice (some ⟨gp, o, none⟩) np pc), (11, .int .i64 (Int.ofNat np)), (12, .int .i64 (Int.ofNat i))]
def pl_o : Sy.O := (fork (steps [0, 1, 1, 1, 0, 0, 0, 0] (fork (steps [0, 0, 1, 0, 0, 1, 0, 0, 1, 0, 1, 0, 0, 1] (fork (steps [0, 0, 0, 1] nil) nil)) (steps [0, 1, 0, 0, 1, 0, 0, 1, 0, 1, 0, 0, 1] (fork (steps [0, 0, 0, 1] nil) nil)))) nil)
noncomputable def pl_R (b : Bun) (R TL : List Blk) (Q : Value → Bun → Prop) (gp o np pc sp : Nat) (C : Cont) (p : Int) (tr m tc kt tk : Nat) (ts : List Value) (dn : Bool) (n : Int) (i : Nat) (f : Nat → Value) (ns : Nat → Sy.Let) : Sy.Res (Exit × Nat × List Value × List Blk) :=
 let z0 := Int.ofNat i
 let z1 := Int.ofNat np
 let z2 := m + 1
 let z3 := Cont.row 48 1 z2 tc ts
 let z4 := Blk.mk tr z3 false :: Blk.mk gp C false :: TL
 let z5 := o + Int.toNat z0 * 1
 let z6 := Ex.remQ (ns 0).i z2
 let z7 := Ex.addQ z6 (Int.ofNat z2)
 let z8 := some (Addr.mk tk 0 none)
 let z9 := Array.mk [Value.pointer z8]
 let z10 := fun (p : Nat × Cont) => Blk.mk (Prod.fst p) (Prod.snd p) true
 let z11 := some (Addr.mk tr 0 none)
 let z12 := some (Addr.mk gp o none)
 let z13 := Ex.wrapQ .i64 (Ex.addQ z0 1)
 let z14 := hyp True (need (True ∧ MeetsA (rdC 19 z9 b (Value.bool dn))) (need (Sy.GotL z4 b) (hyp True (br (!dn) (need (True ∧ MeetsA (mkC 17 z9 b Q)) (need (List.Perm z4 ((List.map z10 b).append R)) (hyp (Q (Value.bool (ns 1).b) (Let.q (ns 1))) (leaf (Exit.normal, 42, [Value.slice z11 z2 tc, Value.int .i64 (Ex.wrapQ .i64 (Ex.addQ n 1)), Value.slice z12 np pc, Value.int .i64 z1, Value.int .i64 z13], R.append (List.map z10 (Let.q (ns 1)))))))) (leaf (Exit.normal, 42, [Value.slice z11 z2 tc, Value.int .i64 n, Value.slice z12 np pc, Value.int .i64 z1, Value.int .i64 z13], Blk.mk tr z3 false :: Blk.mk gp C false :: TL))))))
 br (Ex.ltQ z0 z1) (need (0 ≤ Int.ofNat i ∧ Int.ofNat i < (↑np : Int)) (need (∃ (i_1 : Int), Sy.HasL z4 gp z5 (Value.int .i64 i_1)) (hyp (∀ (u : Value), Sy.HasL z4 gp z5 u → u = Value.int .i64 (ns 0).i) (br (Ex.ltQ z6 0) (need (0 ≤ Ex.wrapQ .i64 z7 ∧ Ex.wrapQ .i64 z7 < (↑z2 : Int)) (need (some false = some false ∧ adrV (Value.pointer (some (Addr.mk tr (0 + Int.toNat (Ex.wrapQ .i64 z7) * 1) none))) = Addr.mk tr kt none ∧ Cont.at z3 kt = some (Value.pointer z8)) z14)) (need (0 ≤ Ex.remQ (ns 0).i z2 ∧ Ex.remQ (ns 0).i z2 < (↑z2 : Int)) (need (some false = some false ∧ adrV (Value.pointer (some (Addr.mk tr (0 + Int.toNat z6 * 1) none))) = Addr.mk tr kt none ∧ Cont.at z3 kt = some (Value.pointer z8)) z14)))))) (leaf (Exit.exit 0, 42, [Value.slice z11 z2 tc, Value.int .i64 n, Value.slice z12 np pc, Value.int .i64 z1, Value.int .i64 z0], Blk.mk tr z3 false :: Blk.mk gp C false :: TL))
theorem pl_run (b : Bun) (R TL : List Blk) (Q : Value → Bun → Prop) (gp o np pc sp : Nat) (C : Cont) (p : Int) (tr m tc kt tk : Nat) (ts : List Value) (dn : Bool) (n : Int) (i : Nat) (f : Nat → Value) : Sy.Ran (Sy.pieceT Tryd.prog (ctxPl b R Q gp sp C p tr m tc kt tk ts dn) 50 fPlay bodyPl 42 (slPl tr m tc gp o np pc n i) ((List.range 42).map f) (⟨tr, .row tTP 1 (m + 1) tc ts, false⟩ :: ⟨gp, C, false⟩ :: TL) [0, 5, 10, 11, 12]) pl_o (pl_R b R TL Q gp o np pc sp C p tr m tc kt tk ts dn n i f) := ⟨fun _ => by kernel_rfl, fun _ => by kernel_rfl⟩
def doneRd_o : Sy.O := (steps [0] nil)
noncomputable def doneRd_R (tk : Nat) (nx vw : Value) (d n v : Int) (ok : Bool) (ns : Nat → Sy.Let) : Sy.Res (Value × List Blk) :=
 leaf (Value.bool !Ex.eqQ d 0, [Blk.mk tk (Cont.obj (Obj.cells (Array.mk [nx, .int .u32 d, .int .i64 n, .int .u64 v, .bool ok, vw]) 100)) false])
theorem doneRd_run (tk : Nat) (nx vw : Value) (d n v : Int) (ok : Bool) : Sy.Ran (Sy.inB Tryd.prog Sy.S0 50 fDone #[ptr tk] [⟨tk, (tkB tk nx d n v ok vw).2, false⟩]) doneRd_o (doneRd_R tk nx vw d n v ok) := ⟨fun _ => by kernel_rfl, fun _ => by kernel_rfl⟩
end Go.Proofs.YtjohknpmhlildaaDoor.At
namespace Go.Proofs.YtjohknpmhlildaaDoor.At
open Go Go.RowKit
open Go.Proofs.YtjohknpmhlildaaDoor.Sy (Let Blk Cont Bun ptr ptr0 bx tkB tkU clo DoesB usedK ownOf rdsOf Rep does_frame does_perm does_mono does_all does_of S0_holds bunO)
open Go.Proofs.YtjohknpmhlildaaDoor.As
theorem look_read {w : WorldD} {st : Nat} {tks : List Nat} {b : Bun} (hH : Heap w st tks b) {n : Nat} {t : TaskD} {tk : Nat} (ht : w.tasks[n]? = some t) (htk : tks[n]? = some tk) {f : FuncId} {V : TaskD → Value}
  (h : ∀ x : TaskH, DoesB Tryd.prog f #[ptr x.tk] [x.cell] [] fun r o => r = V x.d ∧ o = []) : Sy.Meets Tryd.prog (rdC f #[ptr tk] b (V t)) := by
 obtain ⟨x, rfl, rfl, oth, hb⟩ := (heap_task hH).2 n t tk ht htk
 exact rd_meets (h x) (in1 (hb.mem_iff.2 Sy.mH))
theorem done_read (x : TaskH) : DoesB Tryd.prog fDone #[ptr x.tk] [x.cell] [] fun r o => r = .bool (x.d.pc == 0) ∧ o = [] := by
 refine does_of S0_holds mixed (Sy.Ent.refl _) (doneRd_run x.tk x.nx (if x.d.pc = 0 then x.vw else nil0) (if x.d.pc = 0 then 1 else 0) x.d.steps (if x.d.pc = 0 then x.d.out else 0) (if x.d.pc = 0 then x.d.ok else false)) fun ns => ?_
 simp only [doneRd_R, Sy.Res.holds]
 refine ⟨[], Sy.Ent.sub (List.nil_sublist _), ?_, rfl⟩
 congr 1
 by_cases h : x.d.pc = 0
 ·simp only [if_pos h, h]
  rfl
 ·simp only [if_neg h]
  rw [beq_eq_false_iff_ne.2 h]
  rfl
theorem step_none {w : WorldD} {n : Nat} {t : TaskD} (ht : w.tasks[n]? = some t) (hp : t.pc = 0) : stepW w n = w := step_done ⟨t, ht, hp⟩
theorem sum_step (w : WorldD) (n : Nat) : sumW (stepW w n) ≤ sumW w + 1 := by
 cases ht : w.tasks[n]? with
 | none => simp [stepW, ht]
 | some t =>
   by_cases hp : t.pc = 0
   ·rw [step_none ht hp]
    exact Nat.le_succ _
   ·rw [step_sum ht hp]
    exact Nat.le_refl _
end Go.Proofs.YtjohknpmhlildaaDoor.At
--@way 3
--@tail 0
namespace Go.Proofs.YtjohknpmhlildaaDoor.At
open Go Go.RowKit
open Go.Proofs.YtjohknpmhlildaaDoor.Sy (Let Blk Cont Bun ptr ptr0 bx tkB tkU clo bunO)
open Go.Proofs.YtjohknpmhlildaaDoor.As
def allB (L : List Blk) : Bun := Classical.choose (p := fun x => x = L.map fun b => (b.nm, b.ct)) ⟨_, rfl⟩
theorem allB_eq (L : List Blk) : allB L = L.map fun b => (b.nm, b.ct) := Classical.choose_spec (p := fun x => x = L.map fun b => (b.nm, b.ct)) ⟨_, rfl⟩
theorem allB_own (b : Bun) : allB (b.map Sy.ownOf) = b := by
 rw [allB_eq, List.map_map]
 exact List.map_id' _
end Go.Proofs.YtjohknpmhlildaaDoor.At
namespace Go.Proofs.YtjohknpmhlildaaDoor.At
open Go Go.RowKit
open Go.Proofs.YtjohknpmhlildaaDoor.Sy (Let Blk Cont Bun ptr ptr0 bx tkB tkU clo DoesB usedK ownOf rdsOf Rep does_frame does_perm does_mono does_all does_of S0_holds bunO)
open Go.Proofs.YtjohknpmhlildaaDoor.As
def stepP (w : WorldD) (p : Int) : WorldD := if w.tasks = [] then w else stepW w (pickW p w.tasks.length)
theorem play_take (w : WorldD) (P : List Int) {i : Nat} (h : i < P.length) : playW w (P.take (i + 1)) = stepP (playW w (P.take i)) (P.getD i 0) := by
 unfold playW
 rw [List.take_add_one, List.foldl_append, List.getD_eq_getElem?_getD, List.getElem?_eq_getElem h]
 rfl
theorem play_len (w : WorldD) : ∀ P : List Int, (playW w P).tasks.length = w.tasks.length := by
 intro P
 induction P generalizing w with
 | nil => rfl
 | cons p P ih =>
   show (playW (stepP w p) P).tasks.length = _
   rw [ih]
   unfold stepP
   split
   ·rfl
   ·exact step_len _ _
theorem play_sum (w : WorldD) : ∀ P : List Int, sumW (playW w P) ≤ sumW w + P.length := by
 intro P
 induction P generalizing w with
 | nil => exact Nat.le_refl _
 | cons p P ih =>
   show sumW (playW (stepP w p) P) ≤ _
   have h1 := ih (stepP w p)
   have h2 : sumW (stepP w p) ≤ sumW w + 1 := by
    unfold stepP
    split
    ·exact Nat.le_succ _
    ·exact sum_step _ _
   rw [List.length_cons]
   omega
theorem rem_pick (p : Int) (m : Nat) (hm : m < 1000000) : (Ex.ltQ (Ex.remQ p (m + 1)) 0 = true → Ex.wrapQ .i64 (Ex.addQ (Ex.remQ p (m + 1)) (Int.ofNat (m + 1))) = (pickW p (m + 1) : Int)) ∧ (Ex.ltQ (Ex.remQ p (m + 1)) 0 = false → Ex.remQ p (m + 1) = (pickW p (m + 1) : Int)) := by
 have hn : (0 : Int) < ((m + 1 : Nat) : Int) := by omega
 have he0 := Int.emod_nonneg p (show ((m + 1 : Nat) : Int) ≠ 0 by omega)
 have he1 := Int.emod_lt_of_pos p hn
 have hpick : (pickW p (m + 1) : Int) = p % ((m + 1 : Nat) : Int) := by
  unfold pickW
  omega
 have hrem : Ex.remQ p (m + 1) = p.tmod ((m + 1 : Nat) : Int) := Ex.remQ_eq p (m + 1)
 have ht : p.tmod ((m + 1 : Nat) : Int) = p % ((m + 1 : Nat) : Int) ∨ p.tmod ((m + 1 : Nat) : Int) = p % ((m + 1 : Nat) : Int) - ((m + 1 : Nat) : Int) := by
  rw [Int.tmod_eq_emod]
  split
  ·exact .inl (by omega)
  ·exact .inr (by omega)
 rw [hrem, hpick]
 refine ⟨fun h => ?_, fun h => ?_⟩
 ·rw [Ex.ltQ_eq] at h
  have h := of_decide_eq_true h
  have e : Ex.addQ (p.tmod ((m + 1 : Nat) : Int)) (Int.ofNat (m + 1)) = p % ((m + 1 : Nat) : Int) := by
   rw [Ex.addQ_eq]
   show _ + ((m + 1 : Nat) : Int) = _
   omega
  rw [e, Ex.wrapQ_eq, IntKind.wrap_i64]
  generalize p % ((m + 1 : Nat) : Int) = z at he0 he1
  omega
 ·rw [Ex.ltQ_eq] at h
  have h := of_decide_eq_false h
  omega
structure okPl (w : WorldD) (st : Nat) (tks : List Nat) (b : Bun) (o np m : Nat) (C : Cont) (P : List Int) : Prop where
 heap : Heap w st tks b
 len : tks.length = m + 1
 nq : P.length = np
 at' : ∀ i, i < np → C.at (o + i) = some (.int .i64 (P.getD i 0))
 lt : sumW w + np < 4611686018427387904
 mb : m < 1000000
def plC (w : WorldD) (st : Nat) (tks : List Nat) (b : Bun) (gp o np pc tr m tc : Nat) (C : Cont) (P : List Int) : Sy.LoopC :=
 ⟨.loop bodyPl, 42, slPl tr m tc gp o np pc 0 0, okPl w st tks b o np m C P, ⟨[(tr, .row tTP 1 (m + 1) tc (ptrs tks))], b, 2, [(gp, C)]⟩,
  [(⟨fun ns => Heap (playW w P) st tks (bunO ns) ∧ sumW (playW w P) = sumW w + Sy.num ns 1, fun _ => [], bunO⟩, .exit 0, fun ns => [(5, .int .i64 (Int.ofNat (Sy.num ns 1)))])]⟩
abbrev roPl (gp tr m tc : Nat) (C : Cont) (tks : List Nat) : List Blk := [⟨tr, .row tTP 1 (m + 1) tc (ptrs tks), false⟩, ⟨gp, C, false⟩]
def tk0 : TaskD := ⟨0, 0, 0, 0, 0, 0, 0, 0, 0, [], [], [], [], 0, false, []⟩
def kPl (m : Nat) (P : List Int) (i : Nat) : Nat := pickW (P.getD i 0) (m + 1)
def qPl (w : WorldD) (st : Nat) (tks : List Nat) (m : Nat) (P : List Int) (i : Nat) : Value → Bun → Prop := stepQ (fun w' o => Heap w' st tks o) (playW w (P.take i)) (kPl m P i)
def dPl (w : WorldD) (m : Nat) (P : List Int) (i : Nat) : Bool := ((playW w (P.take i)).tasks.getD (kPl m P i) tk0).pc == 0
theorem ctxPl_holds (b : Bun) (R : List Blk) (Q : Value → Bun → Prop) (gp sp : Nat) (C : Cont) (p : Int) (tr m tc kt tk : Nat) (ts : List Value) (dn : Bool) : (ctxPl b R Q gp sp C p tr m tc kt tk ts dn).holds Tryd.prog := Sy.mkU_holds (Sy.mkS_holds (fun p hp a L => by
 rcases List.mem_singleton.1 hp with rfl
 exact okM_met _) (fun _ h => (by cases h)) (fun p hp a L => by
 rcases List.mem_cons.1 hp with rfl | hp
 ·exact ldP_met _ _ _ _ _ _ _
 ·rcases List.mem_singleton.1 hp with rfl
  exact ldP_met _ _ _ _ _ _ _)) (fun p hp a L => by
 rcases List.mem_singleton.1 hp with rfl
 exact okM_met _) (fun _ h => (by cases h))
theorem plC_met (w : WorldD) (st : Nat) (tks : List Nat) (b : Bun) (gp o np pc tr m tc : Nat) (C : Cont) (P : List Int) : Sy.MeetsL Tryd.prog (plC w st tks b gp o np pc tr m tc C P) := by
 refine Sy.loop_ofB (σ := Nat × Nat × Bun) (S := fun s => ctxPl s.2.2 (roPl gp tr m tc C tks) (qPl w st tks m P s.1) gp 0 C 0 tr m tc (kPl m P s.1) (tks.getD (kPl m P s.1) 0) (ptrs tks) (dPl w m P s.1)) (n := 50) (fn := fPlay) (fun _ => ctxPl_holds _ _ _ _ _ _ _ _ _ _ _ _ _ _) mixed (body := bodyPl) rfl [0, 5, 10, 11, 12]
  (fun s => slPl tr m tc gp o np pc (Int.ofNat s.2.1) s.1) (fun s => ⟨tr, .row tTP 1 (m + 1) tc (ptrs tks), false⟩ :: ⟨gp, C, false⟩ :: s.2.2.map ownOf)
  (fun s => okPl w st tks b o np m C P ∧ s.1 ≤ np ∧ Heap (playW w (P.take s.1)) st tks s.2.2 ∧ sumW (playW w (P.take s.1)) = sumW w + s.2.1) (fun s => np - s.1)
  (0, 0, b) (fun h => ⟨h, Nat.zero_le _, h.heap, rfl⟩) (fun p hp => hp) (Sy.Ent.perm (List.Perm.cons _ (List.perm_append_comm (l₁ := b.map ownOf) (l₂ := [(⟨gp, C, false⟩ : Blk)]))))
  (o := fun _ => pl_o) (R := fun s f => pl_R s.2.2 (roPl gp tr m tc C tks) (s.2.2.map ownOf) (qPl w st tks m P s.1) gp o np pc 0 C 0 tr m tc (kPl m P s.1) (tks.getD (kPl m P s.1) 0) (ptrs tks) (dPl w m P s.1) (Int.ofNat s.2.1) s.1 f)
  (fun s f _ => pl_run s.2.2 (roPl gp tr m tc C tks) (s.2.2.map ownOf) (qPl w st tks m P s.1) gp o np pc 0 C 0 tr m tc (kPl m P s.1) (tks.getD (kPl m P s.1) 0) (ptrs tks) (dPl w m P s.1) (Int.ofNat s.2.1) s.1 f) ?_
 rintro - ⟨i, n, q⟩ f ⟨hok, hi, hH, hsum⟩ ns
 simp only at hi hH hsum
 have hlt := hok.lt
 have hnp := hok.nq
 have hm := hok.mb
 have hps := play_sum w (P.take i)
 have hil : (P.take i).length ≤ i := by rw [List.length_take]; omega
 have hwi : Ex.wrapQ .i64 (Ex.addQ (Int.ofNat i) 1) = Int.ofNat (i + 1) := stp_nat (k := i) (by omega)
 have hwn : Ex.wrapQ .i64 (Ex.addQ (Int.ofNat n) 1) = Int.ofNat (n + 1) := stp_nat (k := n) (by omega)
 have hlen : (playW w (P.take i)).tasks.length = m + 1 := by rw [play_len, ← (heap_task hok.heap).1, hok.len]
 have hk : kPl m P i < m + 1 := by
  unfold kPl pickW
  have := Int.emod_lt_of_pos (P.getD i 0) (show (0 : Int) < ((m + 1 : Nat) : Int) by omega)
  omega
 obtain ⟨t, ht⟩ : ∃ t, (playW w (P.take i)).tasks[kPl m P i]? = some t := ⟨_, List.getElem?_eq_getElem (by omega)⟩
 have htk : tks[kPl m P i]? = some (tks.getD (kPl m P i) 0) := by
  have hl : kPl m P i < tks.length := by rw [hok.len]; exact hk
  rw [List.getD_eq_getElem?_getD, List.getElem?_eq_getElem hl]
  rfl
 have hdn : dPl w m P i = (t.pc == 0) := by
  unfold dPl
  rw [List.getD_eq_getElem?_getD, ht]
  rfl
 have hsteps : t.steps < 4611686018427387904 := by have := steps_le ht; omega
 have hat : (Cont.row tTP 1 (m + 1) tc (ptrs tks)).at (kPl m P i) = some (ptr (tks.getD (kPl m P i) 0)) := ptrs_at (by rw [hok.len]; exact hk)

 have hend : ∀ (n' : Nat) (q' : Bun), Heap (stepP (playW w (P.take i)) (P.getD i 0)) st tks q' → sumW (stepP (playW w (P.take i)) (P.getD i 0)) = sumW w + n' → i < np →
   Sy.leafLB (plC w st tks b gp o np pc tr m tc C P) [0, 5, 10, 11, 12] (fun s : Nat × Nat × Bun => slPl tr m tc gp o np pc (Int.ofNat s.2.1) s.1) (fun s => ⟨tr, .row tTP 1 (m + 1) tc (ptrs tks), false⟩ :: ⟨gp, C, false⟩ :: s.2.2.map ownOf)
    (fun s => okPl w st tks b o np m C P ∧ s.1 ≤ np ∧ Heap (playW w (P.take s.1)) st tks s.2.2 ∧ sumW (playW w (P.take s.1)) = sumW w + s.2.1) (fun s => np - s.1) (i, n, q)
    (.normal, 42, [sl tr (m + 1) tc, .int .i64 (Int.ofNat n'), .slice (some ⟨gp, o, none⟩) np pc, .int .i64 (Int.ofNat np), .int .i64 (Int.ofNat (i + 1))], ⟨tr, .row tTP 1 (m + 1) tc (ptrs tks), false⟩ :: ⟨gp, C, false⟩ :: q'.map ownOf) := by
  intro n' q' h1 h2 h3
  have e := play_take w P (i := i) (by omega)
  exact ⟨rfl, .inl ⟨rfl, (i + 1, n', q'), ⟨hok, h3, by show Heap (playW w (P.take (i + 1))) st tks q'; rw [e]; exact h1, by show sumW (playW w (P.take (i + 1))) = _; rw [e]; exact h2⟩, by show np - (i + 1) < np - i; omega, rfl, Sy.Ent.refl _⟩⟩
 have hstepP : stepP (playW w (P.take i)) (P.getD i 0) = stepW (playW w (P.take i)) (kPl m P i) := by
  unfold stepP kPl
  rw [if_neg (fun h => by rw [h] at hlen; simp at hlen), hlen]
 simp only [pl_R, Sy.Res.holds, hwi, hwn]
 refine ⟨fun hl => ?_, fun hl => ?_⟩
 ·have hl : i < np := by rw [ltq_nat] at hl; exact of_decide_eq_true hl
  have hsp : o + Int.toNat (Int.ofNat i) * 1 = o + i := by simp
  have hhas : Sy.HasL (⟨tr, .row tTP 1 (m + 1) tc (ptrs tks), false⟩ :: ⟨gp, C, false⟩ :: q.map ownOf) gp (o + Int.toNat (Int.ofNat i) * 1) (.int .i64 (P.getD i 0)) := by
   rw [hsp]
   exact ⟨_, Sy.mC _ Sy.mH, rfl, hok.at' i hl⟩
  refine ⟨⟨Int.natCast_nonneg i, by show (i : Int) < _; omega⟩, ⟨_, hhas⟩, fun hu => ?_⟩
  have hp := hu _ hhas
  injection hp with _ hp
  rw [← hp]
  obtain ⟨hr1, hr2⟩ := rem_pick (P.getD i 0) m hm
  have hpk : (pickW (P.getD i 0) (m + 1) : Int) = ((kPl m P i : Nat) : Int) := rfl
  have hk' : (0 : Int) ≤ ((kPl m P i : Nat) : Int) ∧ ((kPl m P i : Nat) : Int) < ((m + 1 : Nat) : Int) := ⟨by omega, by omega⟩
  have hgot : Sy.GotL (⟨tr, .row tTP 1 (m + 1) tc (ptrs tks), false⟩ :: ⟨gp, C, false⟩ :: q.map ownOf) q := fun p hp => ⟨ownOf p, Sy.mC _ (Sy.mC _ (List.mem_map.2 ⟨p, hp, rfl⟩)), rfl, fun _ h => h⟩
  have hrd : MeetsA (rdC fDone #[ptr (tks.getD (kPl m P i) 0)] q (.bool (dPl w m P i))) := by
   rw [hdn]
   exact look_read hH ht htk (V := fun d => .bool (d.pc == 0)) done_read
  have hmk : t.pc ≠ 0 → MeetsA (mkC fStep #[ptr (tks.getD (kPl m P i) 0)] q (qPl w st tks m P i)) := fun hp => mk_meets (step_heap hH ht hp hsteps htk) fun v o hq => by obtain ⟨⟨t', -, e⟩, -⟩ := hq; exact ⟨_, e⟩
  have hperm : List.Perm (⟨tr, .row tTP 1 (m + 1) tc (ptrs tks), false⟩ :: ⟨gp, C, false⟩ :: q.map ownOf) (List.append (List.map (fun p : Nat × Cont => (⟨p.1, p.2, true⟩ : Blk)) q) (roPl gp tr m tc C tks)) := List.perm_append_comm (l₁ := roPl gp tr m tc C tks) (l₂ := q.map ownOf)
  have hon : (!dPl w m P i) = true → t.pc ≠ 0 := fun h e => by rw [hdn, e] at h; simp at h
  have hoff : (!dPl w m P i) = false → t.pc = 0 := fun h => by
   by_cases e : t.pc = 0
   ·exact e
   ·rw [hdn, beq_eq_false_iff_ne.2 e] at h
    cases h
  have hdo : ∀ (hp : t.pc ≠ 0) (l : Let), qPl w st tks m P i (.bool (ns 1).b) (ns 1).q → Heap (stepP (playW w (P.take i)) (P.getD i 0)) st tks (ns 1).q ∧ sumW (stepP (playW w (P.take i)) (P.getD i 0)) = sumW w + (n + 1) := fun hp l hq => by
   rw [hstepP]
   exact ⟨hq.2, by rw [step_sum ht hp, hsum]; omega⟩
  have hno : t.pc = 0 → Heap (stepP (playW w (P.take i)) (P.getD i 0)) st tks q ∧ sumW (stepP (playW w (P.take i)) (P.getD i 0)) = sumW w + n := fun hp => by
   rw [hstepP, step_none ht hp]
   exact ⟨hH, hsum⟩
  refine ⟨fun hneg => ?_, fun hpos => ?_⟩
  ·have hv := hr1 hneg
   rw [hv, hpk]
   refine ⟨hk', ⟨trivial, by simp [adrV], hat⟩, fun _ => ⟨⟨trivial, hrd⟩, hgot, fun _ => ⟨fun hd => ⟨⟨trivial, hmk (hon hd)⟩, hperm, fun hq => ?_⟩, fun hd => ?_⟩⟩⟩
   ·obtain ⟨h1, h2⟩ := hdo (hon hd) Let.none hq
    exact hend (n + 1) (ns 1).q h1 h2 hl
   ·obtain ⟨h1, h2⟩ := hno (hoff hd)
    exact hend n q h1 h2 hl
  ·have hv := hr2 hpos
   rw [hv, hpk]
   refine ⟨hk', ⟨trivial, by simp [adrV], hat⟩, fun _ => ⟨⟨trivial, hrd⟩, hgot, fun _ => ⟨fun hd => ⟨⟨trivial, hmk (hon hd)⟩, hperm, fun hq => ?_⟩, fun hd => ?_⟩⟩⟩
   ·obtain ⟨h1, h2⟩ := hdo (hon hd) Let.none hq
    exact hend (n + 1) (ns 1).q h1 h2 hl
   ·obtain ⟨h1, h2⟩ := hno (hoff hd)
    exact hend n q h1 h2 hl
 ·have hl : i = np := by rw [ltq_nat] at hl; have := of_decide_eq_false hl; omega
  subst hl
  have hall : P.take i = P := List.take_of_length_le (by omega)
  rw [hall] at hH hsum
  exact ⟨rfl, .inr ⟨by simp, _, Sy.mS _, rfl, [⟨0, 0, false, undef, [], q⟩, ⟨n, 0, false, undef, [], []⟩], rfl, ⟨[1], rfl⟩, Sy.Ent.sub (.cons _ (.cons _ (List.Sublist.refl _))), hH, hsum⟩⟩
end Go.Proofs.YtjohknpmhlildaaDoor.At
--@way 3
--@tail 0
namespace Go.Proofs.YtjohknpmhlildaaDoor.At
open Sy.O (fork nil step steps)
open Sy.Res (need hyp br leaf both)
open Go Go.RowKit
open Go.Proofs.YtjohknpmhlildaaDoor.Sy (Let Blk Cont Bun ptr ptr0 bx tkB tkU clo bunO)
open Go.Proofs.YtjohknpmhlildaaDoor.As
def ctxPlF (w : WorldD) (st : Nat) (tks : List Nat) (b : Bun) (gp o np pc tr m tc : Nat) (C : Cont) (P : List Int) (R : List Blk) : Sy.Ctx :=
 Sy.mkU Sy.S0 [] [(fPlay, fun _ _ => (plC w st tks b gp o np pc tr m tc C P).toU [] b R)]
theorem ctxPlF_holds (w : WorldD) (st : Nat) (tks : List Nat) (b : Bun) (gp o np pc tr m tc : Nat) (C : Cont) (P : List Int) (R : List Blk) : (ctxPlF w st tks b gp o np pc tr m tc C P R).holds Tryd.prog := Sy.mkU_holds Sy.S0_holds (fun _ h => (by cases h)) (fun p hp a L => by
 rcases List.mem_singleton.1 hp with rfl
 exact plC_met _ _ _ _ _ _ _ _ _ _ _ _ _)
def plF_o : Sy.O := (steps [0, 0, 0, 1, 0, 1, 0, 1] nil)
noncomputable def plF_R (w : WorldD) (st : Nat) (tks : List Nat) (b : Bun) (gp o np pc tr m tc : Nat) (C : Cont) (P : List Int) (R TL : List Blk) (ns : Nat → Sy.Let) : Sy.Res (Value × List Blk) :=
 let z0 := fun (p : Nat × Cont) => Blk.mk (Prod.fst p) (Prod.snd p) true
 let z1 := Cont.row 48 1 (m + 1) tc (ptrs tks)
 need (okPl w st tks b o np m C P) (need (List.Perm (Blk.mk gp C false :: TL) ((List.map z0 b).append R)) (need (Sy.GotL (Blk.mk tr z1 false :: R) [(gp, C)]) (hyp (Heap (playW w P) st tks (Let.q (ns 0)) ∧ sumW (playW w P) = sumW w + (ns 1).n) (leaf (Value.int .i64 (Int.ofNat (ns 1).n), Blk.mk tr z1 false :: R.append (List.map z0 (Let.q (ns 0))))))))
theorem plF_run (w : WorldD) (st : Nat) (tks : List Nat) (b : Bun) (gp o np pc tr m tc : Nat) (C : Cont) (P : List Int) (R TL : List Blk) : Sy.Ran (Sy.inB Tryd.prog (ctxPlF w st tks b gp o np pc tr m tc C P R) 50 fPlay #[sl tr (m + 1) tc, .slice (some ⟨gp, o, none⟩) np pc] (⟨tr, .row tTP 1 (m + 1) tc (ptrs tks), false⟩ :: ⟨gp, C, false⟩ :: TL)) plF_o (plF_R w st tks b gp o np pc tr m tc C P R TL) := ⟨fun _ => by kernel_rfl, fun _ => by kernel_rfl⟩
def plP0_o : Sy.O := (steps [0, 0] nil)
noncomputable def plP0_R (tr m tc c : Nat) (p : Option Addr) (TL : List Blk) (ns : Nat → Sy.Let) : Sy.Res (Value × List Blk) :=
 leaf (Value.int .i64 0, TL)
theorem plP0_run (tr m tc c : Nat) (p : Option Addr) (TL : List Blk) : Sy.Ran (Sy.inB Tryd.prog Sy.S0 50 fPlay #[sl tr (m + 1) tc, .slice p 0 c] TL) plP0_o (plP0_R tr m tc c p TL) := ⟨fun _ => by kernel_rfl, fun _ => by kernel_rfl⟩
def plT0_o : Sy.O := (steps [0] (fork (steps [0, 1, 1, 0, 0, 0] nil) nil))
noncomputable def plT0_R (gp o np pc : Nat) (C : Cont) (TL : List Blk) (ns : Nat → Sy.Let) : Sy.Res (Value × List Blk) :=
 let z0 := Blk.mk gp C false :: TL
 let z1 := leaf (Value.int .i64 0, Blk.mk gp C false :: TL)
 br (Ex.ltQ 0 (Int.ofNat np)) (need ((0 : Int) ≤ 0 ∧ 0 < (↑np : Int)) (need (∃ (i : Int), Sy.HasL z0 gp o (Value.int .i64 i)) (hyp (∀ (u : Value), Sy.HasL z0 gp o u → u = Value.int .i64 (ns 0).i) z1))) z1
theorem plT0_run (gp o np pc : Nat) (C : Cont) (TL : List Blk) : Sy.Ran (Sy.inB Tryd.prog Sy.S0 50 fPlay #[.slice none 0 0, .slice (some ⟨gp, o, none⟩) np pc] (⟨gp, C, false⟩ :: TL)) plT0_o (plT0_R gp o np pc C TL) := ⟨fun _ => by kernel_rfl, fun _ => by kernel_rfl⟩
def plT00_o : Sy.O := (steps [0, 0] nil)
noncomputable def plT00_R (c : Nat) (p : Option Addr) (TL : List Blk) (ns : Nat → Sy.Let) : Sy.Res (Value × List Blk) :=
 leaf (Value.int .i64 0, TL)
theorem plT00_run (c : Nat) (p : Option Addr) (TL : List Blk) : Sy.Ran (Sy.inB Tryd.prog Sy.S0 50 fPlay #[.slice none 0 0, .slice p 0 c] TL) plT00_o (plT00_R c p TL) := ⟨fun _ => by kernel_rfl, fun _ => by kernel_rfl⟩
end Go.Proofs.YtjohknpmhlildaaDoor.At
namespace Go.Proofs.YtjohknpmhlildaaDoor.At
open Go Go.RowKit
open Go.Proofs.YtjohknpmhlildaaDoor.Sy (Let Blk Cont Bun ptr ptr0 bx tkB tkU clo DoesB usedK ownOf rdsOf Rep does_frame does_perm does_mono does_all does_of S0_holds bunO)
open Go.Proofs.YtjohknpmhlildaaDoor.As
def TasksV (tv : Value) (tks : List Nat) (B : Bun) : Prop := (tks = [] ∧ tv = .slice none 0 0) ∨ ∃ tr tc m, tks.length = m + 1 ∧ m < 1000000 ∧ tv = sl tr (m + 1) tc ∧ (tr, .row tTP 1 (m + 1) tc (ptrs tks)) ∈ B
def PicksV (pv : Value) (P : List Int) (B : Bun) : Prop := (P = [] ∧ ∃ p c, pv = .slice p 0 c) ∨ ∃ gp o pc C, pv = .slice (some ⟨gp, o, none⟩) P.length pc ∧ (gp, C) ∈ B ∧ ∀ i, i < P.length → C.at (o + i) = some (.int .i64 (P.getD i 0))
structure okPlay (w : WorldD) (st : Nat) (tks : List Nat) (b : Bun) (tv pv : Value) (P : List Int) (B : Bun) : Prop where
 heap : Heap w st tks b
 tv : TasksV tv tks B
 pv : PicksV pv P B
 lt : sumW w + P.length < 4611686018427387904
def playC (w : WorldD) (st : Nat) (tks : List Nat) (b : Bun) (tv pv : Value) (P : List Int) (B : Bun) : Sy.CallC :=
 ⟨fPlay, #[tv, pv], okPlay w st tks b tv pv P B, ⟨[], b, 2, B⟩,
  [(⟨fun ns => Heap (playW w P) st tks (bunO ns) ∧ sumW (playW w P) = sumW w + Sy.num ns 1, fun _ => [], bunO⟩, fun ns => .int .i64 (Int.ofNat (Sy.num ns 1)))]⟩
theorem rds_own {b B : Bun} {X : List Blk} (h : ∀ r ∈ X, r.own = false ∧ (r.nm, r.ct) ∈ B) : Sy.Ent (b.map ownOf ++ rdsOf B) (X ++ b.map ownOf) := by
 refine Sy.Ent.trans (ent_rds (X := b.map ownOf) (R := X) (S := rdsOf B) fun r hr => ⟨(h r hr).1, ⟨r.nm, r.ct, false⟩, List.mem_map.2 ⟨_, (h r hr).2, rfl⟩, rfl, rfl, fun _ hs => hs⟩) ?_
 refine Sy.Ent.trans (Sy.Ent.perm (B := (X ++ b.map ownOf) ++ rdsOf B) ?_) (Sy.Ent.sub (List.sublist_append_left _ _))
 rw [← List.append_assoc]
 exact List.Perm.append_right _ List.perm_append_comm
theorem play_none (w : WorldD) (h : w.tasks = []) : ∀ P, playW w P = w := by
 intro P
 induction P with
 | nil => rfl
 | cons p P ih =>
   show playW (stepP w p) P = w
   unfold stepP
   rw [if_pos h]
   exact ih
theorem playC_met (w : WorldD) (st : Nat) (tks : List Nat) (b : Bun) (tv pv : Value) (P : List Int) (B : Bun) : Sy.Meets Tryd.prog (playC w st tks b tv pv P B) := by
 intro hok
 have hsame : playW w P = w → ∀ {L : List Blk}, Sy.Ent L (b.map ownOf) → Sy.leafB (playC w st tks b tv pv P B) (.int .i64 0, L) := fun e L hL =>
  ⟨_, Sy.mS _, [⟨0, 0, false, undef, [], b⟩, ⟨0, 0, false, undef, [], []⟩], rfl, rfl, hL, by rw [e]; exact hok.heap, by rw [e]; rfl⟩
 have hlen := (heap_task hok.heap).1
 have hent : ∀ {X : List Blk}, (∀ r ∈ X, r.own = false ∧ (r.nm, r.ct) ∈ B) → Sy.Ent (Sy.blks (playC w st tks b tv pv P B).mem) (X ++ b.map ownOf) := fun h => rds_own h
 rcases hok.tv with ⟨h0, rfl⟩ | ⟨tr, tc, m, hm, hm6, rfl, htr⟩ <;> rcases hok.pv with ⟨hp0, p, c, rfl⟩ | ⟨gp, o, pc, C, rfl, hgp, hat⟩
 ·have e : playW w P = w := by rw [hp0]; rfl
  refine Sy.meets_ofB S0_holds mixed (hent (X := []) (fun r hr => nomatch hr)) (plT00_run c p (b.map ownOf)) (fun _ ns => ?_) hok
  simp only [plT00_R, Sy.Res.holds]
  exact hsame e (Sy.Ent.refl _)
 ·have e : playW w P = w := play_none w (List.eq_nil_of_length_eq_zero (by rw [← hlen, h0]; rfl)) P
  refine Sy.meets_ofB S0_holds mixed (hent (X := [⟨gp, C, false⟩]) (fun r hr => by rw [List.mem_singleton.1 hr]; exact ⟨rfl, hgp⟩)) (plT0_run gp o P.length pc C (b.map ownOf)) (fun _ ns => ?_) hok
  simp only [plT0_R, Sy.Res.holds]
  refine ⟨fun hl => ?_, fun hl => hsame e (Sy.Ent.sub (.cons _ (List.Sublist.refl _)))⟩
  have hl : 0 < P.length := by
   have h1 : Ex.ltQ (Int.ofNat 0) (Int.ofNat P.length) = true := hl
   rw [ltq_nat] at h1
   exact of_decide_eq_true h1
  refine ⟨⟨Int.le_refl _, by omega⟩, ⟨P.getD 0 0, ⟨gp, C, false⟩, Sy.mH, rfl, hat 0 hl⟩, fun _ => hsame e (Sy.Ent.sub (.cons _ (List.Sublist.refl _)))⟩
 ·have e : playW w P = w := by rw [hp0]; rfl
  refine Sy.meets_ofB S0_holds mixed (hent (X := []) (fun r hr => nomatch hr)) (plP0_run tr m tc c p (b.map ownOf)) (fun _ ns => ?_) hok
  simp only [plP0_R, Sy.Res.holds]
  exact hsame e (Sy.Ent.refl _)
 ·refine Sy.meets_ofB (L := ⟨tr, .row tTP 1 (m + 1) tc (ptrs tks), false⟩ :: ⟨gp, C, false⟩ :: b.map ownOf) (ctxPlF_holds w st tks b gp o P.length pc tr m tc C P [⟨gp, C, false⟩]) mixed (hent (X := [⟨tr, .row tTP 1 (m + 1) tc (ptrs tks), false⟩, ⟨gp, C, false⟩]) (fun r hr => by
   rcases List.mem_cons.1 hr with rfl | hr
   ·exact ⟨rfl, htr⟩
   ·rw [List.mem_singleton.1 hr]
    exact ⟨rfl, hgp⟩)) (plF_run w st tks b gp o P.length pc tr m tc C P [⟨gp, C, false⟩] (b.map ownOf)) (fun _ ns => ?_) hok
  simp only [plF_R, Sy.Res.holds]
  refine ⟨⟨hok.heap, hm, rfl, hat, hok.lt, hm6⟩, List.perm_append_comm (l₁ := [(⟨gp, C, false⟩ : Blk)]) (l₂ := b.map ownOf), fun p hp => ?_, fun hq => ?_⟩
  ·rw [List.mem_singleton.1 hp]
   exact ⟨⟨gp, C, false⟩, Sy.mC _ Sy.mH, rfl, fun _ h => h⟩
  ·exact ⟨_, Sy.mS _, [⟨0, 0, false, undef, [], (ns 0).q⟩, ⟨(ns 1).n, 0, false, undef, [], []⟩], rfl, rfl, Sy.Ent.sub (.cons _ (.cons _ (List.Sublist.refl _))), hq.1, hq.2⟩
open Go.Proofs.YtjohknpmhlildaaDoor.Sy (Let Blk Cont Bun ptr ptr0 bx tkB tkU clo DoesB usedK ownOf rdsOf Rep does_frame does_perm does_mono does_all does_of S0_holds bunO)
open Go.Proofs.YtjohknpmhlildaaDoor.As
theorem and_one (n : Int) : Ex.andQ .i64 n 1 = n % 2 := by
 unfold Ex.andQ
 have h1 := Ex.residQ_eq (Ex.kMod .i64) (Ex.kMod_pos .i64) n
 have e : Ex.kMod .i64 = 18446744073709551616 := rfl
 rw [e] at h1 ⊢
 have h2 : Ex.residQ 18446744073709551616 1 = 1 := rfl
 rw [h2]
 have h3 : Nat.land (Ex.residQ 18446744073709551616 n) 1 = Ex.residQ 18446744073709551616 n % 2 := Nat.and_one_is_mod _
 rw [h3]
 generalize Ex.residQ 18446744073709551616 n = r at h1
 rw [Ex.wrapQ_eq, IntKind.wrap_i64]
 show ((Int.ofNat (r % 2)) + 9223372036854775808) % 18446744073709551616 - 9223372036854775808 = n % 2
 have : (Int.ofNat (r % 2)) = ((r % 2 : Nat) : Int) := rfl
 omega
def kdV (thing : Nat) (n : Int) : Value := .int .i64 (kindW thing n : Nat)
def kdC (thing : Nat) (n : Int) : Sy.CallC := ⟨fKind, #[.int .i64 (thing : Int), .int .i64 n], 1 ≤ thing ∧ thing ≤ 5, ⟨[], [], 0, []⟩, [Sy.plainO (kdV thing n)]⟩
theorem kd_idx (n : Int) : Ex.wrapQ .i64 (Ex.subQ' 1 (Ex.andQ .i64 n 1)) = 1 - n % 2 := by
 rw [and_one, Ex.subQ_eq, Ex.wrapQ_eq, IntKind.wrap_i64]
 omega
theorem kdC_met (thing : Nat) (n : Int) : Sy.Meets Tryd.prog (kdC thing n) := by
 rintro ⟨h1, h5⟩
 have hm : n % 2 = 0 ∨ n % 2 = 1 := by omega
 have key : ∀ (x : Int), x = (kindW thing n : Nat) → ∀ L : List Blk, Sy.leafB (kdC thing n) (.int .i64 x, L) := fun x hx L => plain_leaf (v := kdV thing n) Sy.mH rfl (by show Value.int .i64 x = _; rw [hx]; rfl)
 have hth : thing = 1 ∨ thing = 2 ∨ thing = 3 ∨ thing = 4 ∨ thing = 5 := by omega
 rcases hth with rfl | rfl | rfl | rfl | rfl
 ·refine Sy.meets_ofB S0_holds mixed (Sy.Ent.refl _) (kd1_run n) (fun _ ns => ?_) ⟨h1, h5⟩
  simp only [kd1_R, Sy.Res.holds, kd_idx]
  rcases hm with hm | hm <;> rw [hm] <;> refine ⟨by omega, ⟨_, rfl⟩, fun hu => key _ ?_ _⟩ <;> (simp [Cont.at] at hu; rw [← hu]; unfold kindW; rw [if_neg (by omega)]) <;> simp [hm]
 ·refine Sy.meets_ofB S0_holds mixed (Sy.Ent.refl _) (kd2_run n) (fun _ ns => ?_) ⟨h1, h5⟩
  simp only [kd2_R, Sy.Res.holds, kd_idx]
  rcases hm with hm | hm <;> rw [hm] <;> refine ⟨by omega, ⟨_, rfl⟩, fun hu => key _ ?_ _⟩ <;> (simp [Cont.at] at hu; rw [← hu]; unfold kindW; rw [if_neg (by omega)]) <;> simp [hm]
 ·refine Sy.meets_ofB S0_holds mixed (Sy.Ent.refl _) (kd3_run n) (fun _ ns => ?_) ⟨h1, h5⟩
  simp only [kd3_R, Sy.Res.holds, kd_idx]
  rcases hm with hm | hm <;> rw [hm] <;> refine ⟨by omega, ⟨_, rfl⟩, fun hu => key _ ?_ _⟩ <;> (simp [Cont.at] at hu; rw [← hu]; unfold kindW; rw [if_neg (by omega)]) <;> simp [hm]
 ·refine Sy.meets_ofB S0_holds mixed (Sy.Ent.refl _) (kd4_run n) (fun _ ns => ?_) ⟨h1, h5⟩
  simp only [kd4_R, Sy.Res.holds, kd_idx]
  rcases hm with hm | hm <;> rw [hm] <;> refine ⟨by omega, ⟨_, rfl⟩, fun hu => key _ ?_ _⟩ <;> (simp [Cont.at] at hu; rw [← hu]; unfold kindW; rw [if_neg (by omega)]) <;> simp [hm]
 ·refine Sy.meets_ofB S0_holds mixed (Sy.Ent.refl _) (kd5_run n) (fun _ ns => ?_) ⟨h1, h5⟩
  simp only [kd5_R, Sy.Res.holds, kd_idx]
  rcases hm with hm | hm <;> rw [hm] <;> refine ⟨by omega, ⟨_, rfl⟩, fun hu => key _ ?_ _⟩ <;> (simp [Cont.at] at hu; rw [← hu]; unfold kindW; rw [if_pos rfl]) <;> rfl
def fitN (t : Int) : Nat := (t % 5).toNat + 1
theorem fitN_le (t : Int) : 1 ≤ fitN t ∧ fitN t ≤ 5 := by unfold fitN; omega
def fitC (t : Int) : Sy.CallC := ⟨fFit, #[.int .i64 t], True, ⟨[], [], 0, []⟩, [Sy.plainO (.int .i64 (fitN t : Nat))]⟩
theorem fitC_met (t : Int) : Sy.Meets Tryd.prog (fitC t) := by
 have hr : Ex.remQ t 5 = t.tmod 5 := Ex.remQ_eq t 5
 have ht : t.tmod 5 = t % 5 ∨ t.tmod 5 = t % 5 - 5 := by
  rw [Int.tmod_eq_emod]
  split
  ·exact .inl (by omega)
  ·exact .inr (by show t % 5 - ((Int.natAbs 5 : Nat) : Int) = _; rfl)
 have key : ∀ (x : Int), x = (fitN t : Nat) → ∀ L : List Blk, Sy.leafB (fitC t) (.int .i64 x, L) := fun x hx L => plain_leaf (v := .int .i64 (fitN t : Nat)) Sy.mH rfl (by show Value.int .i64 x = _; rw [hx])
 refine Sy.meets_ofB S0_holds mixed (Sy.Ent.refl _) (fitR_run t) fun _ ns => ?_
 simp only [fitR_R, Sy.Res.holds]
 refine ⟨fun h => key _ ?_ _, fun h => key _ ?_ _⟩
 ·have h : Ex.ltQ (Ex.remQ t 5) 0 = true := h
  rw [hr, Ex.ltQ_eq] at h
  have h := of_decide_eq_true h
  show Ex.wrapQ .i64 (Ex.addQ (Ex.wrapQ .i64 (Ex.addQ (Ex.remQ t 5) 5)) 1) = _
  rw [hr, Ex.addQ_eq, Ex.addQ_eq, Ex.wrapQ_eq, Ex.wrapQ_eq, IntKind.wrap_i64, IntKind.wrap_i64]
  unfold fitN
  omega
 ·have h : Ex.ltQ (Ex.remQ t 5) 0 = false := h
  rw [hr, Ex.ltQ_eq] at h
  have h := of_decide_eq_false h
  show Ex.wrapQ .i64 (Ex.addQ (Ex.remQ t 5) 1) = _
  rw [hr, Ex.addQ_eq, Ex.wrapQ_eq, IntKind.wrap_i64]
  unfold fitN
  omega
def thV4 (thing st : Nat) : Value := thT (if thing = 1 then ptr st else ptr0) (if thing = 2 then ptr st else ptr0) (if thing = 3 then ptr st else ptr0) (if thing = 4 then ptr st else ptr0) (if thing = 5 then ptr st else ptr0)
def thereC (thing st : Nat) : Sy.CallC := ⟨fThere, #[thV4 thing st, .int .i64 (thing : Int)], 1 ≤ thing ∧ thing ≤ 5, ⟨[], [], 0, []⟩, [Sy.plainO (.bool true)]⟩
theorem thereC_met (thing st : Nat) : Sy.Meets Tryd.prog (thereC thing st) := by
 rintro ⟨h1, h5⟩
 have hth : thing = 1 ∨ thing = 2 ∨ thing = 3 ∨ thing = 4 ∨ thing = 5 := by omega
 rcases hth with rfl | rfl | rfl | rfl | rfl
 ·refine Sy.meets_ofB S0_holds mixed (Sy.Ent.refl _) (th1_run ptr0 ptr0 ptr0 ptr0 ptr0 st) (fun _ ns => ?_) ⟨h1, h5⟩
  simp only [th1_R, Sy.Res.holds]
  exact plain_leaf Sy.mH rfl rfl
 ·refine Sy.meets_ofB S0_holds mixed (Sy.Ent.refl _) (th2_run ptr0 ptr0 ptr0 ptr0 ptr0 st) (fun _ ns => ?_) ⟨h1, h5⟩
  simp only [th2_R, Sy.Res.holds]
  exact plain_leaf Sy.mH rfl rfl
 ·refine Sy.meets_ofB S0_holds mixed (Sy.Ent.refl _) (th3_run ptr0 ptr0 ptr0 ptr0 ptr0 st) (fun _ ns => ?_) ⟨h1, h5⟩
  simp only [th3_R, Sy.Res.holds]
  exact plain_leaf Sy.mH rfl rfl
 ·refine Sy.meets_ofB S0_holds mixed (Sy.Ent.refl _) (th4_run ptr0 ptr0 ptr0 ptr0 ptr0 st) (fun _ ns => ?_) ⟨h1, h5⟩
  simp only [th4_R, Sy.Res.holds]
  exact plain_leaf Sy.mH rfl rfl
 ·refine Sy.meets_ofB S0_holds mixed (Sy.Ent.refl _) (th5_run ptr0 ptr0 ptr0 ptr0 ptr0 st) (fun _ ns => ?_) ⟨h1, h5⟩
  simp only [th5_R, Sy.Res.holds]
  exact plain_leaf Sy.mH rfl rfl
open Go.Proofs.YtjohknpmhlildaaDoor.Sy (Let Blk Cont Bun ptr ptr0 bx tkB tkU clo DoesB usedK ownOf rdsOf Rep does_frame does_perm does_mono does_all does_of S0_holds bunO)
open Go.Proofs.YtjohknpmhlildaaDoor.As
def madeQ (thing : Nat) (H : Nat → Bun → Prop) (r : Value) (o : Bun) : Prop := ∃ st, r = .tuple #[thV4 thing st, .int .i64 0] ∧ H st o
theorem made1 {w : WorldD} {room : Nat} (hw : newW 1 (room : Int) = some w) : DoesB Tryd.prog fMade #[.int .i64 1, .int .i64 (room : Int)] [] [] (madeQ 1 fun st o => HeapS w st [] o) := by
 refine does_of S0_holds mixed (Sy.Ent.refl _) (md1_run (room : Int)) fun ns => ?_
 simp only [md1_R, Sy.Res.holds]
 refine ⟨[bx (ns 2).n tSt ptr0], ent_pick [0] (by decide) rfl, (ns 2).n, rfl, [], [], ?_⟩
 unfold newW at hw
 rw [if_neg (by omega)] at hw
 injection hw with hw
 subst hw
 exact ⟨rfl, rfl, rfl, (fun _ h => nomatch h), rfl, rfl, fun i => (by rcases i with _ | i <;> simp), Nat.le_refl _, List.Perm.refl _⟩
theorem made2 {w : WorldD} {room : Nat} (hw : newW 2 (room : Int) = some w) : DoesB Tryd.prog fMade #[.int .i64 2, .int .i64 (room : Int)] [] [] (madeQ 2 fun st o => HeapQ w st [] o) := by
 refine does_of S0_holds mixed (Sy.Ent.refl _) (md2_run (room : Int)) fun ns => ?_
 simp only [md2_R, Sy.Res.holds]
 refine ⟨[quB (ns 2).n (ptr (ns 3).n) (ptr (ns 3).n), lkB (ns 3).n 0 ptr0], ent_pick [1, 0] (by decide) rfl, (ns 2).n, rfl, [], [(ns 3).n], ?_⟩
 unfold newW at hw
 rw [if_neg (by omega)] at hw
 injection hw with hw
 subst hw
 exact ⟨rfl, rfl, rfl, (fun _ h => nomatch h), rfl, rfl, fun i => (by rcases i with _ | _ | i <;> simp), ⟨(by show (1 : Nat) ≠ 0; decide), Nat.le_refl 1⟩, ⟨(by show (1 : Nat) ≠ 0; decide), Nat.le_refl 1⟩, List.Perm.refl _⟩
theorem made3 {w : WorldD} {room : Nat} (h1 : 1 ≤ room) (h2 : room ≤ 16) (hw : newW 3 (room : Int) = some w) : DoesB Tryd.prog fMade #[.int .i64 3, .int .i64 (room : Int)] [] [] (madeQ 3 fun st o => HeapL w st [] (o ++ [tabB])) := by
 refine does_of S0_holds mixed (Sy.Ent.refl _) (md3_run (room : Int)) fun ns => ?_
 simp only [md3_R, Sy.Res.holds]
 refine ⟨fun h => ?_, fun _ => ?_⟩
 ·exfalso
  rw [Ex.ltQ_eq, Ex.ltQ_eq, decide_eq_false (by omega), decide_eq_false (by omega)] at h
  cases h
 ·refine ⟨[slB (ns 2).n room 0], ent_pick [0] (by decide) rfl, (ns 2).n, rfl, [], ?_⟩
  unfold newW at hw
  rw [if_neg (by omega)] at hw
  injection hw with hw
  subst hw
  refine ⟨rfl, rfl, rfl, (fun _ h => nomatch h), by show (room : Int).toNat ≤ 64; omega, ⟨0, rfl, by decide⟩, ?_⟩
  show List.Perm ([slB (ns 2).n room 0] ++ [tabB]) ([slB (ns 2).n (((room : Int).toNat : Nat) : Int) 0] ++ ([] ++ ([] ++ [tabB])))
  rw [Int.toNat_natCast]
  exact List.Perm.refl _
theorem made5 {w : WorldD} {room : Nat} (hw : newW 5 (room : Int) = some w) : DoesB Tryd.prog fMade #[.int .i64 5, .int .i64 (room : Int)] [] [] (madeQ 5 fun st o => HeapO w st [] o) := by
 refine does_of S0_holds mixed (Sy.Ent.refl _) (md5_run (room : Int)) fun ns => ?_
 simp only [md5_R, Sy.Res.holds]
 refine ⟨[bx (ns 2).n tOn ptr0], ent_pick [0] (by decide) rfl, (ns 2).n, rfl, [], 0, ?_⟩
 unfold newW at hw
 rw [if_neg (by omega)] at hw
 injection hw with hw
 subst hw
 exact ⟨rfl, rfl, rfl, (fun _ h => nomatch h), List.Perm.refl _⟩
open Sy.O (fork nil step steps)
open Sy.Res (need hyp br leaf both)
open Go Go.RowKit
open Go.Proofs.YtjohknpmhlildaaDoor.Sy (Let Blk Cont Bun ptr ptr0 bx tkB tkU clo)
def sc7x1_o : Sy.O := (steps [1, 0, 1, 0, 2, 3, 4, 5, 6, 0, 0, 0, 7, 0, 16, 1, 0, 0, 0, 0, 1, 0, 4, 0, 0, 0, 1, 0] nil)
noncomputable def sc7x1_R (st rr lr : Nat) (ns : Nat → Sy.Let) : Sy.Res (Value × List Blk) :=
 let z0 := some (Addr.mk (ns 1).n 0 none)
 let z1 := Array.mk []
 leaf (Value.pointer z0, [Blk.mk (ns 5).n (Cont.obj (Obj.cells (Array.mk [.pointer (some ⟨(ns 3).n, 0, none⟩)]) 177)) true, Blk.mk (ns 4).n (Cont.obj (Obj.cells (Array.mk [.pointer z0]) 48)) true, Blk.mk (ns 3).n (Cont.obj (Obj.cells (Array.mk [.pointer (some ⟨st, 0, none⟩), .slice none 0 0, .slice none 0 0, .slice (some ⟨(ns 2).n, 0, none⟩) 1 1]) 180)) true, Blk.mk (ns 2).n (Cont.obj (Obj.cells (Array.mk [.bool false]) 4)) true, Blk.mk (ns 1).n (Cont.obj (Obj.cells (Array.mk [Value.func (Fn.func 95) z1 (Array.mk [.pointer (some ⟨(ns 5).n, 0, none⟩), .pointer (some ⟨(ns 0).n, 0, none⟩), .pointer (some ⟨(ns 4).n, 0, none⟩)]), .int .u32 0, .int .i64 0, .int .u64 0, .bool false, .slice none 0 0]) 100)) true, Blk.mk (ns 0).n (Cont.obj (Obj.cells (Array.mk [Value.func (Fn.func 75) z1 z1]) 152)) true, Blk.mk st (Cont.obj (Obj.cells (Array.mk [.slice (some ⟨rr, 0, none⟩) 1 1, .slice (some ⟨lr, 0, none⟩) 1 1]) 132)) false])
theorem sc7x1_run (st rr lr : Nat) : Sy.Ran (Sy.inB Tryd.prog Sy.S0 50 74 #[ptr st, cTh7] [⟨st, (snB st rr lr 1).2, false⟩]) sc7x1_o (sc7x1_R st rr lr) := ⟨fun _ => by kernel_rfl, fun _ => by kernel_rfl⟩
def sc7x2_o : Sy.O := (steps [1, 0, 1, 0, 2, 3, 4, 5, 6, 0, 0, 0, 7, 0, 16, 1, 0, 0, 0, 0, 1, 0, 4, 0, 0, 0, 1, 0] nil)
noncomputable def sc7x2_R (st rr lr : Nat) (ns : Nat → Sy.Let) : Sy.Res (Value × List Blk) :=
 let z0 := some (Addr.mk (ns 1).n 0 none)
 let z1 := Array.mk []
 leaf (Value.pointer z0, [Blk.mk (ns 5).n (Cont.obj (Obj.cells (Array.mk [.pointer (some ⟨(ns 3).n, 0, none⟩)]) 177)) true, Blk.mk (ns 4).n (Cont.obj (Obj.cells (Array.mk [.pointer z0]) 48)) true, Blk.mk (ns 3).n (Cont.obj (Obj.cells (Array.mk [.pointer (some ⟨st, 0, none⟩), .slice none 0 0, .slice none 0 0, .slice (some ⟨(ns 2).n, 0, none⟩) 2 2]) 180)) true, Blk.mk (ns 2).n (Cont.obj (Obj.cells (Array.mk [.bool false, .bool false]) 4)) true, Blk.mk (ns 1).n (Cont.obj (Obj.cells (Array.mk [Value.func (Fn.func 95) z1 (Array.mk [.pointer (some ⟨(ns 5).n, 0, none⟩), .pointer (some ⟨(ns 0).n, 0, none⟩), .pointer (some ⟨(ns 4).n, 0, none⟩)]), .int .u32 0, .int .i64 0, .int .u64 0, .bool false, .slice none 0 0]) 100)) true, Blk.mk (ns 0).n (Cont.obj (Obj.cells (Array.mk [Value.func (Fn.func 75) z1 z1]) 152)) true, Blk.mk st (Cont.obj (Obj.cells (Array.mk [.slice (some ⟨rr, 0, none⟩) 2 2, .slice (some ⟨lr, 0, none⟩) 2 2]) 132)) false])
theorem sc7x2_run (st rr lr : Nat) : Sy.Ran (Sy.inB Tryd.prog Sy.S0 50 74 #[ptr st, cTh7] [⟨st, (snB st rr lr 2).2, false⟩]) sc7x2_o (sc7x2_R st rr lr) := ⟨fun _ => by kernel_rfl, fun _ => by kernel_rfl⟩
def sc7x3_o : Sy.O := (steps [1, 0, 1, 0, 2, 3, 4, 5, 6, 0, 0, 0, 7, 0, 16, 1, 0, 0, 0, 0, 1, 0, 4, 0, 0, 0, 1, 0] nil)
noncomputable def sc7x3_R (st rr lr : Nat) (ns : Nat → Sy.Let) : Sy.Res (Value × List Blk) :=
 let z0 := some (Addr.mk (ns 1).n 0 none)
 let z1 := Array.mk []
 leaf (Value.pointer z0, [Blk.mk (ns 5).n (Cont.obj (Obj.cells (Array.mk [.pointer (some ⟨(ns 3).n, 0, none⟩)]) 177)) true, Blk.mk (ns 4).n (Cont.obj (Obj.cells (Array.mk [.pointer z0]) 48)) true, Blk.mk (ns 3).n (Cont.obj (Obj.cells (Array.mk [.pointer (some ⟨st, 0, none⟩), .slice none 0 0, .slice none 0 0, .slice (some ⟨(ns 2).n, 0, none⟩) 3 3]) 180)) true, Blk.mk (ns 2).n (Cont.obj (Obj.cells (Array.mk [.bool false, .bool false, .bool false]) 4)) true, Blk.mk (ns 1).n (Cont.obj (Obj.cells (Array.mk [Value.func (Fn.func 95) z1 (Array.mk [.pointer (some ⟨(ns 5).n, 0, none⟩), .pointer (some ⟨(ns 0).n, 0, none⟩), .pointer (some ⟨(ns 4).n, 0, none⟩)]), .int .u32 0, .int .i64 0, .int .u64 0, .bool false, .slice none 0 0]) 100)) true, Blk.mk (ns 0).n (Cont.obj (Obj.cells (Array.mk [Value.func (Fn.func 75) z1 z1]) 152)) true, Blk.mk st (Cont.obj (Obj.cells (Array.mk [.slice (some ⟨rr, 0, none⟩) 3 3, .slice (some ⟨lr, 0, none⟩) 3 3]) 132)) false])
theorem sc7x3_run (st rr lr : Nat) : Sy.Ran (Sy.inB Tryd.prog Sy.S0 50 74 #[ptr st, cTh7] [⟨st, (snB st rr lr 3).2, false⟩]) sc7x3_o (sc7x3_R st rr lr) := ⟨fun _ => by kernel_rfl, fun _ => by kernel_rfl⟩
def sc7x4_o : Sy.O := (steps [1, 0, 1, 0, 2, 3, 4, 5, 6, 0, 0, 0, 7, 0, 16, 1, 0, 0, 0, 0, 1, 0, 4, 0, 0, 0, 1, 0] nil)
noncomputable def sc7x4_R (st rr lr : Nat) (ns : Nat → Sy.Let) : Sy.Res (Value × List Blk) :=
 let z0 := some (Addr.mk (ns 1).n 0 none)
 let z1 := Array.mk []
 leaf (Value.pointer z0, [Blk.mk (ns 5).n (Cont.obj (Obj.cells (Array.mk [.pointer (some ⟨(ns 3).n, 0, none⟩)]) 177)) true, Blk.mk (ns 4).n (Cont.obj (Obj.cells (Array.mk [.pointer z0]) 48)) true, Blk.mk (ns 3).n (Cont.obj (Obj.cells (Array.mk [.pointer (some ⟨st, 0, none⟩), .slice none 0 0, .slice none 0 0, .slice (some ⟨(ns 2).n, 0, none⟩) 4 4]) 180)) true, Blk.mk (ns 2).n (Cont.obj (Obj.cells (Array.mk [.bool false, .bool false, .bool false, .bool false]) 4)) true, Blk.mk (ns 1).n (Cont.obj (Obj.cells (Array.mk [Value.func (Fn.func 95) z1 (Array.mk [.pointer (some ⟨(ns 5).n, 0, none⟩), .pointer (some ⟨(ns 0).n, 0, none⟩), .pointer (some ⟨(ns 4).n, 0, none⟩)]), .int .u32 0, .int .i64 0, .int .u64 0, .bool false, .slice none 0 0]) 100)) true, Blk.mk (ns 0).n (Cont.obj (Obj.cells (Array.mk [Value.func (Fn.func 75) z1 z1]) 152)) true, Blk.mk st (Cont.obj (Obj.cells (Array.mk [.slice (some ⟨rr, 0, none⟩) 4 4, .slice (some ⟨lr, 0, none⟩) 4 4]) 132)) false])
theorem sc7x4_run (st rr lr : Nat) : Sy.Ran (Sy.inB Tryd.prog Sy.S0 50 74 #[ptr st, cTh7] [⟨st, (snB st rr lr 4).2, false⟩]) sc7x4_o (sc7x4_R st rr lr) := ⟨fun _ => by kernel_rfl, fun _ => by kernel_rfl⟩
def sc7x5_o : Sy.O := (steps [1, 0, 1, 0, 2, 3, 4, 5, 6, 0, 0, 0, 7, 0, 16, 1, 0, 0, 0, 0, 1, 0, 4, 0, 0, 0, 1, 0] nil)
noncomputable def sc7x5_R (st rr lr : Nat) (ns : Nat → Sy.Let) : Sy.Res (Value × List Blk) :=
 let z0 := some (Addr.mk (ns 1).n 0 none)
 let z1 := Array.mk []
 leaf (Value.pointer z0, [Blk.mk (ns 5).n (Cont.obj (Obj.cells (Array.mk [.pointer (some ⟨(ns 3).n, 0, none⟩)]) 177)) true, Blk.mk (ns 4).n (Cont.obj (Obj.cells (Array.mk [.pointer z0]) 48)) true, Blk.mk (ns 3).n (Cont.obj (Obj.cells (Array.mk [.pointer (some ⟨st, 0, none⟩), .slice none 0 0, .slice none 0 0, .slice (some ⟨(ns 2).n, 0, none⟩) 5 5]) 180)) true, Blk.mk (ns 2).n (Cont.obj (Obj.cells (Array.mk [.bool false, .bool false, .bool false, .bool false, .bool false]) 4)) true, Blk.mk (ns 1).n (Cont.obj (Obj.cells (Array.mk [Value.func (Fn.func 95) z1 (Array.mk [.pointer (some ⟨(ns 5).n, 0, none⟩), .pointer (some ⟨(ns 0).n, 0, none⟩), .pointer (some ⟨(ns 4).n, 0, none⟩)]), .int .u32 0, .int .i64 0, .int .u64 0, .bool false, .slice none 0 0]) 100)) true, Blk.mk (ns 0).n (Cont.obj (Obj.cells (Array.mk [Value.func (Fn.func 75) z1 z1]) 152)) true, Blk.mk st (Cont.obj (Obj.cells (Array.mk [.slice (some ⟨rr, 0, none⟩) 5 5, .slice (some ⟨lr, 0, none⟩) 5 5]) 132)) false])
theorem sc7x5_run (st rr lr : Nat) : Sy.Ran (Sy.inB Tryd.prog Sy.S0 50 74 #[ptr st, cTh7] [⟨st, (snB st rr lr 5).2, false⟩]) sc7x5_o (sc7x5_R st rr lr) := ⟨fun _ => by kernel_rfl, fun _ => by kernel_rfl⟩
def sc7x6_o : Sy.O := (steps [1, 0, 1, 0, 2, 3, 4, 5, 6, 0, 0, 0, 7, 0, 16, 1, 0, 0, 0, 0, 1, 0, 4, 0, 0, 0, 1, 0] nil)
noncomputable def sc7x6_R (st rr lr : Nat) (ns : Nat → Sy.Let) : Sy.Res (Value × List Blk) :=
 let z0 := some (Addr.mk (ns 1).n 0 none)
 let z1 := Array.mk []
 leaf (Value.pointer z0, [Blk.mk (ns 5).n (Cont.obj (Obj.cells (Array.mk [.pointer (some ⟨(ns 3).n, 0, none⟩)]) 177)) true, Blk.mk (ns 4).n (Cont.obj (Obj.cells (Array.mk [.pointer z0]) 48)) true, Blk.mk (ns 3).n (Cont.obj (Obj.cells (Array.mk [.pointer (some ⟨st, 0, none⟩), .slice none 0 0, .slice none 0 0, .slice (some ⟨(ns 2).n, 0, none⟩) 6 6]) 180)) true, Blk.mk (ns 2).n (Cont.obj (Obj.cells (Array.mk [.bool false, .bool false, .bool false, .bool false, .bool false, .bool false]) 4)) true, Blk.mk (ns 1).n (Cont.obj (Obj.cells (Array.mk [Value.func (Fn.func 95) z1 (Array.mk [.pointer (some ⟨(ns 5).n, 0, none⟩), .pointer (some ⟨(ns 0).n, 0, none⟩), .pointer (some ⟨(ns 4).n, 0, none⟩)]), .int .u32 0, .int .i64 0, .int .u64 0, .bool false, .slice none 0 0]) 100)) true, Blk.mk (ns 0).n (Cont.obj (Obj.cells (Array.mk [Value.func (Fn.func 75) z1 z1]) 152)) true, Blk.mk st (Cont.obj (Obj.cells (Array.mk [.slice (some ⟨rr, 0, none⟩) 6 6, .slice (some ⟨lr, 0, none⟩) 6 6]) 132)) false])
theorem sc7x6_run (st rr lr : Nat) : Sy.Ran (Sy.inB Tryd.prog Sy.S0 50 74 #[ptr st, cTh7] [⟨st, (snB st rr lr 6).2, false⟩]) sc7x6_o (sc7x6_R st rr lr) := ⟨fun _ => by kernel_rfl, fun _ => by kernel_rfl⟩
def sc7x7_o : Sy.O := (steps [1, 0, 1, 0, 2, 3, 4, 5, 6, 0, 0, 0, 7, 0, 16, 1, 0, 0, 0, 0, 1, 0, 4, 0, 0, 0, 1, 0] nil)
noncomputable def sc7x7_R (st rr lr : Nat) (ns : Nat → Sy.Let) : Sy.Res (Value × List Blk) :=
 let z0 := some (Addr.mk (ns 1).n 0 none)
 let z1 := Array.mk []
 leaf (Value.pointer z0, [Blk.mk (ns 5).n (Cont.obj (Obj.cells (Array.mk [.pointer (some ⟨(ns 3).n, 0, none⟩)]) 177)) true, Blk.mk (ns 4).n (Cont.obj (Obj.cells (Array.mk [.pointer z0]) 48)) true, Blk.mk (ns 3).n (Cont.obj (Obj.cells (Array.mk [.pointer (some ⟨st, 0, none⟩), .slice none 0 0, .slice none 0 0, .slice (some ⟨(ns 2).n, 0, none⟩) 7 7]) 180)) true, Blk.mk (ns 2).n (Cont.obj (Obj.cells (Array.mk [.bool false, .bool false, .bool false, .bool false, .bool false, .bool false, .bool false]) 4)) true, Blk.mk (ns 1).n (Cont.obj (Obj.cells (Array.mk [Value.func (Fn.func 95) z1 (Array.mk [.pointer (some ⟨(ns 5).n, 0, none⟩), .pointer (some ⟨(ns 0).n, 0, none⟩), .pointer (some ⟨(ns 4).n, 0, none⟩)]), .int .u32 0, .int .i64 0, .int .u64 0, .bool false, .slice none 0 0]) 100)) true, Blk.mk (ns 0).n (Cont.obj (Obj.cells (Array.mk [Value.func (Fn.func 75) z1 z1]) 152)) true, Blk.mk st (Cont.obj (Obj.cells (Array.mk [.slice (some ⟨rr, 0, none⟩) 7 7, .slice (some ⟨lr, 0, none⟩) 7 7]) 132)) false])
theorem sc7x7_run (st rr lr : Nat) : Sy.Ran (Sy.inB Tryd.prog Sy.S0 50 74 #[ptr st, cTh7] [⟨st, (snB st rr lr 7).2, false⟩]) sc7x7_o (sc7x7_R st rr lr) := ⟨fun _ => by kernel_rfl, fun _ => by kernel_rfl⟩
def sc7x8_o : Sy.O := (steps [1, 0, 1, 0, 2, 3, 4, 5, 6, 0, 0, 0, 7, 0, 16, 1, 0, 0, 0, 0, 1, 0, 4, 0, 0, 0, 1, 0] nil)
noncomputable def sc7x8_R (st rr lr : Nat) (ns : Nat → Sy.Let) : Sy.Res (Value × List Blk) :=
 let z0 := some (Addr.mk (ns 1).n 0 none)
 let z1 := Array.mk []
 leaf (Value.pointer z0, [Blk.mk (ns 5).n (Cont.obj (Obj.cells (Array.mk [.pointer (some ⟨(ns 3).n, 0, none⟩)]) 177)) true, Blk.mk (ns 4).n (Cont.obj (Obj.cells (Array.mk [.pointer z0]) 48)) true, Blk.mk (ns 3).n (Cont.obj (Obj.cells (Array.mk [.pointer (some ⟨st, 0, none⟩), .slice none 0 0, .slice none 0 0, .slice (some ⟨(ns 2).n, 0, none⟩) 8 8]) 180)) true, Blk.mk (ns 2).n (Cont.obj (Obj.cells (Array.mk [.bool false, .bool false, .bool false, .bool false, .bool false, .bool false, .bool false, .bool false]) 4)) true, Blk.mk (ns 1).n (Cont.obj (Obj.cells (Array.mk [Value.func (Fn.func 95) z1 (Array.mk [.pointer (some ⟨(ns 5).n, 0, none⟩), .pointer (some ⟨(ns 0).n, 0, none⟩), .pointer (some ⟨(ns 4).n, 0, none⟩)]), .int .u32 0, .int .i64 0, .int .u64 0, .bool false, .slice none 0 0]) 100)) true, Blk.mk (ns 0).n (Cont.obj (Obj.cells (Array.mk [Value.func (Fn.func 75) z1 z1]) 152)) true, Blk.mk st (Cont.obj (Obj.cells (Array.mk [.slice (some ⟨rr, 0, none⟩) 8 8, .slice (some ⟨lr, 0, none⟩) 8 8]) 132)) false])
theorem sc7x8_run (st rr lr : Nat) : Sy.Ran (Sy.inB Tryd.prog Sy.S0 50 74 #[ptr st, cTh7] [⟨st, (snB st rr lr 8).2, false⟩]) sc7x8_o (sc7x8_R st rr lr) := ⟨fun _ => by kernel_rfl, fun _ => by kernel_rfl⟩
def sc7x9_o : Sy.O := (steps [1, 0, 1, 0, 2, 3, 4, 5, 6, 0, 0, 0, 7, 0, 16, 1, 0, 0, 0, 0, 1, 0, 4, 0, 0, 0, 1, 0] nil)
noncomputable def sc7x9_R (st rr lr : Nat) (ns : Nat → Sy.Let) : Sy.Res (Value × List Blk) :=
 let z0 := some (Addr.mk (ns 1).n 0 none)
 let z1 := Array.mk []
 leaf (Value.pointer z0, [Blk.mk (ns 5).n (Cont.obj (Obj.cells (Array.mk [.pointer (some ⟨(ns 3).n, 0, none⟩)]) 177)) true, Blk.mk (ns 4).n (Cont.obj (Obj.cells (Array.mk [.pointer z0]) 48)) true, Blk.mk (ns 3).n (Cont.obj (Obj.cells (Array.mk [.pointer (some ⟨st, 0, none⟩), .slice none 0 0, .slice none 0 0, .slice (some ⟨(ns 2).n, 0, none⟩) 9 9]) 180)) true, Blk.mk (ns 2).n (Cont.obj (Obj.cells (Array.mk [.bool false, .bool false, .bool false, .bool false, .bool false, .bool false, .bool false, .bool false, .bool false]) 4)) true, Blk.mk (ns 1).n (Cont.obj (Obj.cells (Array.mk [Value.func (Fn.func 95) z1 (Array.mk [.pointer (some ⟨(ns 5).n, 0, none⟩), .pointer (some ⟨(ns 0).n, 0, none⟩), .pointer (some ⟨(ns 4).n, 0, none⟩)]), .int .u32 0, .int .i64 0, .int .u64 0, .bool false, .slice none 0 0]) 100)) true, Blk.mk (ns 0).n (Cont.obj (Obj.cells (Array.mk [Value.func (Fn.func 75) z1 z1]) 152)) true, Blk.mk st (Cont.obj (Obj.cells (Array.mk [.slice (some ⟨rr, 0, none⟩) 9 9, .slice (some ⟨lr, 0, none⟩) 9 9]) 132)) false])
theorem sc7x9_run (st rr lr : Nat) : Sy.Ran (Sy.inB Tryd.prog Sy.S0 50 74 #[ptr st, cTh7] [⟨st, (snB st rr lr 9).2, false⟩]) sc7x9_o (sc7x9_R st rr lr) := ⟨fun _ => by kernel_rfl, fun _ => by kernel_rfl⟩
def sc7x10_o : Sy.O := (steps [1, 0, 1, 0, 2, 3, 4, 5, 6, 0, 0, 0, 7, 0, 16, 1, 0, 0, 0, 0, 1, 0, 4, 0, 0, 0, 1, 0] nil)
noncomputable def sc7x10_R (st rr lr : Nat) (ns : Nat → Sy.Let) : Sy.Res (Value × List Blk) :=
 let z0 := some (Addr.mk (ns 1).n 0 none)
 let z1 := Array.mk []
 leaf (Value.pointer z0, [Blk.mk (ns 5).n (Cont.obj (Obj.cells (Array.mk [.pointer (some ⟨(ns 3).n, 0, none⟩)]) 177)) true, Blk.mk (ns 4).n (Cont.obj (Obj.cells (Array.mk [.pointer z0]) 48)) true, Blk.mk (ns 3).n (Cont.obj (Obj.cells (Array.mk [.pointer (some ⟨st, 0, none⟩), .slice none 0 0, .slice none 0 0, .slice (some ⟨(ns 2).n, 0, none⟩) 10 10]) 180)) true, Blk.mk (ns 2).n (Cont.obj (Obj.cells (Array.mk [.bool false, .bool false, .bool false, .bool false, .bool false, .bool false, .bool false, .bool false, .bool false, .bool false]) 4)) true, Blk.mk (ns 1).n (Cont.obj (Obj.cells (Array.mk [Value.func (Fn.func 95) z1 (Array.mk [.pointer (some ⟨(ns 5).n, 0, none⟩), .pointer (some ⟨(ns 0).n, 0, none⟩), .pointer (some ⟨(ns 4).n, 0, none⟩)]), .int .u32 0, .int .i64 0, .int .u64 0, .bool false, .slice none 0 0]) 100)) true, Blk.mk (ns 0).n (Cont.obj (Obj.cells (Array.mk [Value.func (Fn.func 75) z1 z1]) 152)) true, Blk.mk st (Cont.obj (Obj.cells (Array.mk [.slice (some ⟨rr, 0, none⟩) 10 10, .slice (some ⟨lr, 0, none⟩) 10 10]) 132)) false])
theorem sc7x10_run (st rr lr : Nat) : Sy.Ran (Sy.inB Tryd.prog Sy.S0 50 74 #[ptr st, cTh7] [⟨st, (snB st rr lr 10).2, false⟩]) sc7x10_o (sc7x10_R st rr lr) := ⟨fun _ => by kernel_rfl, fun _ => by kernel_rfl⟩
def sc7x11_o : Sy.O := (steps [1, 0, 1, 0, 2, 3, 4, 5, 6, 0, 0, 0, 7, 0, 16, 1, 0, 0, 0, 0, 1, 0, 4, 0, 0, 0, 1, 0] nil)
noncomputable def sc7x11_R (st rr lr : Nat) (ns : Nat → Sy.Let) : Sy.Res (Value × List Blk) :=
 let z0 := some (Addr.mk (ns 1).n 0 none)
 let z1 := Array.mk []
 leaf (Value.pointer z0, [Blk.mk (ns 5).n (Cont.obj (Obj.cells (Array.mk [.pointer (some ⟨(ns 3).n, 0, none⟩)]) 177)) true, Blk.mk (ns 4).n (Cont.obj (Obj.cells (Array.mk [.pointer z0]) 48)) true, Blk.mk (ns 3).n (Cont.obj (Obj.cells (Array.mk [.pointer (some ⟨st, 0, none⟩), .slice none 0 0, .slice none 0 0, .slice (some ⟨(ns 2).n, 0, none⟩) 11 11]) 180)) true, Blk.mk (ns 2).n (Cont.obj (Obj.cells (Array.mk [.bool false, .bool false, .bool false, .bool false, .bool false, .bool false, .bool false, .bool false, .bool false, .bool false, .bool false]) 4)) true, Blk.mk (ns 1).n (Cont.obj (Obj.cells (Array.mk [Value.func (Fn.func 95) z1 (Array.mk [.pointer (some ⟨(ns 5).n, 0, none⟩), .pointer (some ⟨(ns 0).n, 0, none⟩), .pointer (some ⟨(ns 4).n, 0, none⟩)]), .int .u32 0, .int .i64 0, .int .u64 0, .bool false, .slice none 0 0]) 100)) true, Blk.mk (ns 0).n (Cont.obj (Obj.cells (Array.mk [Value.func (Fn.func 75) z1 z1]) 152)) true, Blk.mk st (Cont.obj (Obj.cells (Array.mk [.slice (some ⟨rr, 0, none⟩) 11 11, .slice (some ⟨lr, 0, none⟩) 11 11]) 132)) false])
theorem sc7x11_run (st rr lr : Nat) : Sy.Ran (Sy.inB Tryd.prog Sy.S0 50 74 #[ptr st, cTh7] [⟨st, (snB st rr lr 11).2, false⟩]) sc7x11_o (sc7x11_R st rr lr) := ⟨fun _ => by kernel_rfl, fun _ => by kernel_rfl⟩
def sc7x12_o : Sy.O := (steps [1, 0, 1, 0, 2, 3, 4, 5, 6, 0, 0, 0, 7, 0, 16, 1, 0, 0, 0, 0, 1, 0, 4, 0, 0, 0, 1, 0] nil)
noncomputable def sc7x12_R (st rr lr : Nat) (ns : Nat → Sy.Let) : Sy.Res (Value × List Blk) :=
 let z0 := some (Addr.mk (ns 1).n 0 none)
 let z1 := Array.mk []
 leaf (Value.pointer z0, [Blk.mk (ns 5).n (Cont.obj (Obj.cells (Array.mk [.pointer (some ⟨(ns 3).n, 0, none⟩)]) 177)) true, Blk.mk (ns 4).n (Cont.obj (Obj.cells (Array.mk [.pointer z0]) 48)) true, Blk.mk (ns 3).n (Cont.obj (Obj.cells (Array.mk [.pointer (some ⟨st, 0, none⟩), .slice none 0 0, .slice none 0 0, .slice (some ⟨(ns 2).n, 0, none⟩) 12 12]) 180)) true, Blk.mk (ns 2).n (Cont.obj (Obj.cells (Array.mk [.bool false, .bool false, .bool false, .bool false, .bool false, .bool false, .bool false, .bool false, .bool false, .bool false, .bool false, .bool false]) 4)) true, Blk.mk (ns 1).n (Cont.obj (Obj.cells (Array.mk [Value.func (Fn.func 95) z1 (Array.mk [.pointer (some ⟨(ns 5).n, 0, none⟩), .pointer (some ⟨(ns 0).n, 0, none⟩), .pointer (some ⟨(ns 4).n, 0, none⟩)]), .int .u32 0, .int .i64 0, .int .u64 0, .bool false, .slice none 0 0]) 100)) true, Blk.mk (ns 0).n (Cont.obj (Obj.cells (Array.mk [Value.func (Fn.func 75) z1 z1]) 152)) true, Blk.mk st (Cont.obj (Obj.cells (Array.mk [.slice (some ⟨rr, 0, none⟩) 12 12, .slice (some ⟨lr, 0, none⟩) 12 12]) 132)) false])
theorem sc7x12_run (st rr lr : Nat) : Sy.Ran (Sy.inB Tryd.prog Sy.S0 50 74 #[ptr st, cTh7] [⟨st, (snB st rr lr 12).2, false⟩]) sc7x12_o (sc7x12_R st rr lr) := ⟨fun _ => by kernel_rfl, fun _ => by kernel_rfl⟩
def sc7x13_o : Sy.O := (steps [1, 0, 1, 0, 2, 3, 4, 5, 6, 0, 0, 0, 7, 0, 16, 1, 0, 0, 0, 0, 1, 0, 4, 0, 0, 0, 1, 0] nil)
noncomputable def sc7x13_R (st rr lr : Nat) (ns : Nat → Sy.Let) : Sy.Res (Value × List Blk) :=
 let z0 := some (Addr.mk (ns 1).n 0 none)
 let z1 := Array.mk []
 leaf (Value.pointer z0, [Blk.mk (ns 5).n (Cont.obj (Obj.cells (Array.mk [.pointer (some ⟨(ns 3).n, 0, none⟩)]) 177)) true, Blk.mk (ns 4).n (Cont.obj (Obj.cells (Array.mk [.pointer z0]) 48)) true, Blk.mk (ns 3).n (Cont.obj (Obj.cells (Array.mk [.pointer (some ⟨st, 0, none⟩), .slice none 0 0, .slice none 0 0, .slice (some ⟨(ns 2).n, 0, none⟩) 13 13]) 180)) true, Blk.mk (ns 2).n (Cont.obj (Obj.cells (Array.mk [.bool false, .bool false, .bool false, .bool false, .bool false, .bool false, .bool false, .bool false, .bool false, .bool false, .bool false, .bool false, .bool false]) 4)) true, Blk.mk (ns 1).n (Cont.obj (Obj.cells (Array.mk [Value.func (Fn.func 95) z1 (Array.mk [.pointer (some ⟨(ns 5).n, 0, none⟩), .pointer (some ⟨(ns 0).n, 0, none⟩), .pointer (some ⟨(ns 4).n, 0, none⟩)]), .int .u32 0, .int .i64 0, .int .u64 0, .bool false, .slice none 0 0]) 100)) true, Blk.mk (ns 0).n (Cont.obj (Obj.cells (Array.mk [Value.func (Fn.func 75) z1 z1]) 152)) true, Blk.mk st (Cont.obj (Obj.cells (Array.mk [.slice (some ⟨rr, 0, none⟩) 13 13, .slice (some ⟨lr, 0, none⟩) 13 13]) 132)) false])
theorem sc7x13_run (st rr lr : Nat) : Sy.Ran (Sy.inB Tryd.prog Sy.S0 50 74 #[ptr st, cTh7] [⟨st, (snB st rr lr 13).2, false⟩]) sc7x13_o (sc7x13_R st rr lr) := ⟨fun _ => by kernel_rfl, fun _ => by kernel_rfl⟩
def sc7x14_o : Sy.O := (steps [1, 0, 1, 0, 2, 3, 4, 5, 6, 0, 0, 0, 7, 0, 16, 1, 0, 0, 0, 0, 1, 0, 4, 0, 0, 0, 1, 0] nil)
noncomputable def sc7x14_R (st rr lr : Nat) (ns : Nat → Sy.Let) : Sy.Res (Value × List Blk) :=
 let z0 := some (Addr.mk (ns 1).n 0 none)
 let z1 := Array.mk []
 leaf (Value.pointer z0, [Blk.mk (ns 5).n (Cont.obj (Obj.cells (Array.mk [.pointer (some ⟨(ns 3).n, 0, none⟩)]) 177)) true, Blk.mk (ns 4).n (Cont.obj (Obj.cells (Array.mk [.pointer z0]) 48)) true, Blk.mk (ns 3).n (Cont.obj (Obj.cells (Array.mk [.pointer (some ⟨st, 0, none⟩), .slice none 0 0, .slice none 0 0, .slice (some ⟨(ns 2).n, 0, none⟩) 14 14]) 180)) true, Blk.mk (ns 2).n (Cont.obj (Obj.cells (Array.mk [.bool false, .bool false, .bool false, .bool false, .bool false, .bool false, .bool false, .bool false, .bool false, .bool false, .bool false, .bool false, .bool false, .bool false]) 4)) true, Blk.mk (ns 1).n (Cont.obj (Obj.cells (Array.mk [Value.func (Fn.func 95) z1 (Array.mk [.pointer (some ⟨(ns 5).n, 0, none⟩), .pointer (some ⟨(ns 0).n, 0, none⟩), .pointer (some ⟨(ns 4).n, 0, none⟩)]), .int .u32 0, .int .i64 0, .int .u64 0, .bool false, .slice none 0 0]) 100)) true, Blk.mk (ns 0).n (Cont.obj (Obj.cells (Array.mk [Value.func (Fn.func 75) z1 z1]) 152)) true, Blk.mk st (Cont.obj (Obj.cells (Array.mk [.slice (some ⟨rr, 0, none⟩) 14 14, .slice (some ⟨lr, 0, none⟩) 14 14]) 132)) false])
theorem sc7x14_run (st rr lr : Nat) : Sy.Ran (Sy.inB Tryd.prog Sy.S0 50 74 #[ptr st, cTh7] [⟨st, (snB st rr lr 14).2, false⟩]) sc7x14_o (sc7x14_R st rr lr) := ⟨fun _ => by kernel_rfl, fun _ => by kernel_rfl⟩
def sc7x15_o : Sy.O := (steps [1, 0, 1, 0, 2, 3, 4, 5, 6, 0, 0, 0, 7, 0, 16, 1, 0, 0, 0, 0, 1, 0, 4, 0, 0, 0, 1, 0] nil)
noncomputable def sc7x15_R (st rr lr : Nat) (ns : Nat → Sy.Let) : Sy.Res (Value × List Blk) :=
 let z0 := some (Addr.mk (ns 1).n 0 none)
 let z1 := Array.mk []
 leaf (Value.pointer z0, [Blk.mk (ns 5).n (Cont.obj (Obj.cells (Array.mk [.pointer (some ⟨(ns 3).n, 0, none⟩)]) 177)) true, Blk.mk (ns 4).n (Cont.obj (Obj.cells (Array.mk [.pointer z0]) 48)) true, Blk.mk (ns 3).n (Cont.obj (Obj.cells (Array.mk [.pointer (some ⟨st, 0, none⟩), .slice none 0 0, .slice none 0 0, .slice (some ⟨(ns 2).n, 0, none⟩) 15 15]) 180)) true, Blk.mk (ns 2).n (Cont.obj (Obj.cells (Array.mk [.bool false, .bool false, .bool false, .bool false, .bool false, .bool false, .bool false, .bool false, .bool false, .bool false, .bool false, .bool false, .bool false, .bool false, .bool false]) 4)) true, Blk.mk (ns 1).n (Cont.obj (Obj.cells (Array.mk [Value.func (Fn.func 95) z1 (Array.mk [.pointer (some ⟨(ns 5).n, 0, none⟩), .pointer (some ⟨(ns 0).n, 0, none⟩), .pointer (some ⟨(ns 4).n, 0, none⟩)]), .int .u32 0, .int .i64 0, .int .u64 0, .bool false, .slice none 0 0]) 100)) true, Blk.mk (ns 0).n (Cont.obj (Obj.cells (Array.mk [Value.func (Fn.func 75) z1 z1]) 152)) true, Blk.mk st (Cont.obj (Obj.cells (Array.mk [.slice (some ⟨rr, 0, none⟩) 15 15, .slice (some ⟨lr, 0, none⟩) 15 15]) 132)) false])
theorem sc7x15_run (st rr lr : Nat) : Sy.Ran (Sy.inB Tryd.prog Sy.S0 50 74 #[ptr st, cTh7] [⟨st, (snB st rr lr 15).2, false⟩]) sc7x15_o (sc7x15_R st rr lr) := ⟨fun _ => by kernel_rfl, fun _ => by kernel_rfl⟩
def sc7x16_o : Sy.O := (steps [1, 0, 1, 0, 2, 3, 4, 5, 6, 0, 0, 0, 7, 0, 16, 1, 0, 0, 0, 0, 1, 0, 4, 0, 0, 0, 1, 0] nil)
noncomputable def sc7x16_R (st rr lr : Nat) (ns : Nat → Sy.Let) : Sy.Res (Value × List Blk) :=
 let z0 := some (Addr.mk (ns 1).n 0 none)
 let z1 := Array.mk []
 leaf (Value.pointer z0, [Blk.mk (ns 5).n (Cont.obj (Obj.cells (Array.mk [.pointer (some ⟨(ns 3).n, 0, none⟩)]) 177)) true, Blk.mk (ns 4).n (Cont.obj (Obj.cells (Array.mk [.pointer z0]) 48)) true, Blk.mk (ns 3).n (Cont.obj (Obj.cells (Array.mk [.pointer (some ⟨st, 0, none⟩), .slice none 0 0, .slice none 0 0, .slice (some ⟨(ns 2).n, 0, none⟩) 16 16]) 180)) true, Blk.mk (ns 2).n (Cont.obj (Obj.cells (Array.mk [.bool false, .bool false, .bool false, .bool false, .bool false, .bool false, .bool false, .bool false, .bool false, .bool false, .bool false, .bool false, .bool false, .bool false, .bool false, .bool false]) 4)) true, Blk.mk (ns 1).n (Cont.obj (Obj.cells (Array.mk [Value.func (Fn.func 95) z1 (Array.mk [.pointer (some ⟨(ns 5).n, 0, none⟩), .pointer (some ⟨(ns 0).n, 0, none⟩), .pointer (some ⟨(ns 4).n, 0, none⟩)]), .int .u32 0, .int .i64 0, .int .u64 0, .bool false, .slice none 0 0]) 100)) true, Blk.mk (ns 0).n (Cont.obj (Obj.cells (Array.mk [Value.func (Fn.func 75) z1 z1]) 152)) true, Blk.mk st (Cont.obj (Obj.cells (Array.mk [.slice (some ⟨rr, 0, none⟩) 16 16, .slice (some ⟨lr, 0, none⟩) 16 16]) 132)) false])
theorem sc7x16_run (st rr lr : Nat) : Sy.Ran (Sy.inB Tryd.prog Sy.S0 50 74 #[ptr st, cTh7] [⟨st, (snB st rr lr 16).2, false⟩]) sc7x16_o (sc7x16_R st rr lr) := ⟨fun _ => by kernel_rfl, fun _ => by kernel_rfl⟩
open Go Go.RowKit
open Go.Proofs.YtjohknpmhlildaaDoor.Sy (Let Blk Cont Bun ptr ptr0 bx tkB tkU clo)
def sc8x1_o : Sy.O := (steps [1, 0, 1, 0, 2, 3, 4, 5, 6, 0, 0, 0, 7, 0, 16, 1, 0, 0, 0, 0, 1, 0, 4, 0, 0, 0, 1, 0] nil)
noncomputable def sc8x1_R (st rr lr sb ib vb : Nat) (ns : Nat → Sy.Let) : Sy.Res (Value × List Blk) :=
 let z0 := some (Addr.mk (ns 1).n 0 none)
 leaf (Value.pointer z0, [Blk.mk (ns 5).n (Cont.obj (Obj.cells (Array.mk [.pointer (some ⟨(ns 3).n, 0, none⟩)]) 177)) true, Blk.mk (ns 4).n (Cont.obj (Obj.cells (Array.mk [.pointer z0]) 48)) true, Blk.mk (ns 3).n (Cont.obj (Obj.cells (Array.mk [.pointer (some ⟨st, 0, none⟩), .slice none 0 0, .slice none 0 0, .slice (some ⟨(ns 2).n, 0, none⟩) 1 1]) 180)) true, Blk.mk (ns 2).n (Cont.obj (Obj.cells (Array.mk [.bool false]) 4)) true, Blk.mk (ns 1).n (Cont.obj (Obj.cells (Array.mk [Value.func (Fn.func 95) (Array.mk []) (Array.mk [.pointer (some ⟨(ns 5).n, 0, none⟩), .pointer (some ⟨(ns 0).n, 0, none⟩), .pointer (some ⟨(ns 4).n, 0, none⟩)]), .int .u32 0, .int .i64 0, .int .u64 0, .bool false, .slice none 0 0]) 100)) true, Blk.mk (ns 0).n (Cont.obj (Obj.cells (Array.mk [Value.func (Fn.func 76) (Array.mk []) (Array.mk [.pointer (some ⟨sb, 0, none⟩), .pointer (some ⟨ib, 0, none⟩), .pointer (some ⟨vb, 0, none⟩)])]) 152)) true, Blk.mk st (Cont.obj (Obj.cells (Array.mk [.slice (some ⟨rr, 0, none⟩) 1 1, .slice (some ⟨lr, 0, none⟩) 1 1]) 132)) false])
theorem sc8x1_run (st rr lr sb ib vb : Nat) : Sy.Ran (Sy.inB Tryd.prog Sy.S0 50 74 #[ptr st, cTh8 sb ib vb] [⟨st, (snB st rr lr 1).2, false⟩]) sc8x1_o (sc8x1_R st rr lr sb ib vb) := ⟨fun _ => by kernel_rfl, fun _ => by kernel_rfl⟩
def sc8x2_o : Sy.O := (steps [1, 0, 1, 0, 2, 3, 4, 5, 6, 0, 0, 0, 7, 0, 16, 1, 0, 0, 0, 0, 1, 0, 4, 0, 0, 0, 1, 0] nil)
noncomputable def sc8x2_R (st rr lr sb ib vb : Nat) (ns : Nat → Sy.Let) : Sy.Res (Value × List Blk) :=
 let z0 := some (Addr.mk (ns 1).n 0 none)
 leaf (Value.pointer z0, [Blk.mk (ns 5).n (Cont.obj (Obj.cells (Array.mk [.pointer (some ⟨(ns 3).n, 0, none⟩)]) 177)) true, Blk.mk (ns 4).n (Cont.obj (Obj.cells (Array.mk [.pointer z0]) 48)) true, Blk.mk (ns 3).n (Cont.obj (Obj.cells (Array.mk [.pointer (some ⟨st, 0, none⟩), .slice none 0 0, .slice none 0 0, .slice (some ⟨(ns 2).n, 0, none⟩) 2 2]) 180)) true, Blk.mk (ns 2).n (Cont.obj (Obj.cells (Array.mk [.bool false, .bool false]) 4)) true, Blk.mk (ns 1).n (Cont.obj (Obj.cells (Array.mk [Value.func (Fn.func 95) (Array.mk []) (Array.mk [.pointer (some ⟨(ns 5).n, 0, none⟩), .pointer (some ⟨(ns 0).n, 0, none⟩), .pointer (some ⟨(ns 4).n, 0, none⟩)]), .int .u32 0, .int .i64 0, .int .u64 0, .bool false, .slice none 0 0]) 100)) true, Blk.mk (ns 0).n (Cont.obj (Obj.cells (Array.mk [Value.func (Fn.func 76) (Array.mk []) (Array.mk [.pointer (some ⟨sb, 0, none⟩), .pointer (some ⟨ib, 0, none⟩), .pointer (some ⟨vb, 0, none⟩)])]) 152)) true, Blk.mk st (Cont.obj (Obj.cells (Array.mk [.slice (some ⟨rr, 0, none⟩) 2 2, .slice (some ⟨lr, 0, none⟩) 2 2]) 132)) false])
theorem sc8x2_run (st rr lr sb ib vb : Nat) : Sy.Ran (Sy.inB Tryd.prog Sy.S0 50 74 #[ptr st, cTh8 sb ib vb] [⟨st, (snB st rr lr 2).2, false⟩]) sc8x2_o (sc8x2_R st rr lr sb ib vb) := ⟨fun _ => by kernel_rfl, fun _ => by kernel_rfl⟩
def sc8x3_o : Sy.O := (steps [1, 0, 1, 0, 2, 3, 4, 5, 6, 0, 0, 0, 7, 0, 16, 1, 0, 0, 0, 0, 1, 0, 4, 0, 0, 0, 1, 0] nil)
noncomputable def sc8x3_R (st rr lr sb ib vb : Nat) (ns : Nat → Sy.Let) : Sy.Res (Value × List Blk) :=
 let z0 := some (Addr.mk (ns 1).n 0 none)
 leaf (Value.pointer z0, [Blk.mk (ns 5).n (Cont.obj (Obj.cells (Array.mk [.pointer (some ⟨(ns 3).n, 0, none⟩)]) 177)) true, Blk.mk (ns 4).n (Cont.obj (Obj.cells (Array.mk [.pointer z0]) 48)) true, Blk.mk (ns 3).n (Cont.obj (Obj.cells (Array.mk [.pointer (some ⟨st, 0, none⟩), .slice none 0 0, .slice none 0 0, .slice (some ⟨(ns 2).n, 0, none⟩) 3 3]) 180)) true, Blk.mk (ns 2).n (Cont.obj (Obj.cells (Array.mk [.bool false, .bool false, .bool false]) 4)) true, Blk.mk (ns 1).n (Cont.obj (Obj.cells (Array.mk [Value.func (Fn.func 95) (Array.mk []) (Array.mk [.pointer (some ⟨(ns 5).n, 0, none⟩), .pointer (some ⟨(ns 0).n, 0, none⟩), .pointer (some ⟨(ns 4).n, 0, none⟩)]), .int .u32 0, .int .i64 0, .int .u64 0, .bool false, .slice none 0 0]) 100)) true, Blk.mk (ns 0).n (Cont.obj (Obj.cells (Array.mk [Value.func (Fn.func 76) (Array.mk []) (Array.mk [.pointer (some ⟨sb, 0, none⟩), .pointer (some ⟨ib, 0, none⟩), .pointer (some ⟨vb, 0, none⟩)])]) 152)) true, Blk.mk st (Cont.obj (Obj.cells (Array.mk [.slice (some ⟨rr, 0, none⟩) 3 3, .slice (some ⟨lr, 0, none⟩) 3 3]) 132)) false])
theorem sc8x3_run (st rr lr sb ib vb : Nat) : Sy.Ran (Sy.inB Tryd.prog Sy.S0 50 74 #[ptr st, cTh8 sb ib vb] [⟨st, (snB st rr lr 3).2, false⟩]) sc8x3_o (sc8x3_R st rr lr sb ib vb) := ⟨fun _ => by kernel_rfl, fun _ => by kernel_rfl⟩
def sc8x4_o : Sy.O := (steps [1, 0, 1, 0, 2, 3, 4, 5, 6, 0, 0, 0, 7, 0, 16, 1, 0, 0, 0, 0, 1, 0, 4, 0, 0, 0, 1, 0] nil)
noncomputable def sc8x4_R (st rr lr sb ib vb : Nat) (ns : Nat → Sy.Let) : Sy.Res (Value × List Blk) :=
 let z0 := some (Addr.mk (ns 1).n 0 none)
 leaf (Value.pointer z0, [Blk.mk (ns 5).n (Cont.obj (Obj.cells (Array.mk [.pointer (some ⟨(ns 3).n, 0, none⟩)]) 177)) true, Blk.mk (ns 4).n (Cont.obj (Obj.cells (Array.mk [.pointer z0]) 48)) true, Blk.mk (ns 3).n (Cont.obj (Obj.cells (Array.mk [.pointer (some ⟨st, 0, none⟩), .slice none 0 0, .slice none 0 0, .slice (some ⟨(ns 2).n, 0, none⟩) 4 4]) 180)) true, Blk.mk (ns 2).n (Cont.obj (Obj.cells (Array.mk [.bool false, .bool false, .bool false, .bool false]) 4)) true, Blk.mk (ns 1).n (Cont.obj (Obj.cells (Array.mk [Value.func (Fn.func 95) (Array.mk []) (Array.mk [.pointer (some ⟨(ns 5).n, 0, none⟩), .pointer (some ⟨(ns 0).n, 0, none⟩), .pointer (some ⟨(ns 4).n, 0, none⟩)]), .int .u32 0, .int .i64 0, .int .u64 0, .bool false, .slice none 0 0]) 100)) true, Blk.mk (ns 0).n (Cont.obj (Obj.cells (Array.mk [Value.func (Fn.func 76) (Array.mk []) (Array.mk [.pointer (some ⟨sb, 0, none⟩), .pointer (some ⟨ib, 0, none⟩), .pointer (some ⟨vb, 0, none⟩)])]) 152)) true, Blk.mk st (Cont.obj (Obj.cells (Array.mk [.slice (some ⟨rr, 0, none⟩) 4 4, .slice (some ⟨lr, 0, none⟩) 4 4]) 132)) false])
theorem sc8x4_run (st rr lr sb ib vb : Nat) : Sy.Ran (Sy.inB Tryd.prog Sy.S0 50 74 #[ptr st, cTh8 sb ib vb] [⟨st, (snB st rr lr 4).2, false⟩]) sc8x4_o (sc8x4_R st rr lr sb ib vb) := ⟨fun _ => by kernel_rfl, fun _ => by kernel_rfl⟩
def sc8x5_o : Sy.O := (steps [1, 0, 1, 0, 2, 3, 4, 5, 6, 0, 0, 0, 7, 0, 16, 1, 0, 0, 0, 0, 1, 0, 4, 0, 0, 0, 1, 0] nil)
noncomputable def sc8x5_R (st rr lr sb ib vb : Nat) (ns : Nat → Sy.Let) : Sy.Res (Value × List Blk) :=
 let z0 := some (Addr.mk (ns 1).n 0 none)
 leaf (Value.pointer z0, [Blk.mk (ns 5).n (Cont.obj (Obj.cells (Array.mk [.pointer (some ⟨(ns 3).n, 0, none⟩)]) 177)) true, Blk.mk (ns 4).n (Cont.obj (Obj.cells (Array.mk [.pointer z0]) 48)) true, Blk.mk (ns 3).n (Cont.obj (Obj.cells (Array.mk [.pointer (some ⟨st, 0, none⟩), .slice none 0 0, .slice none 0 0, .slice (some ⟨(ns 2).n, 0, none⟩) 5 5]) 180)) true, Blk.mk (ns 2).n (Cont.obj (Obj.cells (Array.mk [.bool false, .bool false, .bool false, .bool false, .bool false]) 4)) true, Blk.mk (ns 1).n (Cont.obj (Obj.cells (Array.mk [Value.func (Fn.func 95) (Array.mk []) (Array.mk [.pointer (some ⟨(ns 5).n, 0, none⟩), .pointer (some ⟨(ns 0).n, 0, none⟩), .pointer (some ⟨(ns 4).n, 0, none⟩)]), .int .u32 0, .int .i64 0, .int .u64 0, .bool false, .slice none 0 0]) 100)) true, Blk.mk (ns 0).n (Cont.obj (Obj.cells (Array.mk [Value.func (Fn.func 76) (Array.mk []) (Array.mk [.pointer (some ⟨sb, 0, none⟩), .pointer (some ⟨ib, 0, none⟩), .pointer (some ⟨vb, 0, none⟩)])]) 152)) true, Blk.mk st (Cont.obj (Obj.cells (Array.mk [.slice (some ⟨rr, 0, none⟩) 5 5, .slice (some ⟨lr, 0, none⟩) 5 5]) 132)) false])
theorem sc8x5_run (st rr lr sb ib vb : Nat) : Sy.Ran (Sy.inB Tryd.prog Sy.S0 50 74 #[ptr st, cTh8 sb ib vb] [⟨st, (snB st rr lr 5).2, false⟩]) sc8x5_o (sc8x5_R st rr lr sb ib vb) := ⟨fun _ => by kernel_rfl, fun _ => by kernel_rfl⟩
def sc8x6_o : Sy.O := (steps [1, 0, 1, 0, 2, 3, 4, 5, 6, 0, 0, 0, 7, 0, 16, 1, 0, 0, 0, 0, 1, 0, 4, 0, 0, 0, 1, 0] nil)
noncomputable def sc8x6_R (st rr lr sb ib vb : Nat) (ns : Nat → Sy.Let) : Sy.Res (Value × List Blk) :=
 let z0 := some (Addr.mk (ns 1).n 0 none)
 leaf (Value.pointer z0, [Blk.mk (ns 5).n (Cont.obj (Obj.cells (Array.mk [.pointer (some ⟨(ns 3).n, 0, none⟩)]) 177)) true, Blk.mk (ns 4).n (Cont.obj (Obj.cells (Array.mk [.pointer z0]) 48)) true, Blk.mk (ns 3).n (Cont.obj (Obj.cells (Array.mk [.pointer (some ⟨st, 0, none⟩), .slice none 0 0, .slice none 0 0, .slice (some ⟨(ns 2).n, 0, none⟩) 6 6]) 180)) true, Blk.mk (ns 2).n (Cont.obj (Obj.cells (Array.mk [.bool false, .bool false, .bool false, .bool false, .bool false, .bool false]) 4)) true, Blk.mk (ns 1).n (Cont.obj (Obj.cells (Array.mk [Value.func (Fn.func 95) (Array.mk []) (Array.mk [.pointer (some ⟨(ns 5).n, 0, none⟩), .pointer (some ⟨(ns 0).n, 0, none⟩), .pointer (some ⟨(ns 4).n, 0, none⟩)]), .int .u32 0, .int .i64 0, .int .u64 0, .bool false, .slice none 0 0]) 100)) true, Blk.mk (ns 0).n (Cont.obj (Obj.cells (Array.mk [Value.func (Fn.func 76) (Array.mk []) (Array.mk [.pointer (some ⟨sb, 0, none⟩), .pointer (some ⟨ib, 0, none⟩), .pointer (some ⟨vb, 0, none⟩)])]) 152)) true, Blk.mk st (Cont.obj (Obj.cells (Array.mk [.slice (some ⟨rr, 0, none⟩) 6 6, .slice (some ⟨lr, 0, none⟩) 6 6]) 132)) false])
theorem sc8x6_run (st rr lr sb ib vb : Nat) : Sy.Ran (Sy.inB Tryd.prog Sy.S0 50 74 #[ptr st, cTh8 sb ib vb] [⟨st, (snB st rr lr 6).2, false⟩]) sc8x6_o (sc8x6_R st rr lr sb ib vb) := ⟨fun _ => by kernel_rfl, fun _ => by kernel_rfl⟩
def sc8x7_o : Sy.O := (steps [1, 0, 1, 0, 2, 3, 4, 5, 6, 0, 0, 0, 7, 0, 16, 1, 0, 0, 0, 0, 1, 0, 4, 0, 0, 0, 1, 0] nil)
noncomputable def sc8x7_R (st rr lr sb ib vb : Nat) (ns : Nat → Sy.Let) : Sy.Res (Value × List Blk) :=
 let z0 := some (Addr.mk (ns 1).n 0 none)
 leaf (Value.pointer z0, [Blk.mk (ns 5).n (Cont.obj (Obj.cells (Array.mk [.pointer (some ⟨(ns 3).n, 0, none⟩)]) 177)) true, Blk.mk (ns 4).n (Cont.obj (Obj.cells (Array.mk [.pointer z0]) 48)) true, Blk.mk (ns 3).n (Cont.obj (Obj.cells (Array.mk [.pointer (some ⟨st, 0, none⟩), .slice none 0 0, .slice none 0 0, .slice (some ⟨(ns 2).n, 0, none⟩) 7 7]) 180)) true, Blk.mk (ns 2).n (Cont.obj (Obj.cells (Array.mk [.bool false, .bool false, .bool false, .bool false, .bool false, .bool false, .bool false]) 4)) true, Blk.mk (ns 1).n (Cont.obj (Obj.cells (Array.mk [Value.func (Fn.func 95) (Array.mk []) (Array.mk [.pointer (some ⟨(ns 5).n, 0, none⟩), .pointer (some ⟨(ns 0).n, 0, none⟩), .pointer (some ⟨(ns 4).n, 0, none⟩)]), .int .u32 0, .int .i64 0, .int .u64 0, .bool false, .slice none 0 0]) 100)) true, Blk.mk (ns 0).n (Cont.obj (Obj.cells (Array.mk [Value.func (Fn.func 76) (Array.mk []) (Array.mk [.pointer (some ⟨sb, 0, none⟩), .pointer (some ⟨ib, 0, none⟩), .pointer (some ⟨vb, 0, none⟩)])]) 152)) true, Blk.mk st (Cont.obj (Obj.cells (Array.mk [.slice (some ⟨rr, 0, none⟩) 7 7, .slice (some ⟨lr, 0, none⟩) 7 7]) 132)) false])
theorem sc8x7_run (st rr lr sb ib vb : Nat) : Sy.Ran (Sy.inB Tryd.prog Sy.S0 50 74 #[ptr st, cTh8 sb ib vb] [⟨st, (snB st rr lr 7).2, false⟩]) sc8x7_o (sc8x7_R st rr lr sb ib vb) := ⟨fun _ => by kernel_rfl, fun _ => by kernel_rfl⟩
def sc8x8_o : Sy.O := (steps [1, 0, 1, 0, 2, 3, 4, 5, 6, 0, 0, 0, 7, 0, 16, 1, 0, 0, 0, 0, 1, 0, 4, 0, 0, 0, 1, 0] nil)
noncomputable def sc8x8_R (st rr lr sb ib vb : Nat) (ns : Nat → Sy.Let) : Sy.Res (Value × List Blk) :=
 let z0 := some (Addr.mk (ns 1).n 0 none)
 leaf (Value.pointer z0, [Blk.mk (ns 5).n (Cont.obj (Obj.cells (Array.mk [.pointer (some ⟨(ns 3).n, 0, none⟩)]) 177)) true, Blk.mk (ns 4).n (Cont.obj (Obj.cells (Array.mk [.pointer z0]) 48)) true, Blk.mk (ns 3).n (Cont.obj (Obj.cells (Array.mk [.pointer (some ⟨st, 0, none⟩), .slice none 0 0, .slice none 0 0, .slice (some ⟨(ns 2).n, 0, none⟩) 8 8]) 180)) true, Blk.mk (ns 2).n (Cont.obj (Obj.cells (Array.mk [.bool false, .bool false, .bool false, .bool false, .bool false, .bool false, .bool false, .bool false]) 4)) true, Blk.mk (ns 1).n (Cont.obj (Obj.cells (Array.mk [Value.func (Fn.func 95) (Array.mk []) (Array.mk [.pointer (some ⟨(ns 5).n, 0, none⟩), .pointer (some ⟨(ns 0).n, 0, none⟩), .pointer (some ⟨(ns 4).n, 0, none⟩)]), .int .u32 0, .int .i64 0, .int .u64 0, .bool false, .slice none 0 0]) 100)) true, Blk.mk (ns 0).n (Cont.obj (Obj.cells (Array.mk [Value.func (Fn.func 76) (Array.mk []) (Array.mk [.pointer (some ⟨sb, 0, none⟩), .pointer (some ⟨ib, 0, none⟩), .pointer (some ⟨vb, 0, none⟩)])]) 152)) true, Blk.mk st (Cont.obj (Obj.cells (Array.mk [.slice (some ⟨rr, 0, none⟩) 8 8, .slice (some ⟨lr, 0, none⟩) 8 8]) 132)) false])
theorem sc8x8_run (st rr lr sb ib vb : Nat) : Sy.Ran (Sy.inB Tryd.prog Sy.S0 50 74 #[ptr st, cTh8 sb ib vb] [⟨st, (snB st rr lr 8).2, false⟩]) sc8x8_o (sc8x8_R st rr lr sb ib vb) := ⟨fun _ => by kernel_rfl, fun _ => by kernel_rfl⟩
def sc8x9_o : Sy.O := (steps [1, 0, 1, 0, 2, 3, 4, 5, 6, 0, 0, 0, 7, 0, 16, 1, 0, 0, 0, 0, 1, 0, 4, 0, 0, 0, 1, 0] nil)
noncomputable def sc8x9_R (st rr lr sb ib vb : Nat) (ns : Nat → Sy.Let) : Sy.Res (Value × List Blk) :=
 let z0 := some (Addr.mk (ns 1).n 0 none)
 leaf (Value.pointer z0, [Blk.mk (ns 5).n (Cont.obj (Obj.cells (Array.mk [.pointer (some ⟨(ns 3).n, 0, none⟩)]) 177)) true, Blk.mk (ns 4).n (Cont.obj (Obj.cells (Array.mk [.pointer z0]) 48)) true, Blk.mk (ns 3).n (Cont.obj (Obj.cells (Array.mk [.pointer (some ⟨st, 0, none⟩), .slice none 0 0, .slice none 0 0, .slice (some ⟨(ns 2).n, 0, none⟩) 9 9]) 180)) true, Blk.mk (ns 2).n (Cont.obj (Obj.cells (Array.mk [.bool false, .bool false, .bool false, .bool false, .bool false, .bool false, .bool false, .bool false, .bool false]) 4)) true, Blk.mk (ns 1).n (Cont.obj (Obj.cells (Array.mk [Value.func (Fn.func 95) (Array.mk []) (Array.mk [.pointer (some ⟨(ns 5).n, 0, none⟩), .pointer (some ⟨(ns 0).n, 0, none⟩), .pointer (some ⟨(ns 4).n, 0, none⟩)]), .int .u32 0, .int .i64 0, .int .u64 0, .bool false, .slice none 0 0]) 100)) true, Blk.mk (ns 0).n (Cont.obj (Obj.cells (Array.mk [Value.func (Fn.func 76) (Array.mk []) (Array.mk [.pointer (some ⟨sb, 0, none⟩), .pointer (some ⟨ib, 0, none⟩), .pointer (some ⟨vb, 0, none⟩)])]) 152)) true, Blk.mk st (Cont.obj (Obj.cells (Array.mk [.slice (some ⟨rr, 0, none⟩) 9 9, .slice (some ⟨lr, 0, none⟩) 9 9]) 132)) false])
theorem sc8x9_run (st rr lr sb ib vb : Nat) : Sy.Ran (Sy.inB Tryd.prog Sy.S0 50 74 #[ptr st, cTh8 sb ib vb] [⟨st, (snB st rr lr 9).2, false⟩]) sc8x9_o (sc8x9_R st rr lr sb ib vb) := ⟨fun _ => by kernel_rfl, fun _ => by kernel_rfl⟩
def sc8x10_o : Sy.O := (steps [1, 0, 1, 0, 2, 3, 4, 5, 6, 0, 0, 0, 7, 0, 16, 1, 0, 0, 0, 0, 1, 0, 4, 0, 0, 0, 1, 0] nil)
noncomputable def sc8x10_R (st rr lr sb ib vb : Nat) (ns : Nat → Sy.Let) : Sy.Res (Value × List Blk) :=
 let z0 := some (Addr.mk (ns 1).n 0 none)
 leaf (Value.pointer z0, [Blk.mk (ns 5).n (Cont.obj (Obj.cells (Array.mk [.pointer (some ⟨(ns 3).n, 0, none⟩)]) 177)) true, Blk.mk (ns 4).n (Cont.obj (Obj.cells (Array.mk [.pointer z0]) 48)) true, Blk.mk (ns 3).n (Cont.obj (Obj.cells (Array.mk [.pointer (some ⟨st, 0, none⟩), .slice none 0 0, .slice none 0 0, .slice (some ⟨(ns 2).n, 0, none⟩) 10 10]) 180)) true, Blk.mk (ns 2).n (Cont.obj (Obj.cells (Array.mk [.bool false, .bool false, .bool false, .bool false, .bool false, .bool false, .bool false, .bool false, .bool false, .bool false]) 4)) true, Blk.mk (ns 1).n (Cont.obj (Obj.cells (Array.mk [Value.func (Fn.func 95) (Array.mk []) (Array.mk [.pointer (some ⟨(ns 5).n, 0, none⟩), .pointer (some ⟨(ns 0).n, 0, none⟩), .pointer (some ⟨(ns 4).n, 0, none⟩)]), .int .u32 0, .int .i64 0, .int .u64 0, .bool false, .slice none 0 0]) 100)) true, Blk.mk (ns 0).n (Cont.obj (Obj.cells (Array.mk [Value.func (Fn.func 76) (Array.mk []) (Array.mk [.pointer (some ⟨sb, 0, none⟩), .pointer (some ⟨ib, 0, none⟩), .pointer (some ⟨vb, 0, none⟩)])]) 152)) true, Blk.mk st (Cont.obj (Obj.cells (Array.mk [.slice (some ⟨rr, 0, none⟩) 10 10, .slice (some ⟨lr, 0, none⟩) 10 10]) 132)) false])
theorem sc8x10_run (st rr lr sb ib vb : Nat) : Sy.Ran (Sy.inB Tryd.prog Sy.S0 50 74 #[ptr st, cTh8 sb ib vb] [⟨st, (snB st rr lr 10).2, false⟩]) sc8x10_o (sc8x10_R st rr lr sb ib vb) := ⟨fun _ => by kernel_rfl, fun _ => by kernel_rfl⟩
def sc8x11_o : Sy.O := (steps [1, 0, 1, 0, 2, 3, 4, 5, 6, 0, 0, 0, 7, 0, 16, 1, 0, 0, 0, 0, 1, 0, 4, 0, 0, 0, 1, 0] nil)
noncomputable def sc8x11_R (st rr lr sb ib vb : Nat) (ns : Nat → Sy.Let) : Sy.Res (Value × List Blk) :=
 let z0 := some (Addr.mk (ns 1).n 0 none)
 leaf (Value.pointer z0, [Blk.mk (ns 5).n (Cont.obj (Obj.cells (Array.mk [.pointer (some ⟨(ns 3).n, 0, none⟩)]) 177)) true, Blk.mk (ns 4).n (Cont.obj (Obj.cells (Array.mk [.pointer z0]) 48)) true, Blk.mk (ns 3).n (Cont.obj (Obj.cells (Array.mk [.pointer (some ⟨st, 0, none⟩), .slice none 0 0, .slice none 0 0, .slice (some ⟨(ns 2).n, 0, none⟩) 11 11]) 180)) true, Blk.mk (ns 2).n (Cont.obj (Obj.cells (Array.mk [.bool false, .bool false, .bool false, .bool false, .bool false, .bool false, .bool false, .bool false, .bool false, .bool false, .bool false]) 4)) true, Blk.mk (ns 1).n (Cont.obj (Obj.cells (Array.mk [Value.func (Fn.func 95) (Array.mk []) (Array.mk [.pointer (some ⟨(ns 5).n, 0, none⟩), .pointer (some ⟨(ns 0).n, 0, none⟩), .pointer (some ⟨(ns 4).n, 0, none⟩)]), .int .u32 0, .int .i64 0, .int .u64 0, .bool false, .slice none 0 0]) 100)) true, Blk.mk (ns 0).n (Cont.obj (Obj.cells (Array.mk [Value.func (Fn.func 76) (Array.mk []) (Array.mk [.pointer (some ⟨sb, 0, none⟩), .pointer (some ⟨ib, 0, none⟩), .pointer (some ⟨vb, 0, none⟩)])]) 152)) true, Blk.mk st (Cont.obj (Obj.cells (Array.mk [.slice (some ⟨rr, 0, none⟩) 11 11, .slice (some ⟨lr, 0, none⟩) 11 11]) 132)) false])
theorem sc8x11_run (st rr lr sb ib vb : Nat) : Sy.Ran (Sy.inB Tryd.prog Sy.S0 50 74 #[ptr st, cTh8 sb ib vb] [⟨st, (snB st rr lr 11).2, false⟩]) sc8x11_o (sc8x11_R st rr lr sb ib vb) := ⟨fun _ => by kernel_rfl, fun _ => by kernel_rfl⟩
def sc8x12_o : Sy.O := (steps [1, 0, 1, 0, 2, 3, 4, 5, 6, 0, 0, 0, 7, 0, 16, 1, 0, 0, 0, 0, 1, 0, 4, 0, 0, 0, 1, 0] nil)
noncomputable def sc8x12_R (st rr lr sb ib vb : Nat) (ns : Nat → Sy.Let) : Sy.Res (Value × List Blk) :=
 let z0 := some (Addr.mk (ns 1).n 0 none)
 leaf (Value.pointer z0, [Blk.mk (ns 5).n (Cont.obj (Obj.cells (Array.mk [.pointer (some ⟨(ns 3).n, 0, none⟩)]) 177)) true, Blk.mk (ns 4).n (Cont.obj (Obj.cells (Array.mk [.pointer z0]) 48)) true, Blk.mk (ns 3).n (Cont.obj (Obj.cells (Array.mk [.pointer (some ⟨st, 0, none⟩), .slice none 0 0, .slice none 0 0, .slice (some ⟨(ns 2).n, 0, none⟩) 12 12]) 180)) true, Blk.mk (ns 2).n (Cont.obj (Obj.cells (Array.mk [.bool false, .bool false, .bool false, .bool false, .bool false, .bool false, .bool false, .bool false, .bool false, .bool false, .bool false, .bool false]) 4)) true, Blk.mk (ns 1).n (Cont.obj (Obj.cells (Array.mk [Value.func (Fn.func 95) (Array.mk []) (Array.mk [.pointer (some ⟨(ns 5).n, 0, none⟩), .pointer (some ⟨(ns 0).n, 0, none⟩), .pointer (some ⟨(ns 4).n, 0, none⟩)]), .int .u32 0, .int .i64 0, .int .u64 0, .bool false, .slice none 0 0]) 100)) true, Blk.mk (ns 0).n (Cont.obj (Obj.cells (Array.mk [Value.func (Fn.func 76) (Array.mk []) (Array.mk [.pointer (some ⟨sb, 0, none⟩), .pointer (some ⟨ib, 0, none⟩), .pointer (some ⟨vb, 0, none⟩)])]) 152)) true, Blk.mk st (Cont.obj (Obj.cells (Array.mk [.slice (some ⟨rr, 0, none⟩) 12 12, .slice (some ⟨lr, 0, none⟩) 12 12]) 132)) false])
theorem sc8x12_run (st rr lr sb ib vb : Nat) : Sy.Ran (Sy.inB Tryd.prog Sy.S0 50 74 #[ptr st, cTh8 sb ib vb] [⟨st, (snB st rr lr 12).2, false⟩]) sc8x12_o (sc8x12_R st rr lr sb ib vb) := ⟨fun _ => by kernel_rfl, fun _ => by kernel_rfl⟩
def sc8x13_o : Sy.O := (steps [1, 0, 1, 0, 2, 3, 4, 5, 6, 0, 0, 0, 7, 0, 16, 1, 0, 0, 0, 0, 1, 0, 4, 0, 0, 0, 1, 0] nil)
noncomputable def sc8x13_R (st rr lr sb ib vb : Nat) (ns : Nat → Sy.Let) : Sy.Res (Value × List Blk) :=
 let z0 := some (Addr.mk (ns 1).n 0 none)
 leaf (Value.pointer z0, [Blk.mk (ns 5).n (Cont.obj (Obj.cells (Array.mk [.pointer (some ⟨(ns 3).n, 0, none⟩)]) 177)) true, Blk.mk (ns 4).n (Cont.obj (Obj.cells (Array.mk [.pointer z0]) 48)) true, Blk.mk (ns 3).n (Cont.obj (Obj.cells (Array.mk [.pointer (some ⟨st, 0, none⟩), .slice none 0 0, .slice none 0 0, .slice (some ⟨(ns 2).n, 0, none⟩) 13 13]) 180)) true, Blk.mk (ns 2).n (Cont.obj (Obj.cells (Array.mk [.bool false, .bool false, .bool false, .bool false, .bool false, .bool false, .bool false, .bool false, .bool false, .bool false, .bool false, .bool false, .bool false]) 4)) true, Blk.mk (ns 1).n (Cont.obj (Obj.cells (Array.mk [Value.func (Fn.func 95) (Array.mk []) (Array.mk [.pointer (some ⟨(ns 5).n, 0, none⟩), .pointer (some ⟨(ns 0).n, 0, none⟩), .pointer (some ⟨(ns 4).n, 0, none⟩)]), .int .u32 0, .int .i64 0, .int .u64 0, .bool false, .slice none 0 0]) 100)) true, Blk.mk (ns 0).n (Cont.obj (Obj.cells (Array.mk [Value.func (Fn.func 76) (Array.mk []) (Array.mk [.pointer (some ⟨sb, 0, none⟩), .pointer (some ⟨ib, 0, none⟩), .pointer (some ⟨vb, 0, none⟩)])]) 152)) true, Blk.mk st (Cont.obj (Obj.cells (Array.mk [.slice (some ⟨rr, 0, none⟩) 13 13, .slice (some ⟨lr, 0, none⟩) 13 13]) 132)) false])
theorem sc8x13_run (st rr lr sb ib vb : Nat) : Sy.Ran (Sy.inB Tryd.prog Sy.S0 50 74 #[ptr st, cTh8 sb ib vb] [⟨st, (snB st rr lr 13).2, false⟩]) sc8x13_o (sc8x13_R st rr lr sb ib vb) := ⟨fun _ => by kernel_rfl, fun _ => by kernel_rfl⟩
def sc8x14_o : Sy.O := (steps [1, 0, 1, 0, 2, 3, 4, 5, 6, 0, 0, 0, 7, 0, 16, 1, 0, 0, 0, 0, 1, 0, 4, 0, 0, 0, 1, 0] nil)
noncomputable def sc8x14_R (st rr lr sb ib vb : Nat) (ns : Nat → Sy.Let) : Sy.Res (Value × List Blk) :=
 let z0 := some (Addr.mk (ns 1).n 0 none)
 leaf (Value.pointer z0, [Blk.mk (ns 5).n (Cont.obj (Obj.cells (Array.mk [.pointer (some ⟨(ns 3).n, 0, none⟩)]) 177)) true, Blk.mk (ns 4).n (Cont.obj (Obj.cells (Array.mk [.pointer z0]) 48)) true, Blk.mk (ns 3).n (Cont.obj (Obj.cells (Array.mk [.pointer (some ⟨st, 0, none⟩), .slice none 0 0, .slice none 0 0, .slice (some ⟨(ns 2).n, 0, none⟩) 14 14]) 180)) true, Blk.mk (ns 2).n (Cont.obj (Obj.cells (Array.mk [.bool false, .bool false, .bool false, .bool false, .bool false, .bool false, .bool false, .bool false, .bool false, .bool false, .bool false, .bool false, .bool false, .bool false]) 4)) true, Blk.mk (ns 1).n (Cont.obj (Obj.cells (Array.mk [Value.func (Fn.func 95) (Array.mk []) (Array.mk [.pointer (some ⟨(ns 5).n, 0, none⟩), .pointer (some ⟨(ns 0).n, 0, none⟩), .pointer (some ⟨(ns 4).n, 0, none⟩)]), .int .u32 0, .int .i64 0, .int .u64 0, .bool false, .slice none 0 0]) 100)) true, Blk.mk (ns 0).n (Cont.obj (Obj.cells (Array.mk [Value.func (Fn.func 76) (Array.mk []) (Array.mk [.pointer (some ⟨sb, 0, none⟩), .pointer (some ⟨ib, 0, none⟩), .pointer (some ⟨vb, 0, none⟩)])]) 152)) true, Blk.mk st (Cont.obj (Obj.cells (Array.mk [.slice (some ⟨rr, 0, none⟩) 14 14, .slice (some ⟨lr, 0, none⟩) 14 14]) 132)) false])
theorem sc8x14_run (st rr lr sb ib vb : Nat) : Sy.Ran (Sy.inB Tryd.prog Sy.S0 50 74 #[ptr st, cTh8 sb ib vb] [⟨st, (snB st rr lr 14).2, false⟩]) sc8x14_o (sc8x14_R st rr lr sb ib vb) := ⟨fun _ => by kernel_rfl, fun _ => by kernel_rfl⟩
def sc8x15_o : Sy.O := (steps [1, 0, 1, 0, 2, 3, 4, 5, 6, 0, 0, 0, 7, 0, 16, 1, 0, 0, 0, 0, 1, 0, 4, 0, 0, 0, 1, 0] nil)
noncomputable def sc8x15_R (st rr lr sb ib vb : Nat) (ns : Nat → Sy.Let) : Sy.Res (Value × List Blk) :=
 let z0 := some (Addr.mk (ns 1).n 0 none)
 leaf (Value.pointer z0, [Blk.mk (ns 5).n (Cont.obj (Obj.cells (Array.mk [.pointer (some ⟨(ns 3).n, 0, none⟩)]) 177)) true, Blk.mk (ns 4).n (Cont.obj (Obj.cells (Array.mk [.pointer z0]) 48)) true, Blk.mk (ns 3).n (Cont.obj (Obj.cells (Array.mk [.pointer (some ⟨st, 0, none⟩), .slice none 0 0, .slice none 0 0, .slice (some ⟨(ns 2).n, 0, none⟩) 15 15]) 180)) true, Blk.mk (ns 2).n (Cont.obj (Obj.cells (Array.mk [.bool false, .bool false, .bool false, .bool false, .bool false, .bool false, .bool false, .bool false, .bool false, .bool false, .bool false, .bool false, .bool false, .bool false, .bool false]) 4)) true, Blk.mk (ns 1).n (Cont.obj (Obj.cells (Array.mk [Value.func (Fn.func 95) (Array.mk []) (Array.mk [.pointer (some ⟨(ns 5).n, 0, none⟩), .pointer (some ⟨(ns 0).n, 0, none⟩), .pointer (some ⟨(ns 4).n, 0, none⟩)]), .int .u32 0, .int .i64 0, .int .u64 0, .bool false, .slice none 0 0]) 100)) true, Blk.mk (ns 0).n (Cont.obj (Obj.cells (Array.mk [Value.func (Fn.func 76) (Array.mk []) (Array.mk [.pointer (some ⟨sb, 0, none⟩), .pointer (some ⟨ib, 0, none⟩), .pointer (some ⟨vb, 0, none⟩)])]) 152)) true, Blk.mk st (Cont.obj (Obj.cells (Array.mk [.slice (some ⟨rr, 0, none⟩) 15 15, .slice (some ⟨lr, 0, none⟩) 15 15]) 132)) false])
theorem sc8x15_run (st rr lr sb ib vb : Nat) : Sy.Ran (Sy.inB Tryd.prog Sy.S0 50 74 #[ptr st, cTh8 sb ib vb] [⟨st, (snB st rr lr 15).2, false⟩]) sc8x15_o (sc8x15_R st rr lr sb ib vb) := ⟨fun _ => by kernel_rfl, fun _ => by kernel_rfl⟩
def sc8x16_o : Sy.O := (steps [1, 0, 1, 0, 2, 3, 4, 5, 6, 0, 0, 0, 7, 0, 16, 1, 0, 0, 0, 0, 1, 0, 4, 0, 0, 0, 1, 0] nil)
noncomputable def sc8x16_R (st rr lr sb ib vb : Nat) (ns : Nat → Sy.Let) : Sy.Res (Value × List Blk) :=
 let z0 := some (Addr.mk (ns 1).n 0 none)
 leaf (Value.pointer z0, [Blk.mk (ns 5).n (Cont.obj (Obj.cells (Array.mk [.pointer (some ⟨(ns 3).n, 0, none⟩)]) 177)) true, Blk.mk (ns 4).n (Cont.obj (Obj.cells (Array.mk [.pointer z0]) 48)) true, Blk.mk (ns 3).n (Cont.obj (Obj.cells (Array.mk [.pointer (some ⟨st, 0, none⟩), .slice none 0 0, .slice none 0 0, .slice (some ⟨(ns 2).n, 0, none⟩) 16 16]) 180)) true, Blk.mk (ns 2).n (Cont.obj (Obj.cells (Array.mk [.bool false, .bool false, .bool false, .bool false, .bool false, .bool false, .bool false, .bool false, .bool false, .bool false, .bool false, .bool false, .bool false, .bool false, .bool false, .bool false]) 4)) true, Blk.mk (ns 1).n (Cont.obj (Obj.cells (Array.mk [Value.func (Fn.func 95) (Array.mk []) (Array.mk [.pointer (some ⟨(ns 5).n, 0, none⟩), .pointer (some ⟨(ns 0).n, 0, none⟩), .pointer (some ⟨(ns 4).n, 0, none⟩)]), .int .u32 0, .int .i64 0, .int .u64 0, .bool false, .slice none 0 0]) 100)) true, Blk.mk (ns 0).n (Cont.obj (Obj.cells (Array.mk [Value.func (Fn.func 76) (Array.mk []) (Array.mk [.pointer (some ⟨sb, 0, none⟩), .pointer (some ⟨ib, 0, none⟩), .pointer (some ⟨vb, 0, none⟩)])]) 152)) true, Blk.mk st (Cont.obj (Obj.cells (Array.mk [.slice (some ⟨rr, 0, none⟩) 16 16, .slice (some ⟨lr, 0, none⟩) 16 16]) 132)) false])
theorem sc8x16_run (st rr lr sb ib vb : Nat) : Sy.Ran (Sy.inB Tryd.prog Sy.S0 50 74 #[ptr st, cTh8 sb ib vb] [⟨st, (snB st rr lr 16).2, false⟩]) sc8x16_o (sc8x16_R st rr lr sb ib vb) := ⟨fun _ => by kernel_rfl, fun _ => by kernel_rfl⟩
open Go.Proofs.YtjohknpmhlildaaDoor.Sy (Let Blk Cont Bun ptr ptr0 bx tkB tkU clo DoesB usedK ownOf rdsOf Rep does_frame does_perm does_mono does_all does_of S0_holds bunO)
open Go.Proofs.YtjohknpmhlildaaDoor.As
def alike (a b : Blk) : Prop := a.nm = b.nm ∧ a.own = b.own ∧ ∀ h, a.ct.sat h → b.ct.sat h
inductive PW : List Blk → List Blk → Prop
 | nil : PW [] []
 | cons {a b : Blk} {A B : List Blk} : alike a b → PW A B → PW (a :: A) (b :: B)
theorem ent_pw : ∀ {A B : List Blk}, PW A B → Sy.Ent A B := by
 intro A B h w0 keep W hr
 have key : ∀ {A B : List Blk}, PW A B → ∀ b ∈ B, ∃ a ∈ A, a.nm = b.nm ∧ a.own = b.own ∧ ∀ h, a.ct.sat h → b.ct.sat h := by
  intro A B h
  induction h with
  | nil => exact fun b hb => nomatch hb
  | cons h1 _ ih =>
    intro b hb
    rcases List.mem_cons.1 hb with rfl | hb
    ·exact ⟨_, Sy.mH, h1⟩
    ·obtain ⟨a, ha, h2⟩ := ih b hb
     exact ⟨a, Sy.mC _ ha, h2⟩
 have far : ∀ {A B : List Blk}, PW A B → A.Pairwise Sy.Far → B.Pairwise Sy.Far := by
  intro A B h
  induction h with
  | nil => exact fun _ => List.Pairwise.nil
  | cons h1 h2 ih =>
    intro hp
    rw [List.pairwise_cons] at hp ⊢
    refine ⟨fun b hb => ?_, ih hp.2⟩
    obtain ⟨a, ha, e1, e2, -⟩ := key h2 b hb
    have := hp.1 a ha
    intro hoo
    rw [← h1.1, ← e1]
    exact this (by rw [h1.2.1, e2]; exact hoo)
 refine ⟨hr.os, hr.tape, hr.output, hr.size, hr.old, fun b hb => ?_, far h hr.far⟩
 obtain ⟨a, ha, e1, e2, e3⟩ := key h b hb
 obtain ⟨h1, h2⟩ := hr.blk a ha
 rw [← e1]
 exact ⟨e3 _ h1, fun ho => h2 (by rw [e2]; exact ho)⟩
theorem cells_row {l : List Value} {t r : Nat} (hl : l.length = r) (hr : r ≤ maxLen) {h : Option Obj} (hs : (Cont.obj (.cells l.toArray t (0, 0))).sat h) : (Cont.row t 1 r r l).sat h :=
 ⟨l.toArray, hs, by omega, Nat.le_refl _, hr, by simp [hl], by simp [← hl]⟩
def scQ (st : Nat) (th : Value) (room : Nat) (rv : Value) (o : Bun) : Prop :=
 ∃ tk gb hb tb g mr, rv = ptr tk ∧ o = [tkU tk (cScan gb hb tb) 0, bx gb tGP (ptr g), bx hb tTh th, bx tb tTP (ptr tk), sgB g st (.slice none 0 0) (.slice none 0 0) (sl mr room room), blB mr room (bools (List.replicate room false))]
theorem sc_leaf {st : Nat} {th : Value} {room : Nat} (hr : room ≤ 16) {tk gb hb tb g mr : Nat} {L : List Blk} {pk : List Nat} (hpk : pk.Nodup)
  (h : Sy.pickL L pk = [tkU tk (cScan gb hb tb) 0, bx gb tGP (ptr g), bx hb tTh th, bx tb tTP (ptr tk), sgB g st (.slice none 0 0) (.slice none 0 0) (sl mr room room), (mr, .obj (.cells (bools (List.replicate room false)).toArray tB (0, 0)))].map ownOf) :
  ∃ out, Sy.Ent L (out.map ownOf) ∧ scQ st th room (ptr tk) out := by
 refine ⟨[tkU tk (cScan gb hb tb) 0, bx gb tGP (ptr g), bx hb tTh th, bx tb tTP (ptr tk), sgB g st (.slice none 0 0) (.slice none 0 0) (sl mr room room), blB mr room (bools (List.replicate room false))], Sy.Ent.trans (ent_pick pk hpk h) (ent_pw ?_), tk, gb, hb, tb, g, mr, rfl, rfl⟩
 refine .cons ⟨rfl, rfl, fun _ h => h⟩ (.cons ⟨rfl, rfl, fun _ h => h⟩ (.cons ⟨rfl, rfl, fun _ h => h⟩ (.cons ⟨rfl, rfl, fun _ h => h⟩ (.cons ⟨rfl, rfl, fun _ h => h⟩ (.cons ⟨rfl, rfl, fun _ hs => cells_row (by simp [bools]) (Nat.le_trans hr (by decide)) hs⟩ .nil)))))
abbrev fScan : FuncId := 74
theorem sc7_does (st rr lr room : Nat) (h1 : 1 ≤ room) (h2 : room ≤ 16) : DoesB Tryd.prog fScan #[ptr st, cTh7] [snB st rr lr room] [] (scQ st cTh7 room) := by
 have h : room = 1 ∨ room = 2 ∨ room = 3 ∨ room = 4 ∨ room = 5 ∨ room = 6 ∨ room = 7 ∨ room = 8 ∨ room = 9 ∨ room = 10 ∨ room = 11 ∨ room = 12 ∨ room = 13 ∨ room = 14 ∨ room = 15 ∨ room = 16 := by omega
 rcases h with rfl | rfl | rfl | rfl | rfl | rfl | rfl | rfl | rfl | rfl | rfl | rfl | rfl | rfl | rfl | rfl
 ·refine does_of S0_holds mixed (Sy.Ent.refl _) (sc7x1_run st rr lr) fun ns => ?_
  simp only [sc7x1_R, Sy.Res.holds]
  exact sc_leaf (by decide) (tk := (ns 1).n) (gb := (ns 5).n) (hb := (ns 0).n) (tb := (ns 4).n) (g := (ns 3).n) (mr := (ns 2).n) (pk := [4, 0, 5, 1, 2, 3]) (by decide) rfl
 ·refine does_of S0_holds mixed (Sy.Ent.refl _) (sc7x2_run st rr lr) fun ns => ?_
  simp only [sc7x2_R, Sy.Res.holds]
  exact sc_leaf (by decide) (tk := (ns 1).n) (gb := (ns 5).n) (hb := (ns 0).n) (tb := (ns 4).n) (g := (ns 3).n) (mr := (ns 2).n) (pk := [4, 0, 5, 1, 2, 3]) (by decide) rfl
 ·refine does_of S0_holds mixed (Sy.Ent.refl _) (sc7x3_run st rr lr) fun ns => ?_
  simp only [sc7x3_R, Sy.Res.holds]
  exact sc_leaf (by decide) (tk := (ns 1).n) (gb := (ns 5).n) (hb := (ns 0).n) (tb := (ns 4).n) (g := (ns 3).n) (mr := (ns 2).n) (pk := [4, 0, 5, 1, 2, 3]) (by decide) rfl
 ·refine does_of S0_holds mixed (Sy.Ent.refl _) (sc7x4_run st rr lr) fun ns => ?_
  simp only [sc7x4_R, Sy.Res.holds]
  exact sc_leaf (by decide) (tk := (ns 1).n) (gb := (ns 5).n) (hb := (ns 0).n) (tb := (ns 4).n) (g := (ns 3).n) (mr := (ns 2).n) (pk := [4, 0, 5, 1, 2, 3]) (by decide) rfl
 ·refine does_of S0_holds mixed (Sy.Ent.refl _) (sc7x5_run st rr lr) fun ns => ?_
  simp only [sc7x5_R, Sy.Res.holds]
  exact sc_leaf (by decide) (tk := (ns 1).n) (gb := (ns 5).n) (hb := (ns 0).n) (tb := (ns 4).n) (g := (ns 3).n) (mr := (ns 2).n) (pk := [4, 0, 5, 1, 2, 3]) (by decide) rfl
 ·refine does_of S0_holds mixed (Sy.Ent.refl _) (sc7x6_run st rr lr) fun ns => ?_
  simp only [sc7x6_R, Sy.Res.holds]
  exact sc_leaf (by decide) (tk := (ns 1).n) (gb := (ns 5).n) (hb := (ns 0).n) (tb := (ns 4).n) (g := (ns 3).n) (mr := (ns 2).n) (pk := [4, 0, 5, 1, 2, 3]) (by decide) rfl
 ·refine does_of S0_holds mixed (Sy.Ent.refl _) (sc7x7_run st rr lr) fun ns => ?_
  simp only [sc7x7_R, Sy.Res.holds]
  exact sc_leaf (by decide) (tk := (ns 1).n) (gb := (ns 5).n) (hb := (ns 0).n) (tb := (ns 4).n) (g := (ns 3).n) (mr := (ns 2).n) (pk := [4, 0, 5, 1, 2, 3]) (by decide) rfl
 ·refine does_of S0_holds mixed (Sy.Ent.refl _) (sc7x8_run st rr lr) fun ns => ?_
  simp only [sc7x8_R, Sy.Res.holds]
  exact sc_leaf (by decide) (tk := (ns 1).n) (gb := (ns 5).n) (hb := (ns 0).n) (tb := (ns 4).n) (g := (ns 3).n) (mr := (ns 2).n) (pk := [4, 0, 5, 1, 2, 3]) (by decide) rfl
 ·refine does_of S0_holds mixed (Sy.Ent.refl _) (sc7x9_run st rr lr) fun ns => ?_
  simp only [sc7x9_R, Sy.Res.holds]
  exact sc_leaf (by decide) (tk := (ns 1).n) (gb := (ns 5).n) (hb := (ns 0).n) (tb := (ns 4).n) (g := (ns 3).n) (mr := (ns 2).n) (pk := [4, 0, 5, 1, 2, 3]) (by decide) rfl
 ·refine does_of S0_holds mixed (Sy.Ent.refl _) (sc7x10_run st rr lr) fun ns => ?_
  simp only [sc7x10_R, Sy.Res.holds]
  exact sc_leaf (by decide) (tk := (ns 1).n) (gb := (ns 5).n) (hb := (ns 0).n) (tb := (ns 4).n) (g := (ns 3).n) (mr := (ns 2).n) (pk := [4, 0, 5, 1, 2, 3]) (by decide) rfl
 ·refine does_of S0_holds mixed (Sy.Ent.refl _) (sc7x11_run st rr lr) fun ns => ?_
  simp only [sc7x11_R, Sy.Res.holds]
  exact sc_leaf (by decide) (tk := (ns 1).n) (gb := (ns 5).n) (hb := (ns 0).n) (tb := (ns 4).n) (g := (ns 3).n) (mr := (ns 2).n) (pk := [4, 0, 5, 1, 2, 3]) (by decide) rfl
 ·refine does_of S0_holds mixed (Sy.Ent.refl _) (sc7x12_run st rr lr) fun ns => ?_
  simp only [sc7x12_R, Sy.Res.holds]
  exact sc_leaf (by decide) (tk := (ns 1).n) (gb := (ns 5).n) (hb := (ns 0).n) (tb := (ns 4).n) (g := (ns 3).n) (mr := (ns 2).n) (pk := [4, 0, 5, 1, 2, 3]) (by decide) rfl
 ·refine does_of S0_holds mixed (Sy.Ent.refl _) (sc7x13_run st rr lr) fun ns => ?_
  simp only [sc7x13_R, Sy.Res.holds]
  exact sc_leaf (by decide) (tk := (ns 1).n) (gb := (ns 5).n) (hb := (ns 0).n) (tb := (ns 4).n) (g := (ns 3).n) (mr := (ns 2).n) (pk := [4, 0, 5, 1, 2, 3]) (by decide) rfl
 ·refine does_of S0_holds mixed (Sy.Ent.refl _) (sc7x14_run st rr lr) fun ns => ?_
  simp only [sc7x14_R, Sy.Res.holds]
  exact sc_leaf (by decide) (tk := (ns 1).n) (gb := (ns 5).n) (hb := (ns 0).n) (tb := (ns 4).n) (g := (ns 3).n) (mr := (ns 2).n) (pk := [4, 0, 5, 1, 2, 3]) (by decide) rfl
 ·refine does_of S0_holds mixed (Sy.Ent.refl _) (sc7x15_run st rr lr) fun ns => ?_
  simp only [sc7x15_R, Sy.Res.holds]
  exact sc_leaf (by decide) (tk := (ns 1).n) (gb := (ns 5).n) (hb := (ns 0).n) (tb := (ns 4).n) (g := (ns 3).n) (mr := (ns 2).n) (pk := [4, 0, 5, 1, 2, 3]) (by decide) rfl
 ·refine does_of S0_holds mixed (Sy.Ent.refl _) (sc7x16_run st rr lr) fun ns => ?_
  simp only [sc7x16_R, Sy.Res.holds]
  exact sc_leaf (by decide) (tk := (ns 1).n) (gb := (ns 5).n) (hb := (ns 0).n) (tb := (ns 4).n) (g := (ns 3).n) (mr := (ns 2).n) (pk := [4, 0, 5, 1, 2, 3]) (by decide) rfl
theorem sc8_does (st rr lr room : Nat) (sb ib vb : Nat) (h1 : 1 ≤ room) (h2 : room ≤ 16) : DoesB Tryd.prog fScan #[ptr st, (cTh8 sb ib vb)] [snB st rr lr room] [] (scQ st (cTh8 sb ib vb) room) := by
 have h : room = 1 ∨ room = 2 ∨ room = 3 ∨ room = 4 ∨ room = 5 ∨ room = 6 ∨ room = 7 ∨ room = 8 ∨ room = 9 ∨ room = 10 ∨ room = 11 ∨ room = 12 ∨ room = 13 ∨ room = 14 ∨ room = 15 ∨ room = 16 := by omega
 rcases h with rfl | rfl | rfl | rfl | rfl | rfl | rfl | rfl | rfl | rfl | rfl | rfl | rfl | rfl | rfl | rfl
 ·refine does_of S0_holds mixed (Sy.Ent.refl _) (sc8x1_run st rr lr sb ib vb) fun ns => ?_
  simp only [sc8x1_R, Sy.Res.holds]
  exact sc_leaf (by decide) (tk := (ns 1).n) (gb := (ns 5).n) (hb := (ns 0).n) (tb := (ns 4).n) (g := (ns 3).n) (mr := (ns 2).n) (pk := [4, 0, 5, 1, 2, 3]) (by decide) rfl
 ·refine does_of S0_holds mixed (Sy.Ent.refl _) (sc8x2_run st rr lr sb ib vb) fun ns => ?_
  simp only [sc8x2_R, Sy.Res.holds]
  exact sc_leaf (by decide) (tk := (ns 1).n) (gb := (ns 5).n) (hb := (ns 0).n) (tb := (ns 4).n) (g := (ns 3).n) (mr := (ns 2).n) (pk := [4, 0, 5, 1, 2, 3]) (by decide) rfl
 ·refine does_of S0_holds mixed (Sy.Ent.refl _) (sc8x3_run st rr lr sb ib vb) fun ns => ?_
  simp only [sc8x3_R, Sy.Res.holds]
  exact sc_leaf (by decide) (tk := (ns 1).n) (gb := (ns 5).n) (hb := (ns 0).n) (tb := (ns 4).n) (g := (ns 3).n) (mr := (ns 2).n) (pk := [4, 0, 5, 1, 2, 3]) (by decide) rfl
 ·refine does_of S0_holds mixed (Sy.Ent.refl _) (sc8x4_run st rr lr sb ib vb) fun ns => ?_
  simp only [sc8x4_R, Sy.Res.holds]
  exact sc_leaf (by decide) (tk := (ns 1).n) (gb := (ns 5).n) (hb := (ns 0).n) (tb := (ns 4).n) (g := (ns 3).n) (mr := (ns 2).n) (pk := [4, 0, 5, 1, 2, 3]) (by decide) rfl
 ·refine does_of S0_holds mixed (Sy.Ent.refl _) (sc8x5_run st rr lr sb ib vb) fun ns => ?_
  simp only [sc8x5_R, Sy.Res.holds]
  exact sc_leaf (by decide) (tk := (ns 1).n) (gb := (ns 5).n) (hb := (ns 0).n) (tb := (ns 4).n) (g := (ns 3).n) (mr := (ns 2).n) (pk := [4, 0, 5, 1, 2, 3]) (by decide) rfl
 ·refine does_of S0_holds mixed (Sy.Ent.refl _) (sc8x6_run st rr lr sb ib vb) fun ns => ?_
  simp only [sc8x6_R, Sy.Res.holds]
  exact sc_leaf (by decide) (tk := (ns 1).n) (gb := (ns 5).n) (hb := (ns 0).n) (tb := (ns 4).n) (g := (ns 3).n) (mr := (ns 2).n) (pk := [4, 0, 5, 1, 2, 3]) (by decide) rfl
 ·refine does_of S0_holds mixed (Sy.Ent.refl _) (sc8x7_run st rr lr sb ib vb) fun ns => ?_
  simp only [sc8x7_R, Sy.Res.holds]
  exact sc_leaf (by decide) (tk := (ns 1).n) (gb := (ns 5).n) (hb := (ns 0).n) (tb := (ns 4).n) (g := (ns 3).n) (mr := (ns 2).n) (pk := [4, 0, 5, 1, 2, 3]) (by decide) rfl
 ·refine does_of S0_holds mixed (Sy.Ent.refl _) (sc8x8_run st rr lr sb ib vb) fun ns => ?_
  simp only [sc8x8_R, Sy.Res.holds]
  exact sc_leaf (by decide) (tk := (ns 1).n) (gb := (ns 5).n) (hb := (ns 0).n) (tb := (ns 4).n) (g := (ns 3).n) (mr := (ns 2).n) (pk := [4, 0, 5, 1, 2, 3]) (by decide) rfl
 ·refine does_of S0_holds mixed (Sy.Ent.refl _) (sc8x9_run st rr lr sb ib vb) fun ns => ?_
  simp only [sc8x9_R, Sy.Res.holds]
  exact sc_leaf (by decide) (tk := (ns 1).n) (gb := (ns 5).n) (hb := (ns 0).n) (tb := (ns 4).n) (g := (ns 3).n) (mr := (ns 2).n) (pk := [4, 0, 5, 1, 2, 3]) (by decide) rfl
 ·refine does_of S0_holds mixed (Sy.Ent.refl _) (sc8x10_run st rr lr sb ib vb) fun ns => ?_
  simp only [sc8x10_R, Sy.Res.holds]
  exact sc_leaf (by decide) (tk := (ns 1).n) (gb := (ns 5).n) (hb := (ns 0).n) (tb := (ns 4).n) (g := (ns 3).n) (mr := (ns 2).n) (pk := [4, 0, 5, 1, 2, 3]) (by decide) rfl
 ·refine does_of S0_holds mixed (Sy.Ent.refl _) (sc8x11_run st rr lr sb ib vb) fun ns => ?_
  simp only [sc8x11_R, Sy.Res.holds]
  exact sc_leaf (by decide) (tk := (ns 1).n) (gb := (ns 5).n) (hb := (ns 0).n) (tb := (ns 4).n) (g := (ns 3).n) (mr := (ns 2).n) (pk := [4, 0, 5, 1, 2, 3]) (by decide) rfl
 ·refine does_of S0_holds mixed (Sy.Ent.refl _) (sc8x12_run st rr lr sb ib vb) fun ns => ?_
  simp only [sc8x12_R, Sy.Res.holds]
  exact sc_leaf (by decide) (tk := (ns 1).n) (gb := (ns 5).n) (hb := (ns 0).n) (tb := (ns 4).n) (g := (ns 3).n) (mr := (ns 2).n) (pk := [4, 0, 5, 1, 2, 3]) (by decide) rfl
 ·refine does_of S0_holds mixed (Sy.Ent.refl _) (sc8x13_run st rr lr sb ib vb) fun ns => ?_
  simp only [sc8x13_R, Sy.Res.holds]
  exact sc_leaf (by decide) (tk := (ns 1).n) (gb := (ns 5).n) (hb := (ns 0).n) (tb := (ns 4).n) (g := (ns 3).n) (mr := (ns 2).n) (pk := [4, 0, 5, 1, 2, 3]) (by decide) rfl
 ·refine does_of S0_holds mixed (Sy.Ent.refl _) (sc8x14_run st rr lr sb ib vb) fun ns => ?_
  simp only [sc8x14_R, Sy.Res.holds]
  exact sc_leaf (by decide) (tk := (ns 1).n) (gb := (ns 5).n) (hb := (ns 0).n) (tb := (ns 4).n) (g := (ns 3).n) (mr := (ns 2).n) (pk := [4, 0, 5, 1, 2, 3]) (by decide) rfl
 ·refine does_of S0_holds mixed (Sy.Ent.refl _) (sc8x15_run st rr lr sb ib vb) fun ns => ?_
  simp only [sc8x15_R, Sy.Res.holds]
  exact sc_leaf (by decide) (tk := (ns 1).n) (gb := (ns 5).n) (hb := (ns 0).n) (tb := (ns 4).n) (g := (ns 3).n) (mr := (ns 2).n) (pk := [4, 0, 5, 1, 2, 3]) (by decide) rfl
 ·refine does_of S0_holds mixed (Sy.Ent.refl _) (sc8x16_run st rr lr sb ib vb) fun ns => ?_
  simp only [sc8x16_R, Sy.Res.holds]
  exact sc_leaf (by decide) (tk := (ns 1).n) (gb := (ns 5).n) (hb := (ns 0).n) (tb := (ns 4).n) (g := (ns 3).n) (mr := (ns 2).n) (pk := [4, 0, 5, 1, 2, 3]) (by decide) rfl
open Go.Proofs.YtjohknpmhlildaaDoor.Sy (Let Blk Cont Bun ptr ptr0 bx tkB tkU clo DoesB usedK ownOf rdsOf Rep does_frame does_perm does_mono does_all does_of S0_holds bunO)
open Go.Proofs.YtjohknpmhlildaaDoor.As
def ScanA (st rr lr room : Nat) (th : Value) : Prop := DoesB Tryd.prog fScan #[ptr st, th] [snB st rr lr room] [] (scQ st th room)
def scanK (st rr lr room : Nat) (th : Value) : Sy.CallC :=
 ⟨fScan, #[ptr st, th], True ∧ ScanA st rr lr room th, ⟨[snB st rr lr room], [], 1, []⟩, [(⟨fun ns => scQ st th room (ptr (Sy.num ns 0)) (bunO ns), fun _ => [], bunO⟩, fun ns => ptr (Sy.num ns 0))]⟩
theorem scanK_met (st rr lr room : Nat) (th : Value) : Sy.Meets Tryd.prog (scanK st rr lr room th) := fun hok W hpre => by
 have pre : Rep W (usedK []) (rdsOf [snB st rr lr room] ++ ([] : Bun).map ownOf) W := by
  refine ⟨rfl, rfl, rfl, Nat.le_refl _, fun _ _ _ => rfl, fun q hq => ?_, ?_⟩
  ·have hq : q ∈ [(⟨st, (snB st rr lr room).2, false⟩ : Blk)] := hq
   rw [List.mem_singleton.1 hq]
   exact ⟨hpre.rd _ (Sy.mS _), fun h => by cases h⟩
  ·exact List.pairwise_singleton _ _
 refine (hok.2 W pre).mono ?_
 rintro en W' ⟨v, out, rfl, h2, hq⟩
 have hq' := hq
 obtain ⟨tk, gb, hb, tb, g, mr, rfl, hout⟩ := hq
 refine ⟨_, Sy.mS _, [⟨tk, 0, false, undef, [], out⟩], rfl, Sy.post_of_ent ?_ rfl hq'⟩
 exact (h2.keep_eq (k' := Sy.keepOf (scanK st rr lr room th).mem) fun n => ⟨fun _ p hp => (by cases hp), fun _ p hp => (by cases hp)⟩)
def ctxSc (st rr lr room : Nat) (th : Value) : Sy.Ctx := Sy.mkS [(fScan, fun _ _ => scanK st rr lr room th)] [] []
theorem ctxSc_holds (st rr lr room : Nat) (th : Value) : (ctxSc st rr lr room th).holds Tryd.prog := Sy.mkS_holds (fun p hp a L => by
 rcases List.mem_singleton.1 hp with rfl
 exact scanK_met _ _ _ _ _) (fun _ h => (by cases h)) (fun _ h => (by cases h))
end Go.Proofs.YtjohknpmhlildaaDoor.At
--@way 3
--@tail 0
namespace Go.Proofs.YtjohknpmhlildaaDoor.At
open Sy.O (fork nil step steps)
open Sy.Res (need hyp br leaf both)
open Go Go.RowKit
open Go.Proofs.YtjohknpmhlildaaDoor.Sy (Let Blk Cont Bun ptr ptr0 bx tkB tkU clo)
def bg7_o : Sy.O := (steps [0, 0, 0, 0, 0, 0, 0, 0, 0, 0, 0, 1, 1, 0, 1, 1] nil)
noncomputable def bg7_R (st rr lr room : Nat) (v n : Int) (TL : List Blk) (ns : Nat → Sy.Let) : Sy.Res (Value × List Blk) :=
 let z0 := Fn.func 75
 let z1 := Array.mk []
 let z2 := some (Addr.mk (ns 1).n 0 none)
 let z3 := some (Addr.mk st 0 none)
 need (True ∧ ScanA st rr lr room (Value.func z0 z1 z1)) (hyp (∃ (tk : Nat), ∃ (gb : Nat), ∃ (hb : Nat), ∃ (tb : Nat), ∃ (g : Nat), ∃ (mr : Nat), Value.pointer z2 = Value.pointer (some ⟨tk, 0, none⟩) ∧ Let.q (ns 1) = [(tk, Cont.obj (Obj.cells (Array.mk [Value.func (Fn.func 95) z1 (Array.mk [.pointer (some ⟨gb, 0, none⟩), .pointer (some ⟨hb, 0, none⟩), .pointer (some ⟨tb, 0, none⟩)]), .int .u32 0, .int .i64 0, .int .u64 0, .bool false, .slice none 0 0]) 100)), (gb, Cont.obj (Obj.cells (Array.mk [.pointer (some ⟨g, 0, none⟩)]) 177)), (hb, Cont.obj (Obj.cells (Array.mk [Value.func z0 z1 z1]) 152)), (tb, Cont.obj (Obj.cells (Array.mk [.pointer (some ⟨tk, 0, none⟩)]) 48)), (g, Cont.obj (Obj.cells (Array.mk [.pointer z3, .slice none 0 0, .slice none 0 0, .slice (some ⟨mr, 0, none⟩) room room]) 180)), (mr, Cont.row 4 1 room room (bools (List.replicate room false)))]) (leaf (Value.tuple (Array.mk [.pointer z2, .int .i64 0]), Blk.mk st (Cont.obj (Obj.cells (Array.mk [.slice (some ⟨rr, 0, none⟩) room room, .slice (some ⟨lr, 0, none⟩) room room]) 132)) false :: Blk.mk (ns 0).n (Cont.obj (Obj.cells (Array.mk [.pointer none, .pointer none, .pointer none, .pointer z3, .pointer none]) 31)) true :: TL.append (List.map (fun (p : Nat × Cont) => Blk.mk (Prod.fst p) (Prod.snd p) true) (Let.q (ns 1))))))
theorem bg7_run (st rr lr room : Nat) (v n : Int) (TL : List Blk) : Sy.Ran (Sy.inB Tryd.prog (ctxSc st rr lr room cTh7) 50 fBegun #[thT ptr0 ptr0 ptr0 (ptr st) ptr0, .int .i64 7, .int .u64 v, .int .i64 n] (⟨st, (snB st rr lr room).2, false⟩ :: TL)) bg7_o (bg7_R st rr lr room v n TL) := ⟨fun _ => by kernel_rfl, fun _ => by kernel_rfl⟩
end Go.Proofs.YtjohknpmhlildaaDoor.At
namespace Go.Proofs.YtjohknpmhlildaaDoor.At
open Go Go.RowKit
open Go.Proofs.YtjohknpmhlildaaDoor.Sy (Let Blk Cont Bun ptr ptr0 bx tkB tkU clo DoesB usedK ownOf rdsOf Rep does_frame does_perm does_mono does_all does_of S0_holds bunO)
open Go.Proofs.YtjohknpmhlildaaDoor.As
def bg7Q (st room : Nat) (r : Value) (o : Bun) : Prop := ∃ tk, r = .tuple #[ptr tk, .int .i64 0] ∧ scQ st cTh7 room (ptr tk) o
theorem bg7_does (st rr lr room : Nat) (h1 : 1 ≤ room) (h2 : room ≤ 16) (v n : Int) : DoesB Tryd.prog fBegun #[thT ptr0 ptr0 ptr0 (ptr st) ptr0, .int .i64 7, .int .u64 v, .int .i64 n] [snB st rr lr room] [] (bg7Q st room) := by
 refine does_of (ctxSc_holds st rr lr room cTh7) mixed (Sy.Ent.refl _) (bg7_run st rr lr room v n []) fun ns => ?_
 simp only [bg7_R, Sy.Res.holds]
 refine ⟨⟨trivial, sc7_does st rr lr room h1 h2⟩, fun hq => ?_⟩
 exact ⟨(ns 1).q, Sy.Ent.sub (.cons _ (.cons _ (List.Sublist.refl _))), (ns 1).n, rfl, hq⟩
theorem scan_new {w : WorldD} {Z : SnD} (hr : 1 ≤ w.room ∧ w.room ≤ 16) {kind : Nat} (hk : kind = 7 ∨ kind = 8) (v slot : Int) (k : Option K8) (hkd : kd k (taskW w kind v slot) w.room) (tk gb hb tb g mr : Nat) (vw : Value) :
  TN Z w.room w.cells ⟨taskW w kind v slot, tk, cScan gb hb tb, vw, scanAll Z.st gb hb tb tk g mr w.room k none 0 [] none w.room [] (List.replicate w.room false)⟩ := by
 have hm : (taskW w kind v slot).moved = List.replicate w.room false := by show (if kind = 7 ∨ kind = 8 then _ else _) = _; rw [if_pos hk]
 have := TN.scan (Z := Z) (room := w.room) (cl := w.cells) (taskW w kind v slot) tk vw k none none gb hb tb g mr hkd rfl rfl
  ⟨fun _ => rfl, ⟨fun _ => rfl, fun _ => rfl⟩, by show 0 < w.room; omega, by rw [hm]; simp, fun h => absurd rfl h, fun i => by show ([] : List Nat).getD i 0 ≤ _; simp, fun i => by show ([] : List Nat).getD i 0 ≤ _; simp, fun i hi => absurd hi (Nat.not_lt_zero _), fun i hi => absurd (by show ([] : List Nat).getD i 0 = 0; simp) hi, fun i hi => absurd (by show ([] : List Nat).getD i 0 = 0; simp) hi⟩
 rw [hm] at this
 exact this
theorem last_app {w : WorldD} {tks : List Nat} (hbz : ∀ n ∈ w.busy, n < (tks.length : Int)) (lr room tk : Nat) : lsB lr room (tks ++ [tk]) w.busy = lsB lr room tks w.busy := by
 unfold lsB
 congr 2
 apply List.map_congr_left
 intro n hn
 split
 ·rfl
 ·have := hbz n hn
  rw [getD_app (by omega)]
theorem begin_snap7 {w : WorldD} {st : Nat} {tks : List Nat} {b : Bun} (hH : HeapN w st tks b) (v n : Int) : DoesB Tryd.prog fBegun #[thT ptr0 ptr0 ptr0 (ptr st) ptr0, .int .i64 7, .int .u64 v, .int .i64 n] [] b (beginQ (fun w t o => HeapN w st t o) w 7 v n tks) := by
 obtain ⟨xs, Z, hx⟩ := hH
 have hzst := hx.zst
 subst hzst
 have hb : b.Perm ([] ++ (allH xs ++ (thN Z.st Z.rr Z.lr w.room (ptrs (nms Z w.cells)) ++ (stS Z w.room ++ (vwS w.room Z.rows ++ [lsB Z.lr w.room tks w.busy]))))) := hx.perm.trans (by
  letI : DecidableEq (Nat × Cont) := Classical.typeDecidableEq _
  refine List.perm_iff_count.2 fun p => ?_
  simp only [List.count_append, List.count_nil]
  omega)
 refine begin_glue hb (bg7_does Z.st Z.rr Z.lr w.room hx.room.1 hx.room.2 v n) (fun p hp => by rw [List.mem_singleton.1 hp]; exact Sy.mL _ Sy.mH) fun r o hq => ?_
 obtain ⟨tk, rfl, tk', gb, hb', tb, g, mr, he, rfl⟩ := hq
 have he := ptr_inj he
 subst he
 obtain ⟨y, hy⟩ : ∃ y : TaskH, y = ⟨taskW w 7 v n, tk, cScan gb hb' tb, nil0, scanAll Z.st gb hb' tb tk g mr w.room none none 0 [] none w.room [] (List.replicate w.room false)⟩ := ⟨_, rfl⟩
 have hall : y.all = [tkU tk (cScan gb hb' tb) 0, bx gb tGP (ptr g), bx hb' tTh cTh7, bx tb tTP (ptr tk), sgB g Z.st (.slice none 0 0) (.slice none 0 0) (sl mr w.room w.room), blB mr w.room (bools (List.replicate w.room false))] := by
  subst hy
  rw [all_new (by show (1 : Nat) ≠ 0; decide) rfl]
  rfl
 refine ⟨[y], [], by rw [← hall]; simp [allH], tk, rfl, xs ++ [y], Z, hx.thing, rfl, map_app1 hx.d (by subst hy; rfl), map_app1 hx.tk (by subst hy; rfl), all_app hx.ok (by subst hy; exact scan_new hx.room (.inl rfl) v n none rfl tk gb hb' tb g mr nil0), hx.room, hx.ini, hx.clen, hx.cb, hx.states, hx.rv, hx.blen, fun m hm => ?_, ?_⟩
 ·have := hx.bz m hm
  rw [List.length_append]
  show m < ((tks.length + 1 : Nat) : Int)
  omega
 ·show List.Perm _ (thN Z.st Z.rr Z.lr w.room (ptrs (nms Z w.cells)) ++ (allH (xs ++ [y]) ++ ([] ++ (stS Z w.room ++ (vwS w.room Z.rows ++ [lsB Z.lr w.room (tks ++ [tk]) w.busy])))))
  rw [last_app hx.bz]
  letI : DecidableEq (Nat × Cont) := Classical.typeDecidableEq _
  refine List.perm_iff_count.2 fun p => ?_
  simp only [List.count_append, List.count_nil]
  omega
open Sy.O (fork nil step steps)
open Sy.Res (need hyp br leaf both)
open Go Go.RowKit
open Go.Proofs.YtjohknpmhlildaaDoor.Sy (Let Blk Cont Bun ptr ptr0 bx tkB tkU clo)
def md4x1_o : Sy.O := (steps [0, 0, 0, 0, 0, 0, 0, 0, 0, 1, 0, 2, 8, 0, 0, 0, 0, 0, 0, 0, 0, 0, 0, 0, 0, 3, 0, 0, 0, 4, 0, 0, 0, 4, 0, 0, 5, 0, 0, 5, 0] nil)
noncomputable def md4x1_R  (ns : Nat → Sy.Let) : Sy.Res (Value × List Blk) :=
 let z0 := Array.mk [Value.pointer none, Value.pointer none, Value.pointer none, Value.pointer (some ⟨(ns 4).n, 0, none⟩), Value.pointer none]
 let z1 := Cont.obj (Obj.cells z0 31)
 leaf (Value.tuple (Array.mk [Value.agg z0, .int .i64 0]), [Blk.mk (ns 5).n (Cont.obj (Obj.cells (Array.mk [.int .u64 0, .slice none 0 0]) 139)) true, Blk.mk (ns 4).n (Cont.obj (Obj.cells (Array.mk [.slice (some ⟨(ns 2).n, 0, none⟩) 1 1, .slice (some ⟨(ns 3).n, 0, none⟩) 1 1]) 132)) true, Blk.mk (ns 3).n (Cont.obj (Obj.cells (Array.mk [.pointer none]) 48)) true, Blk.mk (ns 2).n (Cont.obj (Obj.cells (Array.mk [.pointer (some ⟨(ns 5).n, 0, none⟩)]) 136)) true, Blk.mk (ns 1).n z1 true, Blk.mk (ns 0).n z1 true])
theorem md4x1_run  : Sy.Ran (Sy.inB Tryd.prog Sy.S0 50 fMade #[.int .i64 4, .int .i64 1] []) md4x1_o (md4x1_R ) := ⟨fun _ => by kernel_rfl, fun _ => by kernel_rfl⟩
def md4x2_o : Sy.O := (steps [0, 0, 0, 0, 0, 0, 0, 0, 0, 1, 0, 2, 8, 0, 0, 0, 0, 0, 0, 0, 0, 0, 0, 0, 0, 3, 0, 0, 0, 0, 1, 0, 0, 0, 0, 0, 4, 0, 0, 0, 5, 0, 0, 0, 5, 0, 0, 6, 0, 0, 6, 0] nil)
noncomputable def md4x2_R  (ns : Nat → Sy.Let) : Sy.Res (Value × List Blk) :=
 let z0 := Array.mk [Value.pointer none, Value.pointer none, Value.pointer none, Value.pointer (some ⟨(ns 4).n, 0, none⟩), Value.pointer none]
 let z1 := Cont.obj (Obj.cells (Array.mk [.int .u64 0, .slice none 0 0]) 139)
 let z2 := Cont.obj (Obj.cells z0 31)
 leaf (Value.tuple (Array.mk [Value.agg z0, .int .i64 0]), [Blk.mk (ns 6).n z1 true, Blk.mk (ns 5).n z1 true, Blk.mk (ns 4).n (Cont.obj (Obj.cells (Array.mk [.slice (some ⟨(ns 2).n, 0, none⟩) 2 2, .slice (some ⟨(ns 3).n, 0, none⟩) 2 2]) 132)) true, Blk.mk (ns 3).n (Cont.obj (Obj.cells (Array.mk [.pointer none, .pointer none]) 48)) true, Blk.mk (ns 2).n (Cont.obj (Obj.cells (Array.mk [.pointer (some ⟨(ns 5).n, 0, none⟩), .pointer (some ⟨(ns 6).n, 0, none⟩)]) 136)) true, Blk.mk (ns 1).n z2 true, Blk.mk (ns 0).n z2 true])
theorem md4x2_run  : Sy.Ran (Sy.inB Tryd.prog Sy.S0 50 fMade #[.int .i64 4, .int .i64 2] []) md4x2_o (md4x2_R ) := ⟨fun _ => by kernel_rfl, fun _ => by kernel_rfl⟩
def md4x3_o : Sy.O := (steps [0, 0, 0, 0, 0, 0, 0, 0, 0, 1, 0, 2, 8, 0, 0, 0, 0, 0, 0, 0, 0, 0, 0, 0, 0, 3, 0, 0, 0, 0, 1, 0, 0, 0, 0, 0, 4, 0, 0, 0, 0, 2, 0, 0, 0, 0, 0, 5, 0, 0, 0, 6, 0, 0, 0, 6, 0, 0, 7, 0] (steps [0, 7, 0] nil))
noncomputable def md4x3_R  (ns : Nat → Sy.Let) : Sy.Res (Value × List Blk) :=
 let z0 := Array.mk [Value.pointer none, Value.pointer none, Value.pointer none, Value.pointer (some ⟨(ns 4).n, 0, none⟩), Value.pointer none]
 let z1 := Cont.obj (Obj.cells (Array.mk [.int .u64 0, .slice none 0 0]) 139)
 let z2 := Cont.obj (Obj.cells z0 31)
 leaf (Value.tuple (Array.mk [Value.agg z0, .int .i64 0]), [Blk.mk (ns 7).n z1 true, Blk.mk (ns 6).n z1 true, Blk.mk (ns 5).n z1 true, Blk.mk (ns 4).n (Cont.obj (Obj.cells (Array.mk [.slice (some ⟨(ns 2).n, 0, none⟩) 3 3, .slice (some ⟨(ns 3).n, 0, none⟩) 3 3]) 132)) true, Blk.mk (ns 3).n (Cont.obj (Obj.cells (Array.mk [.pointer none, .pointer none, .pointer none]) 48)) true, Blk.mk (ns 2).n (Cont.obj (Obj.cells (Array.mk [.pointer (some ⟨(ns 5).n, 0, none⟩), .pointer (some ⟨(ns 6).n, 0, none⟩), .pointer (some ⟨(ns 7).n, 0, none⟩)]) 136)) true, Blk.mk (ns 1).n z2 true, Blk.mk (ns 0).n z2 true])
theorem md4x3_run  : Sy.Ran (Sy.inB Tryd.prog Sy.S0 50 fMade #[.int .i64 4, .int .i64 3] []) md4x3_o (md4x3_R ) := ⟨fun _ => by kernel_rfl, fun _ => by kernel_rfl⟩
def md4x4_o : Sy.O := (steps [0, 0, 0, 0, 0, 0, 0, 0, 0, 1, 0, 2, 8, 0, 0, 0, 0, 0, 0, 0, 0, 0, 0, 0, 0, 3, 0, 0, 0, 0, 1, 0, 0, 0, 0, 0, 4, 0, 0, 0, 0, 2, 0, 0, 0, 0, 0, 5, 0, 0, 0, 0, 3, 0, 0, 0, 0, 0, 6, 0] (steps [0, 0, 7, 0, 0, 0, 7, 0, 0, 8, 0, 0, 8, 0] nil))
noncomputable def md4x4_R  (ns : Nat → Sy.Let) : Sy.Res (Value × List Blk) :=
 let z0 := Array.mk [Value.pointer none, Value.pointer none, Value.pointer none, Value.pointer (some ⟨(ns 4).n, 0, none⟩), Value.pointer none]
 let z1 := Cont.obj (Obj.cells (Array.mk [.int .u64 0, .slice none 0 0]) 139)
 let z2 := Cont.obj (Obj.cells z0 31)
 leaf (Value.tuple (Array.mk [Value.agg z0, .int .i64 0]), [Blk.mk (ns 8).n z1 true, Blk.mk (ns 7).n z1 true, Blk.mk (ns 6).n z1 true, Blk.mk (ns 5).n z1 true, Blk.mk (ns 4).n (Cont.obj (Obj.cells (Array.mk [.slice (some ⟨(ns 2).n, 0, none⟩) 4 4, .slice (some ⟨(ns 3).n, 0, none⟩) 4 4]) 132)) true, Blk.mk (ns 3).n (Cont.obj (Obj.cells (Array.mk [.pointer none, .pointer none, .pointer none, .pointer none]) 48)) true, Blk.mk (ns 2).n (Cont.obj (Obj.cells (Array.mk [.pointer (some ⟨(ns 5).n, 0, none⟩), .pointer (some ⟨(ns 6).n, 0, none⟩), .pointer (some ⟨(ns 7).n, 0, none⟩), .pointer (some ⟨(ns 8).n, 0, none⟩)]) 136)) true, Blk.mk (ns 1).n z2 true, Blk.mk (ns 0).n z2 true])
theorem md4x4_run  : Sy.Ran (Sy.inB Tryd.prog Sy.S0 50 fMade #[.int .i64 4, .int .i64 4] []) md4x4_o (md4x4_R ) := ⟨fun _ => by kernel_rfl, fun _ => by kernel_rfl⟩
def md4x5_o : Sy.O := (steps [0, 0, 0, 0, 0, 0, 0, 0, 0, 1, 0, 2, 8, 0, 0, 0, 0, 0, 0, 0, 0, 0, 0, 0, 0, 3, 0, 0, 0, 0, 1, 0, 0, 0, 0, 0, 4, 0, 0, 0, 0, 2, 0, 0, 0, 0, 0, 5, 0, 0, 0, 0, 3, 0, 0, 0, 0, 0, 6, 0] (steps [0, 0, 0, 4, 0, 0, 0, 0, 0, 7, 0, 0, 0, 8, 0, 0, 0, 8, 0, 0, 9, 0, 0, 9, 0] nil))
noncomputable def md4x5_R  (ns : Nat → Sy.Let) : Sy.Res (Value × List Blk) :=
 let z0 := Array.mk [Value.pointer none, Value.pointer none, Value.pointer none, Value.pointer (some ⟨(ns 4).n, 0, none⟩), Value.pointer none]
 let z1 := Cont.obj (Obj.cells (Array.mk [.int .u64 0, .slice none 0 0]) 139)
 let z2 := Cont.obj (Obj.cells z0 31)
 leaf (Value.tuple (Array.mk [Value.agg z0, .int .i64 0]), [Blk.mk (ns 9).n z1 true, Blk.mk (ns 8).n z1 true, Blk.mk (ns 7).n z1 true, Blk.mk (ns 6).n z1 true, Blk.mk (ns 5).n z1 true, Blk.mk (ns 4).n (Cont.obj (Obj.cells (Array.mk [.slice (some ⟨(ns 2).n, 0, none⟩) 5 5, .slice (some ⟨(ns 3).n, 0, none⟩) 5 5]) 132)) true, Blk.mk (ns 3).n (Cont.obj (Obj.cells (Array.mk [.pointer none, .pointer none, .pointer none, .pointer none, .pointer none]) 48)) true, Blk.mk (ns 2).n (Cont.obj (Obj.cells (Array.mk [.pointer (some ⟨(ns 5).n, 0, none⟩), .pointer (some ⟨(ns 6).n, 0, none⟩), .pointer (some ⟨(ns 7).n, 0, none⟩), .pointer (some ⟨(ns 8).n, 0, none⟩), .pointer (some ⟨(ns 9).n, 0, none⟩)]) 136)) true, Blk.mk (ns 1).n z2 true, Blk.mk (ns 0).n z2 true])
theorem md4x5_run  : Sy.Ran (Sy.inB Tryd.prog Sy.S0 50 fMade #[.int .i64 4, .int .i64 5] []) md4x5_o (md4x5_R ) := ⟨fun _ => by kernel_rfl, fun _ => by kernel_rfl⟩
def md4x6_o : Sy.O := (steps [0, 0, 0, 0, 0, 0, 0, 0, 0, 1, 0, 2, 8, 0, 0, 0, 0, 0, 0, 0, 0, 0, 0, 0, 0, 3, 0, 0, 0, 0, 1, 0, 0, 0, 0, 0, 4, 0, 0, 0, 0, 2, 0, 0, 0, 0, 0, 5, 0, 0, 0, 0, 3, 0, 0, 0, 0, 0, 6, 0] (steps [0, 0, 0, 4, 0, 0, 0, 0, 0, 7, 0, 0, 0, 0, 5, 0, 0, 0, 0, 0, 8, 0, 0, 0, 9, 0, 0, 0, 9, 0, 0, 10, 0, 0, 10, 0] nil))
noncomputable def md4x6_R  (ns : Nat → Sy.Let) : Sy.Res (Value × List Blk) :=
 let z0 := Array.mk [Value.pointer none, Value.pointer none, Value.pointer none, Value.pointer (some ⟨(ns 4).n, 0, none⟩), Value.pointer none]
 let z1 := Cont.obj (Obj.cells (Array.mk [.int .u64 0, .slice none 0 0]) 139)
 let z2 := Cont.obj (Obj.cells z0 31)
 leaf (Value.tuple (Array.mk [Value.agg z0, .int .i64 0]), [Blk.mk (ns 10).n z1 true, Blk.mk (ns 9).n z1 true, Blk.mk (ns 8).n z1 true, Blk.mk (ns 7).n z1 true, Blk.mk (ns 6).n z1 true, Blk.mk (ns 5).n z1 true, Blk.mk (ns 4).n (Cont.obj (Obj.cells (Array.mk [.slice (some ⟨(ns 2).n, 0, none⟩) 6 6, .slice (some ⟨(ns 3).n, 0, none⟩) 6 6]) 132)) true, Blk.mk (ns 3).n (Cont.obj (Obj.cells (Array.mk [.pointer none, .pointer none, .pointer none, .pointer none, .pointer none, .pointer none]) 48)) true, Blk.mk (ns 2).n (Cont.obj (Obj.cells (Array.mk [.pointer (some ⟨(ns 5).n, 0, none⟩), .pointer (some ⟨(ns 6).n, 0, none⟩), .pointer (some ⟨(ns 7).n, 0, none⟩), .pointer (some ⟨(ns 8).n, 0, none⟩), .pointer (some ⟨(ns 9).n, 0, none⟩), .pointer (some ⟨(ns 10).n, 0, none⟩)]) 136)) true, Blk.mk (ns 1).n z2 true, Blk.mk (ns 0).n z2 true])
theorem md4x6_run  : Sy.Ran (Sy.inB Tryd.prog Sy.S0 50 fMade #[.int .i64 4, .int .i64 6] []) md4x6_o (md4x6_R ) := ⟨fun _ => by kernel_rfl, fun _ => by kernel_rfl⟩
def md4x7_o : Sy.O := (steps [0, 0, 0, 0, 0, 0, 0, 0, 0, 1, 0, 2, 8, 0, 0, 0, 0, 0, 0, 0, 0, 0, 0, 0, 0, 3, 0, 0, 0, 0, 1, 0, 0, 0, 0, 0, 4, 0, 0, 0, 0, 2, 0, 0, 0, 0, 0, 5, 0, 0, 0, 0, 3, 0, 0, 0, 0, 0, 6, 0] (steps [0, 0, 0, 4, 0, 0, 0, 0, 0, 7, 0, 0, 0, 0, 5, 0, 0, 0, 0, 0, 8, 0, 0, 0, 0, 6, 0, 0, 0, 0, 0, 9, 0, 0, 0, 10, 0, 0, 0, 10, 0, 0, 11, 0, 0, 11, 0] nil))
noncomputable def md4x7_R  (ns : Nat → Sy.Let) : Sy.Res (Value × List Blk) :=
 let z0 := Array.mk [Value.pointer none, Value.pointer none, Value.pointer none, Value.pointer (some ⟨(ns 4).n, 0, none⟩), Value.pointer none]
 let z1 := Cont.obj (Obj.cells (Array.mk [.int .u64 0, .slice none 0 0]) 139)
 let z2 := Cont.obj (Obj.cells z0 31)
 leaf (Value.tuple (Array.mk [Value.agg z0, .int .i64 0]), [Blk.mk (ns 11).n z1 true, Blk.mk (ns 10).n z1 true, Blk.mk (ns 9).n z1 true, Blk.mk (ns 8).n z1 true, Blk.mk (ns 7).n z1 true, Blk.mk (ns 6).n z1 true, Blk.mk (ns 5).n z1 true, Blk.mk (ns 4).n (Cont.obj (Obj.cells (Array.mk [.slice (some ⟨(ns 2).n, 0, none⟩) 7 7, .slice (some ⟨(ns 3).n, 0, none⟩) 7 7]) 132)) true, Blk.mk (ns 3).n (Cont.obj (Obj.cells (Array.mk [.pointer none, .pointer none, .pointer none, .pointer none, .pointer none, .pointer none, .pointer none]) 48)) true, Blk.mk (ns 2).n (Cont.obj (Obj.cells (Array.mk [.pointer (some ⟨(ns 5).n, 0, none⟩), .pointer (some ⟨(ns 6).n, 0, none⟩), .pointer (some ⟨(ns 7).n, 0, none⟩), .pointer (some ⟨(ns 8).n, 0, none⟩), .pointer (some ⟨(ns 9).n, 0, none⟩), .pointer (some ⟨(ns 10).n, 0, none⟩), .pointer (some ⟨(ns 11).n, 0, none⟩)]) 136)) true, Blk.mk (ns 1).n z2 true, Blk.mk (ns 0).n z2 true])
theorem md4x7_run  : Sy.Ran (Sy.inB Tryd.prog Sy.S0 50 fMade #[.int .i64 4, .int .i64 7] []) md4x7_o (md4x7_R ) := ⟨fun _ => by kernel_rfl, fun _ => by kernel_rfl⟩
def md4x8_o : Sy.O := (steps [0, 0, 0, 0, 0, 0, 0, 0, 0, 1, 0, 2, 8, 0, 0, 0, 0, 0, 0, 0, 0, 0, 0, 0, 0, 3, 0, 0, 0, 0, 1, 0, 0, 0, 0, 0, 4, 0, 0, 0, 0, 2, 0, 0, 0, 0, 0, 5, 0, 0, 0, 0, 3, 0, 0, 0, 0, 0, 6, 0] (steps [0, 0, 0, 4, 0, 0, 0, 0, 0, 7, 0, 0, 0, 0, 5, 0, 0, 0, 0, 0, 8, 0, 0, 0, 0, 6, 0, 0, 0, 0, 0, 9, 0, 0, 0, 0, 7, 0, 0, 0, 0, 0, 10, 0, 0, 0, 11, 0, 0, 0, 11, 0, 0, 12, 0, 0, 12, 0] nil))
noncomputable def md4x8_R  (ns : Nat → Sy.Let) : Sy.Res (Value × List Blk) :=
 let z0 := Array.mk [Value.pointer none, Value.pointer none, Value.pointer none, Value.pointer (some ⟨(ns 4).n, 0, none⟩), Value.pointer none]
 let z1 := Cont.obj (Obj.cells (Array.mk [.int .u64 0, .slice none 0 0]) 139)
 let z2 := Cont.obj (Obj.cells z0 31)
 leaf (Value.tuple (Array.mk [Value.agg z0, .int .i64 0]), [Blk.mk (ns 12).n z1 true, Blk.mk (ns 11).n z1 true, Blk.mk (ns 10).n z1 true, Blk.mk (ns 9).n z1 true, Blk.mk (ns 8).n z1 true, Blk.mk (ns 7).n z1 true, Blk.mk (ns 6).n z1 true, Blk.mk (ns 5).n z1 true, Blk.mk (ns 4).n (Cont.obj (Obj.cells (Array.mk [.slice (some ⟨(ns 2).n, 0, none⟩) 8 8, .slice (some ⟨(ns 3).n, 0, none⟩) 8 8]) 132)) true, Blk.mk (ns 3).n (Cont.obj (Obj.cells (Array.mk [.pointer none, .pointer none, .pointer none, .pointer none, .pointer none, .pointer none, .pointer none, .pointer none]) 48)) true, Blk.mk (ns 2).n (Cont.obj (Obj.cells (Array.mk [.pointer (some ⟨(ns 5).n, 0, none⟩), .pointer (some ⟨(ns 6).n, 0, none⟩), .pointer (some ⟨(ns 7).n, 0, none⟩), .pointer (some ⟨(ns 8).n, 0, none⟩), .pointer (some ⟨(ns 9).n, 0, none⟩), .pointer (some ⟨(ns 10).n, 0, none⟩), .pointer (some ⟨(ns 11).n, 0, none⟩), .pointer (some ⟨(ns 12).n, 0, none⟩)]) 136)) true, Blk.mk (ns 1).n z2 true, Blk.mk (ns 0).n z2 true])
theorem md4x8_run  : Sy.Ran (Sy.inB Tryd.prog Sy.S0 50 fMade #[.int .i64 4, .int .i64 8] []) md4x8_o (md4x8_R ) := ⟨fun _ => by kernel_rfl, fun _ => by kernel_rfl⟩
def md4x9_o : Sy.O := (steps [0, 0, 0, 0, 0, 0, 0, 0, 0, 1, 0, 2, 8, 0, 0, 0, 0, 0, 0, 0, 0, 0, 0, 0, 0, 3, 0, 0, 0, 0, 1, 0, 0, 0, 0, 0, 4, 0, 0, 0, 0, 2, 0, 0, 0, 0, 0, 5, 0, 0, 0, 0, 3, 0, 0, 0, 0, 0, 6, 0] (steps [0, 0, 0, 4, 0, 0, 0, 0, 0, 7, 0, 0, 0, 0, 5, 0, 0, 0, 0, 0, 8, 0, 0, 0, 0, 6, 0, 0, 0, 0, 0, 9, 0, 0, 0, 0, 7, 0, 0, 0, 0, 0, 10, 0, 0, 0, 0, 8, 0, 0, 0, 0, 0, 11, 0, 0, 0, 12, 0, 0] (steps [0, 12, 0, 0, 13, 0, 0, 13, 0] nil)))
noncomputable def md4x9_R  (ns : Nat → Sy.Let) : Sy.Res (Value × List Blk) :=
 let z0 := Array.mk [Value.pointer none, Value.pointer none, Value.pointer none, Value.pointer (some ⟨(ns 4).n, 0, none⟩), Value.pointer none]
 let z1 := Cont.obj (Obj.cells (Array.mk [.int .u64 0, .slice none 0 0]) 139)
 let z2 := Cont.obj (Obj.cells z0 31)
 leaf (Value.tuple (Array.mk [Value.agg z0, .int .i64 0]), [Blk.mk (ns 13).n z1 true, Blk.mk (ns 12).n z1 true, Blk.mk (ns 11).n z1 true, Blk.mk (ns 10).n z1 true, Blk.mk (ns 9).n z1 true, Blk.mk (ns 8).n z1 true, Blk.mk (ns 7).n z1 true, Blk.mk (ns 6).n z1 true, Blk.mk (ns 5).n z1 true, Blk.mk (ns 4).n (Cont.obj (Obj.cells (Array.mk [.slice (some ⟨(ns 2).n, 0, none⟩) 9 9, .slice (some ⟨(ns 3).n, 0, none⟩) 9 9]) 132)) true, Blk.mk (ns 3).n (Cont.obj (Obj.cells (Array.mk [.pointer none, .pointer none, .pointer none, .pointer none, .pointer none, .pointer none, .pointer none, .pointer none, .pointer none]) 48)) true, Blk.mk (ns 2).n (Cont.obj (Obj.cells (Array.mk [.pointer (some ⟨(ns 5).n, 0, none⟩), .pointer (some ⟨(ns 6).n, 0, none⟩), .pointer (some ⟨(ns 7).n, 0, none⟩), .pointer (some ⟨(ns 8).n, 0, none⟩), .pointer (some ⟨(ns 9).n, 0, none⟩), .pointer (some ⟨(ns 10).n, 0, none⟩), .pointer (some ⟨(ns 11).n, 0, none⟩), .pointer (some ⟨(ns 12).n, 0, none⟩), .pointer (some ⟨(ns 13).n, 0, none⟩)]) 136)) true, Blk.mk (ns 1).n z2 true, Blk.mk (ns 0).n z2 true])
theorem md4x9_run  : Sy.Ran (Sy.inB Tryd.prog Sy.S0 50 fMade #[.int .i64 4, .int .i64 9] []) md4x9_o (md4x9_R ) := ⟨fun _ => by kernel_rfl, fun _ => by kernel_rfl⟩
def md4x10_o : Sy.O := (steps [0, 0, 0, 0, 0, 0, 0, 0, 0, 1, 0, 2, 8, 0, 0, 0, 0, 0, 0, 0, 0, 0, 0, 0, 0, 3, 0, 0, 0, 0, 1, 0, 0, 0, 0, 0, 4, 0, 0, 0, 0, 2, 0, 0, 0, 0, 0, 5, 0, 0, 0, 0, 3, 0, 0, 0, 0, 0, 6, 0] (steps [0, 0, 0, 4, 0, 0, 0, 0, 0, 7, 0, 0, 0, 0, 5, 0, 0, 0, 0, 0, 8, 0, 0, 0, 0, 6, 0, 0, 0, 0, 0, 9, 0, 0, 0, 0, 7, 0, 0, 0, 0, 0, 10, 0, 0, 0, 0, 8, 0, 0, 0, 0, 0, 11, 0, 0, 0, 0, 9, 0] (steps [0, 0, 0, 0, 12, 0, 0, 0, 13, 0, 0, 0, 13, 0, 0, 14, 0, 0, 14, 0] nil)))
noncomputable def md4x10_R  (ns : Nat → Sy.Let) : Sy.Res (Value × List Blk) :=
 let z0 := Array.mk [Value.pointer none, Value.pointer none, Value.pointer none, Value.pointer (some ⟨(ns 4).n, 0, none⟩), Value.pointer none]
 let z1 := Cont.obj (Obj.cells (Array.mk [.int .u64 0, .slice none 0 0]) 139)
 let z2 := Cont.obj (Obj.cells z0 31)
 leaf (Value.tuple (Array.mk [Value.agg z0, .int .i64 0]), [Blk.mk (ns 14).n z1 true, Blk.mk (ns 13).n z1 true, Blk.mk (ns 12).n z1 true, Blk.mk (ns 11).n z1 true, Blk.mk (ns 10).n z1 true, Blk.mk (ns 9).n z1 true, Blk.mk (ns 8).n z1 true, Blk.mk (ns 7).n z1 true, Blk.mk (ns 6).n z1 true, Blk.mk (ns 5).n z1 true, Blk.mk (ns 4).n (Cont.obj (Obj.cells (Array.mk [.slice (some ⟨(ns 2).n, 0, none⟩) 10 10, .slice (some ⟨(ns 3).n, 0, none⟩) 10 10]) 132)) true, Blk.mk (ns 3).n (Cont.obj (Obj.cells (Array.mk [.pointer none, .pointer none, .pointer none, .pointer none, .pointer none, .pointer none, .pointer none, .pointer none, .pointer none, .pointer none]) 48)) true, Blk.mk (ns 2).n (Cont.obj (Obj.cells (Array.mk [.pointer (some ⟨(ns 5).n, 0, none⟩), .pointer (some ⟨(ns 6).n, 0, none⟩), .pointer (some ⟨(ns 7).n, 0, none⟩), .pointer (some ⟨(ns 8).n, 0, none⟩), .pointer (some ⟨(ns 9).n, 0, none⟩), .pointer (some ⟨(ns 10).n, 0, none⟩), .pointer (some ⟨(ns 11).n, 0, none⟩), .pointer (some ⟨(ns 12).n, 0, none⟩), .pointer (some ⟨(ns 13).n, 0, none⟩), .pointer (some ⟨(ns 14).n, 0, none⟩)]) 136)) true, Blk.mk (ns 1).n z2 true, Blk.mk (ns 0).n z2 true])
theorem md4x10_run  : Sy.Ran (Sy.inB Tryd.prog Sy.S0 50 fMade #[.int .i64 4, .int .i64 10] []) md4x10_o (md4x10_R ) := ⟨fun _ => by kernel_rfl, fun _ => by kernel_rfl⟩
open Go Go.RowKit
open Go.Proofs.YtjohknpmhlildaaDoor.Sy (Let Blk Cont Bun ptr ptr0 bx tkB tkU clo)
def md4x11_o : Sy.O := (steps [0, 0, 0, 0, 0, 0, 0, 0, 0, 1, 0, 2, 8, 0, 0, 0, 0, 0, 0, 0, 0, 0, 0, 0, 0, 3, 0, 0, 0, 0, 1, 0, 0, 0, 0, 0, 4, 0, 0, 0, 0, 2, 0, 0, 0, 0, 0, 5, 0, 0, 0, 0, 3, 0, 0, 0, 0, 0, 6, 0] (steps [0, 0, 0, 4, 0, 0, 0, 0, 0, 7, 0, 0, 0, 0, 5, 0, 0, 0, 0, 0, 8, 0, 0, 0, 0, 6, 0, 0, 0, 0, 0, 9, 0, 0, 0, 0, 7, 0, 0, 0, 0, 0, 10, 0, 0, 0, 0, 8, 0, 0, 0, 0, 0, 11, 0, 0, 0, 0, 9, 0] (steps [0, 0, 0, 0, 12, 0, 0, 0, 0, 10, 0, 0, 0, 0, 0, 13, 0, 0, 0, 14, 0, 0, 0, 14, 0, 0, 15, 0, 0, 15, 0] nil)))
noncomputable def md4x11_R  (ns : Nat → Sy.Let) : Sy.Res (Value × List Blk) :=
 let z0 := Array.mk [Value.pointer none, Value.pointer none, Value.pointer none, Value.pointer (some ⟨(ns 4).n, 0, none⟩), Value.pointer none]
 let z1 := Cont.obj (Obj.cells (Array.mk [.int .u64 0, .slice none 0 0]) 139)
 let z2 := Cont.obj (Obj.cells z0 31)
 leaf (Value.tuple (Array.mk [Value.agg z0, .int .i64 0]), [Blk.mk (ns 15).n z1 true, Blk.mk (ns 14).n z1 true, Blk.mk (ns 13).n z1 true, Blk.mk (ns 12).n z1 true, Blk.mk (ns 11).n z1 true, Blk.mk (ns 10).n z1 true, Blk.mk (ns 9).n z1 true, Blk.mk (ns 8).n z1 true, Blk.mk (ns 7).n z1 true, Blk.mk (ns 6).n z1 true, Blk.mk (ns 5).n z1 true, Blk.mk (ns 4).n (Cont.obj (Obj.cells (Array.mk [.slice (some ⟨(ns 2).n, 0, none⟩) 11 11, .slice (some ⟨(ns 3).n, 0, none⟩) 11 11]) 132)) true, Blk.mk (ns 3).n (Cont.obj (Obj.cells (Array.mk [.pointer none, .pointer none, .pointer none, .pointer none, .pointer none, .pointer none, .pointer none, .pointer none, .pointer none, .pointer none, .pointer none]) 48)) true, Blk.mk (ns 2).n (Cont.obj (Obj.cells (Array.mk [.pointer (some ⟨(ns 5).n, 0, none⟩), .pointer (some ⟨(ns 6).n, 0, none⟩), .pointer (some ⟨(ns 7).n, 0, none⟩), .pointer (some ⟨(ns 8).n, 0, none⟩), .pointer (some ⟨(ns 9).n, 0, none⟩), .pointer (some ⟨(ns 10).n, 0, none⟩), .pointer (some ⟨(ns 11).n, 0, none⟩), .pointer (some ⟨(ns 12).n, 0, none⟩), .pointer (some ⟨(ns 13).n, 0, none⟩), .pointer (some ⟨(ns 14).n, 0, none⟩), .pointer (some ⟨(ns 15).n, 0, none⟩)]) 136)) true, Blk.mk (ns 1).n z2 true, Blk.mk (ns 0).n z2 true])
theorem md4x11_run  : Sy.Ran (Sy.inB Tryd.prog Sy.S0 50 fMade #[.int .i64 4, .int .i64 11] []) md4x11_o (md4x11_R ) := ⟨fun _ => by kernel_rfl, fun _ => by kernel_rfl⟩
def md4x12_o : Sy.O := (steps [0, 0, 0, 0, 0, 0, 0, 0, 0, 1, 0, 2, 8, 0, 0, 0, 0, 0, 0, 0, 0, 0, 0, 0, 0, 3, 0, 0, 0, 0, 1, 0, 0, 0, 0, 0, 4, 0, 0, 0, 0, 2, 0, 0, 0, 0, 0, 5, 0, 0, 0, 0, 3, 0, 0, 0, 0, 0, 6, 0] (steps [0, 0, 0, 4, 0, 0, 0, 0, 0, 7, 0, 0, 0, 0, 5, 0, 0, 0, 0, 0, 8, 0, 0, 0, 0, 6, 0, 0, 0, 0, 0, 9, 0, 0, 0, 0, 7, 0, 0, 0, 0, 0, 10, 0, 0, 0, 0, 8, 0, 0, 0, 0, 0, 11, 0, 0, 0, 0, 9, 0] (steps [0, 0, 0, 0, 12, 0, 0, 0, 0, 10, 0, 0, 0, 0, 0, 13, 0, 0, 0, 0, 11, 0, 0, 0, 0, 0, 14, 0, 0, 0, 15, 0, 0, 0, 15, 0, 0, 16, 0, 0, 16, 0] nil)))
noncomputable def md4x12_R  (ns : Nat → Sy.Let) : Sy.Res (Value × List Blk) :=
 let z0 := Array.mk [Value.pointer none, Value.pointer none, Value.pointer none, Value.pointer (some ⟨(ns 4).n, 0, none⟩), Value.pointer none]
 let z1 := Cont.obj (Obj.cells (Array.mk [.int .u64 0, .slice none 0 0]) 139)
 let z2 := Cont.obj (Obj.cells z0 31)
 leaf (Value.tuple (Array.mk [Value.agg z0, .int .i64 0]), [Blk.mk (ns 16).n z1 true, Blk.mk (ns 15).n z1 true, Blk.mk (ns 14).n z1 true, Blk.mk (ns 13).n z1 true, Blk.mk (ns 12).n z1 true, Blk.mk (ns 11).n z1 true, Blk.mk (ns 10).n z1 true, Blk.mk (ns 9).n z1 true, Blk.mk (ns 8).n z1 true, Blk.mk (ns 7).n z1 true, Blk.mk (ns 6).n z1 true, Blk.mk (ns 5).n z1 true, Blk.mk (ns 4).n (Cont.obj (Obj.cells (Array.mk [.slice (some ⟨(ns 2).n, 0, none⟩) 12 12, .slice (some ⟨(ns 3).n, 0, none⟩) 12 12]) 132)) true, Blk.mk (ns 3).n (Cont.obj (Obj.cells (Array.mk [.pointer none, .pointer none, .pointer none, .pointer none, .pointer none, .pointer none, .pointer none, .pointer none, .pointer none, .pointer none, .pointer none, .pointer none]) 48)) true, Blk.mk (ns 2).n (Cont.obj (Obj.cells (Array.mk [.pointer (some ⟨(ns 5).n, 0, none⟩), .pointer (some ⟨(ns 6).n, 0, none⟩), .pointer (some ⟨(ns 7).n, 0, none⟩), .pointer (some ⟨(ns 8).n, 0, none⟩), .pointer (some ⟨(ns 9).n, 0, none⟩), .pointer (some ⟨(ns 10).n, 0, none⟩), .pointer (some ⟨(ns 11).n, 0, none⟩), .pointer (some ⟨(ns 12).n, 0, none⟩), .pointer (some ⟨(ns 13).n, 0, none⟩), .pointer (some ⟨(ns 14).n, 0, none⟩), .pointer (some ⟨(ns 15).n, 0, none⟩), .pointer (some ⟨(ns 16).n, 0, none⟩)]) 136)) true, Blk.mk (ns 1).n z2 true, Blk.mk (ns 0).n z2 true])
theorem md4x12_run  : Sy.Ran (Sy.inB Tryd.prog Sy.S0 50 fMade #[.int .i64 4, .int .i64 12] []) md4x12_o (md4x12_R ) := ⟨fun _ => by kernel_rfl, fun _ => by kernel_rfl⟩
def md4x13_o : Sy.O := (steps [0, 0, 0, 0, 0, 0, 0, 0, 0, 1, 0, 2, 8, 0, 0, 0, 0, 0, 0, 0, 0, 0, 0, 0, 0, 3, 0, 0, 0, 0, 1, 0, 0, 0, 0, 0, 4, 0, 0, 0, 0, 2, 0, 0, 0, 0, 0, 5, 0, 0, 0, 0, 3, 0, 0, 0, 0, 0, 6, 0] (steps [0, 0, 0, 4, 0, 0, 0, 0, 0, 7, 0, 0, 0, 0, 5, 0, 0, 0, 0, 0, 8, 0, 0, 0, 0, 6, 0, 0, 0, 0, 0, 9, 0, 0, 0, 0, 7, 0, 0, 0, 0, 0, 10, 0, 0, 0, 0, 8, 0, 0, 0, 0, 0, 11, 0, 0, 0, 0, 9, 0] (steps [0, 0, 0, 0, 12, 0, 0, 0, 0, 10, 0, 0, 0, 0, 0, 13, 0, 0, 0, 0, 11, 0, 0, 0, 0, 0, 14, 0, 0, 0, 0, 12, 0, 0, 0, 0, 0, 15, 0, 0, 0, 16, 0, 0, 0, 16, 0, 0, 17, 0, 0, 17, 0] nil)))
noncomputable def md4x13_R  (ns : Nat → Sy.Let) : Sy.Res (Value × List Blk) :=
 let z0 := Array.mk [Value.pointer none, Value.pointer none, Value.pointer none, Value.pointer (some ⟨(ns 4).n, 0, none⟩), Value.pointer none]
 let z1 := Cont.obj (Obj.cells (Array.mk [.int .u64 0, .slice none 0 0]) 139)
 let z2 := Cont.obj (Obj.cells z0 31)
 leaf (Value.tuple (Array.mk [Value.agg z0, .int .i64 0]), [Blk.mk (ns 17).n z1 true, Blk.mk (ns 16).n z1 true, Blk.mk (ns 15).n z1 true, Blk.mk (ns 14).n z1 true, Blk.mk (ns 13).n z1 true, Blk.mk (ns 12).n z1 true, Blk.mk (ns 11).n z1 true, Blk.mk (ns 10).n z1 true, Blk.mk (ns 9).n z1 true, Blk.mk (ns 8).n z1 true, Blk.mk (ns 7).n z1 true, Blk.mk (ns 6).n z1 true, Blk.mk (ns 5).n z1 true, Blk.mk (ns 4).n (Cont.obj (Obj.cells (Array.mk [.slice (some ⟨(ns 2).n, 0, none⟩) 13 13, .slice (some ⟨(ns 3).n, 0, none⟩) 13 13]) 132)) true, Blk.mk (ns 3).n (Cont.obj (Obj.cells (Array.mk [.pointer none, .pointer none, .pointer none, .pointer none, .pointer none, .pointer none, .pointer none, .pointer none, .pointer none, .pointer none, .pointer none, .pointer none, .pointer none]) 48)) true, Blk.mk (ns 2).n (Cont.obj (Obj.cells (Array.mk [.pointer (some ⟨(ns 5).n, 0, none⟩), .pointer (some ⟨(ns 6).n, 0, none⟩), .pointer (some ⟨(ns 7).n, 0, none⟩), .pointer (some ⟨(ns 8).n, 0, none⟩), .pointer (some ⟨(ns 9).n, 0, none⟩), .pointer (some ⟨(ns 10).n, 0, none⟩), .pointer (some ⟨(ns 11).n, 0, none⟩), .pointer (some ⟨(ns 12).n, 0, none⟩), .pointer (some ⟨(ns 13).n, 0, none⟩), .pointer (some ⟨(ns 14).n, 0, none⟩), .pointer (some ⟨(ns 15).n, 0, none⟩), .pointer (some ⟨(ns 16).n, 0, none⟩), .pointer (some ⟨(ns 17).n, 0, none⟩)]) 136)) true, Blk.mk (ns 1).n z2 true, Blk.mk (ns 0).n z2 true])
theorem md4x13_run  : Sy.Ran (Sy.inB Tryd.prog Sy.S0 50 fMade #[.int .i64 4, .int .i64 13] []) md4x13_o (md4x13_R ) := ⟨fun _ => by kernel_rfl, fun _ => by kernel_rfl⟩
def md4x14_o : Sy.O := (steps [0, 0, 0, 0, 0, 0, 0, 0, 0, 1, 0, 2, 8, 0, 0, 0, 0, 0, 0, 0, 0, 0, 0, 0, 0, 3, 0, 0, 0, 0, 1, 0, 0, 0, 0, 0, 4, 0, 0, 0, 0, 2, 0, 0, 0, 0, 0, 5, 0, 0, 0, 0, 3, 0, 0, 0, 0, 0, 6, 0] (steps [0, 0, 0, 4, 0, 0, 0, 0, 0, 7, 0, 0, 0, 0, 5, 0, 0, 0, 0, 0, 8, 0, 0, 0, 0, 6, 0, 0, 0, 0, 0, 9, 0, 0, 0, 0, 7, 0, 0, 0, 0, 0, 10, 0, 0, 0, 0, 8, 0, 0, 0, 0, 0, 11, 0, 0, 0, 0, 9, 0] (steps [0, 0, 0, 0, 12, 0, 0, 0, 0, 10, 0, 0, 0, 0, 0, 13, 0, 0, 0, 0, 11, 0, 0, 0, 0, 0, 14, 0, 0, 0, 0, 12, 0, 0, 0, 0, 0, 15, 0, 0, 0, 0, 13, 0, 0, 0, 0, 0, 16, 0, 0, 0, 17, 0, 0, 0, 17, 0, 0, 18] (steps [0, 0, 18, 0] nil))))
noncomputable def md4x14_R  (ns : Nat → Sy.Let) : Sy.Res (Value × List Blk) :=
 let z0 := Array.mk [Value.pointer none, Value.pointer none, Value.pointer none, Value.pointer (some ⟨(ns 4).n, 0, none⟩), Value.pointer none]
 let z1 := Cont.obj (Obj.cells (Array.mk [.int .u64 0, .slice none 0 0]) 139)
 let z2 := Cont.obj (Obj.cells z0 31)
 leaf (Value.tuple (Array.mk [Value.agg z0, .int .i64 0]), [Blk.mk (ns 18).n z1 true, Blk.mk (ns 17).n z1 true, Blk.mk (ns 16).n z1 true, Blk.mk (ns 15).n z1 true, Blk.mk (ns 14).n z1 true, Blk.mk (ns 13).n z1 true, Blk.mk (ns 12).n z1 true, Blk.mk (ns 11).n z1 true, Blk.mk (ns 10).n z1 true, Blk.mk (ns 9).n z1 true, Blk.mk (ns 8).n z1 true, Blk.mk (ns 7).n z1 true, Blk.mk (ns 6).n z1 true, Blk.mk (ns 5).n z1 true, Blk.mk (ns 4).n (Cont.obj (Obj.cells (Array.mk [.slice (some ⟨(ns 2).n, 0, none⟩) 14 14, .slice (some ⟨(ns 3).n, 0, none⟩) 14 14]) 132)) true, Blk.mk (ns 3).n (Cont.obj (Obj.cells (Array.mk [.pointer none, .pointer none, .pointer none, .pointer none, .pointer none, .pointer none, .pointer none, .pointer none, .pointer none, .pointer none, .pointer none, .pointer none, .pointer none, .pointer none]) 48)) true, Blk.mk (ns 2).n (Cont.obj (Obj.cells (Array.mk [.pointer (some ⟨(ns 5).n, 0, none⟩), .pointer (some ⟨(ns 6).n, 0, none⟩), .pointer (some ⟨(ns 7).n, 0, none⟩), .pointer (some ⟨(ns 8).n, 0, none⟩), .pointer (some ⟨(ns 9).n, 0, none⟩), .pointer (some ⟨(ns 10).n, 0, none⟩), .pointer (some ⟨(ns 11).n, 0, none⟩), .pointer (some ⟨(ns 12).n, 0, none⟩), .pointer (some ⟨(ns 13).n, 0, none⟩), .pointer (some ⟨(ns 14).n, 0, none⟩), .pointer (some ⟨(ns 15).n, 0, none⟩), .pointer (some ⟨(ns 16).n, 0, none⟩), .pointer (some ⟨(ns 17).n, 0, none⟩), .pointer (some ⟨(ns 18).n, 0, none⟩)]) 136)) true, Blk.mk (ns 1).n z2 true, Blk.mk (ns 0).n z2 true])
theorem md4x14_run  : Sy.Ran (Sy.inB Tryd.prog Sy.S0 50 fMade #[.int .i64 4, .int .i64 14] []) md4x14_o (md4x14_R ) := ⟨fun _ => by kernel_rfl, fun _ => by kernel_rfl⟩
def md4x15_o : Sy.O := (steps [0, 0, 0, 0, 0, 0, 0, 0, 0, 1, 0, 2, 8, 0, 0, 0, 0, 0, 0, 0, 0, 0, 0, 0, 0, 3, 0, 0, 0, 0, 1, 0, 0, 0, 0, 0, 4, 0, 0, 0, 0, 2, 0, 0, 0, 0, 0, 5, 0, 0, 0, 0, 3, 0, 0, 0, 0, 0, 6, 0] (steps [0, 0, 0, 4, 0, 0, 0, 0, 0, 7, 0, 0, 0, 0, 5, 0, 0, 0, 0, 0, 8, 0, 0, 0, 0, 6, 0, 0, 0, 0, 0, 9, 0, 0, 0, 0, 7, 0, 0, 0, 0, 0, 10, 0, 0, 0, 0, 8, 0, 0, 0, 0, 0, 11, 0, 0, 0, 0, 9, 0] (steps [0, 0, 0, 0, 12, 0, 0, 0, 0, 10, 0, 0, 0, 0, 0, 13, 0, 0, 0, 0, 11, 0, 0, 0, 0, 0, 14, 0, 0, 0, 0, 12, 0, 0, 0, 0, 0, 15, 0, 0, 0, 0, 13, 0, 0, 0, 0, 0, 16, 0, 0, 0, 0, 14, 0, 0, 0, 0, 0, 17] (steps [0, 0, 0, 18, 0, 0, 0, 18, 0, 0, 19, 0, 0, 19, 0] nil))))
noncomputable def md4x15_R  (ns : Nat → Sy.Let) : Sy.Res (Value × List Blk) :=
 let z0 := Array.mk [Value.pointer none, Value.pointer none, Value.pointer none, Value.pointer (some ⟨(ns 4).n, 0, none⟩), Value.pointer none]
 let z1 := Cont.obj (Obj.cells (Array.mk [.int .u64 0, .slice none 0 0]) 139)
 let z2 := Cont.obj (Obj.cells z0 31)
 leaf (Value.tuple (Array.mk [Value.agg z0, .int .i64 0]), [Blk.mk (ns 19).n z1 true, Blk.mk (ns 18).n z1 true, Blk.mk (ns 17).n z1 true, Blk.mk (ns 16).n z1 true, Blk.mk (ns 15).n z1 true, Blk.mk (ns 14).n z1 true, Blk.mk (ns 13).n z1 true, Blk.mk (ns 12).n z1 true, Blk.mk (ns 11).n z1 true, Blk.mk (ns 10).n z1 true, Blk.mk (ns 9).n z1 true, Blk.mk (ns 8).n z1 true, Blk.mk (ns 7).n z1 true, Blk.mk (ns 6).n z1 true, Blk.mk (ns 5).n z1 true, Blk.mk (ns 4).n (Cont.obj (Obj.cells (Array.mk [.slice (some ⟨(ns 2).n, 0, none⟩) 15 15, .slice (some ⟨(ns 3).n, 0, none⟩) 15 15]) 132)) true, Blk.mk (ns 3).n (Cont.obj (Obj.cells (Array.mk [.pointer none, .pointer none, .pointer none, .pointer none, .pointer none, .pointer none, .pointer none, .pointer none, .pointer none, .pointer none, .pointer none, .pointer none, .pointer none, .pointer none, .pointer none]) 48)) true, Blk.mk (ns 2).n (Cont.obj (Obj.cells (Array.mk [.pointer (some ⟨(ns 5).n, 0, none⟩), .pointer (some ⟨(ns 6).n, 0, none⟩), .pointer (some ⟨(ns 7).n, 0, none⟩), .pointer (some ⟨(ns 8).n, 0, none⟩), .pointer (some ⟨(ns 9).n, 0, none⟩), .pointer (some ⟨(ns 10).n, 0, none⟩), .pointer (some ⟨(ns 11).n, 0, none⟩), .pointer (some ⟨(ns 12).n, 0, none⟩), .pointer (some ⟨(ns 13).n, 0, none⟩), .pointer (some ⟨(ns 14).n, 0, none⟩), .pointer (some ⟨(ns 15).n, 0, none⟩), .pointer (some ⟨(ns 16).n, 0, none⟩), .pointer (some ⟨(ns 17).n, 0, none⟩), .pointer (some ⟨(ns 18).n, 0, none⟩), .pointer (some ⟨(ns 19).n, 0, none⟩)]) 136)) true,
 Blk.mk (ns 1).n z2 true, Blk.mk (ns 0).n z2 true])
theorem md4x15_run  : Sy.Ran (Sy.inB Tryd.prog Sy.S0 50 fMade #[.int .i64 4, .int .i64 15] []) md4x15_o (md4x15_R ) := ⟨fun _ => by kernel_rfl, fun _ => by kernel_rfl⟩
def md4x16_o : Sy.O := (steps [0, 0, 0, 0, 0, 0, 0, 0, 0, 1, 0, 2, 8, 0, 0, 0, 0, 0, 0, 0, 0, 0, 0, 0, 0, 3, 0, 0, 0, 0, 1, 0, 0, 0, 0, 0, 4, 0, 0, 0, 0, 2, 0, 0, 0, 0, 0, 5, 0, 0, 0, 0, 3, 0, 0, 0, 0, 0, 6, 0] (steps [0, 0, 0, 4, 0, 0, 0, 0, 0, 7, 0, 0, 0, 0, 5, 0, 0, 0, 0, 0, 8, 0, 0, 0, 0, 6, 0, 0, 0, 0, 0, 9, 0, 0, 0, 0, 7, 0, 0, 0, 0, 0, 10, 0, 0, 0, 0, 8, 0, 0, 0, 0, 0, 11, 0, 0, 0, 0, 9, 0] (steps [0, 0, 0, 0, 12, 0, 0, 0, 0, 10, 0, 0, 0, 0, 0, 13, 0, 0, 0, 0, 11, 0, 0, 0, 0, 0, 14, 0, 0, 0, 0, 12, 0, 0, 0, 0, 0, 15, 0, 0, 0, 0, 13, 0, 0, 0, 0, 0, 16, 0, 0, 0, 0, 14, 0, 0, 0, 0, 0, 17] (steps [0, 0, 0, 0, 15, 0, 0, 0, 0, 0, 18, 0, 0, 0, 19, 0, 0, 0, 19, 0, 0, 20, 0, 0, 20, 0] nil))))
noncomputable def md4x16_R  (ns : Nat → Sy.Let) : Sy.Res (Value × List Blk) :=
 let z0 := Array.mk [Value.pointer none, Value.pointer none, Value.pointer none, Value.pointer (some ⟨(ns 4).n, 0, none⟩), Value.pointer none]
 let z1 := Cont.obj (Obj.cells (Array.mk [.int .u64 0, .slice none 0 0]) 139)
 let z2 := Cont.obj (Obj.cells z0 31)
 leaf (Value.tuple (Array.mk [Value.agg z0, .int .i64 0]), [Blk.mk (ns 20).n z1 true, Blk.mk (ns 19).n z1 true, Blk.mk (ns 18).n z1 true, Blk.mk (ns 17).n z1 true, Blk.mk (ns 16).n z1 true, Blk.mk (ns 15).n z1 true, Blk.mk (ns 14).n z1 true, Blk.mk (ns 13).n z1 true, Blk.mk (ns 12).n z1 true, Blk.mk (ns 11).n z1 true, Blk.mk (ns 10).n z1 true, Blk.mk (ns 9).n z1 true, Blk.mk (ns 8).n z1 true, Blk.mk (ns 7).n z1 true, Blk.mk (ns 6).n z1 true, Blk.mk (ns 5).n z1 true, Blk.mk (ns 4).n (Cont.obj (Obj.cells (Array.mk [.slice (some ⟨(ns 2).n, 0, none⟩) 16 16, .slice (some ⟨(ns 3).n, 0, none⟩) 16 16]) 132)) true, Blk.mk (ns 3).n (Cont.obj (Obj.cells (Array.mk [.pointer none, .pointer none, .pointer none, .pointer none, .pointer none, .pointer none, .pointer none, .pointer none, .pointer none, .pointer none, .pointer none, .pointer none, .pointer none, .pointer none, .pointer none, .pointer none]) 48)) true, Blk.mk (ns 2).n (Cont.obj (Obj.cells (Array.mk [.pointer (some ⟨(ns 5).n, 0, none⟩), .pointer (some ⟨(ns 6).n, 0, none⟩), .pointer (some ⟨(ns 7).n, 0, none⟩), .pointer (some ⟨(ns 8).n, 0, none⟩), .pointer (some ⟨(ns 9).n, 0, none⟩), .pointer (some ⟨(ns 10).n, 0, none⟩), .pointer (some ⟨(ns 11).n, 0, none⟩), .pointer (some ⟨(ns 12).n, 0, none⟩), .pointer (some ⟨(ns 13).n, 0, none⟩), .pointer (some ⟨(ns 14).n, 0, none⟩), .pointer (some ⟨(ns 15).n, 0, none⟩), .pointer (some ⟨(ns 16).n, 0, none⟩), .pointer (some ⟨(ns 17).n, 0, none⟩), .pointer (some ⟨(ns 18).n, 0, none⟩), .pointer
 (some ⟨(ns 19).n, 0, none⟩), .pointer (some ⟨(ns 20).n, 0, none⟩)]) 136)) true, Blk.mk (ns 1).n z2 true, Blk.mk (ns 0).n z2 true])
theorem md4x16_run  : Sy.Ran (Sy.inB Tryd.prog Sy.S0 50 fMade #[.int .i64 4, .int .i64 16] []) md4x16_o (md4x16_R ) := ⟨fun _ => by kernel_rfl, fun _ => by kernel_rfl⟩
open Go.Proofs.YtjohknpmhlildaaDoor.Sy (Let Blk Cont Bun ptr ptr0 bx tkB tkU clo DoesB usedK ownOf rdsOf Rep does_frame does_perm does_mono does_all does_of S0_holds bunO)
open Go.Proofs.YtjohknpmhlildaaDoor.As
theorem pw_left : ∀ {A B C : List Blk}, PW A B → PW (C ++ A) (C ++ B)
 | _, _, [], h => h
 | _, _, c :: C, h => .cons ⟨rfl, rfl, fun _ h => h⟩ (pw_left (C := C) h)
theorem nms_zero (Z : SnD) : nms Z (List.replicate Z.ini.length 0) = Z.ini := by
 apply List.ext_getElem
 ·simp [nms]
 ·intro i h1 h2
  have hi : i < (List.replicate Z.ini.length 0).length := by simpa [nms] using h1
  have e := nms_at Z hi
  rw [List.getD_eq_getElem?_getD, List.getElem?_eq_getElem h1] at e
  have e : (nms Z (List.replicate Z.ini.length 0))[i] = _ := e
  have e0 : (List.replicate Z.ini.length 0).getD i 0 = 0 := by rw [List.getD_eq_getElem?_getD, List.getElem?_replicate]; split <;> rfl
  rw [e, e0]
  unfold spN
  rw [if_pos rfl, List.getD_eq_getElem?_getD, List.getElem?_eq_getElem h2]
  rfl
theorem md_leaf {room : Nat} {w : WorldD} (h1 : 1 ≤ room) (h2 : room ≤ 16) (hw : newW 4 (room : Int) = some w) {st rr lr : Nat} {ini : List Nat} (hi : ini.length = room) {L : List Blk} {pk : List Nat} (hpk : pk.Nodup)
  (h : Sy.pickL L pk = ([snB st rr lr room, (rr, Cont.obj (.cells (ptrs ini).toArray tApS (0, 0)))] ++ ((ini.map fun n => seB n 0 (.slice none 0 0)) ++ [(lr, Cont.obj (.cells (List.replicate room ptr0).toArray tTP (0, 0)))])).map ownOf) :
  ∃ out, Sy.Ent L (out.map ownOf) ∧ madeQ 4 (fun st o => HeapN w st [] o) (.tuple #[thV4 4 st, .int .i64 0]) out := by
 have hm : room ≤ maxLen := Nat.le_trans h2 (by decide)
 refine ⟨[snB st rr lr room, apB rr room (ptrs ini)] ++ ((ini.map fun n => seB n 0 (.slice none 0 0)) ++ [(lr, Cont.row tTP 1 room room (List.replicate room ptr0))]), Sy.Ent.trans (ent_pick pk hpk h) (ent_pw ?_), st, rfl, [], ⟨st, rr, lr, ini, [], []⟩, ?_⟩
 ·refine .cons ⟨rfl, rfl, fun _ h => h⟩ (.cons ⟨rfl, rfl, fun _ hs => cells_row (by simp [ptrs, hi]) hm hs⟩ ?_)
  show PW (List.map ownOf ((ini.map fun n => seB n 0 (.slice none 0 0)) ++ [(lr, _)])) (List.map ownOf ((ini.map fun n => seB n 0 (.slice none 0 0)) ++ [(lr, _)]))
  rw [List.map_append, List.map_append]
  exact pw_left (.cons ⟨rfl, rfl, fun _ hs => cells_row (by simp) hm hs⟩ .nil)
 ·unfold newW at hw
  rw [if_neg (by omega)] at hw
  injection hw with hw
  subst hw
  have hrm : (room : Int).toNat = room := Int.toNat_natCast room
  refine ⟨rfl, rfl, rfl, rfl, (fun _ h => nomatch h), ?_, ?_, ?_, fun i => ?_, rfl, (fun _ h => nomatch h), ?_, fun n hn => ?_, ?_⟩
  ·show 1 ≤ (room : Int).toNat ∧ (room : Int).toNat ≤ 16
   omega
  ·show ini.length = (room : Int).toNat
   omega
  ·show (List.replicate (room : Int).toNat 0).length = (room : Int).toNat
   simp
  ·show (List.replicate (room : Int).toNat 0).getD i 0 ≤ 0
   rw [List.getD_eq_getElem?_getD, List.getElem?_replicate]
   split <;> exact Nat.le_refl _
  ·show (List.replicate (room : Int).toNat (-1 : Int)).length = (room : Int).toNat
   simp
  ·have hn : n ∈ List.replicate (room : Int).toNat (-1 : Int) := hn
   rw [(List.mem_replicate.1 hn).2]
   show (-1 : Int) < ((0 : Nat) : Int)
   omega
  ·show List.Perm _ (thN st rr lr (room : Int).toNat (ptrs (nms ⟨st, rr, lr, ini, [], []⟩ (List.replicate (room : Int).toNat 0))) ++ (allH [] ++ ([] ++ (stS ⟨st, rr, lr, ini, [], []⟩ (room : Int).toNat ++ (vwS (room : Int).toNat [] ++ [lsB lr (room : Int).toNat [] (List.replicate (room : Int).toNat (-1))])))))
   rw [hrm]
   have e := nms_zero ⟨st, rr, lr, ini, [], []⟩
   dsimp only at e
   rw [hi] at e
   rw [e]
   have e2 : lsB lr room [] (List.replicate room (-1)) = (lr, Cont.row tTP 1 room room (List.replicate room ptr0)) := by
    unfold lsB
    rw [List.map_replicate]
    rfl
   rw [e2]
   refine List.Perm.of_eq ?_
   unfold stS vwS
   simp [allH]
theorem made4 {w : WorldD} {room : Nat} (h1 : 1 ≤ room) (h2 : room ≤ 16) (hw : newW 4 (room : Int) = some w) : DoesB Tryd.prog fMade #[.int .i64 4, .int .i64 (room : Int)] [] [] (madeQ 4 fun st o => HeapN w st [] o) := by
 have h : room = 1 ∨ room = 2 ∨ room = 3 ∨ room = 4 ∨ room = 5 ∨ room = 6 ∨ room = 7 ∨ room = 8 ∨ room = 9 ∨ room = 10 ∨ room = 11 ∨ room = 12 ∨ room = 13 ∨ room = 14 ∨ room = 15 ∨ room = 16 := by omega
 rcases h with rfl | rfl | rfl | rfl | rfl | rfl | rfl | rfl | rfl | rfl | rfl | rfl | rfl | rfl | rfl | rfl
 ·refine does_of S0_holds mixed (Sy.Ent.refl _) md4x1_run fun ns => ?_
  simp only [md4x1_R, Sy.Res.holds]
  exact md_leaf (by decide) (by decide) hw (st := (ns 4).n) (rr := (ns 2).n) (lr := (ns 3).n) (ini := [(ns 5).n]) rfl (pk := [1, 3, 0, 2]) (by decide) rfl
 ·refine does_of S0_holds mixed (Sy.Ent.refl _) md4x2_run fun ns => ?_
  simp only [md4x2_R, Sy.Res.holds]
  exact md_leaf (by decide) (by decide) hw (st := (ns 4).n) (rr := (ns 2).n) (lr := (ns 3).n) (ini := [(ns 5).n, (ns 6).n]) rfl (pk := [2, 4, 1, 0, 3]) (by decide) rfl
 ·refine does_of S0_holds mixed (Sy.Ent.refl _) md4x3_run fun ns => ?_
  simp only [md4x3_R, Sy.Res.holds]
  exact md_leaf (by decide) (by decide) hw (st := (ns 4).n) (rr := (ns 2).n) (lr := (ns 3).n) (ini := [(ns 5).n, (ns 6).n, (ns 7).n]) rfl (pk := [3, 5, 2, 1, 0, 4]) (by decide) rfl
 ·refine does_of S0_holds mixed (Sy.Ent.refl _) md4x4_run fun ns => ?_
  simp only [md4x4_R, Sy.Res.holds]
  exact md_leaf (by decide) (by decide) hw (st := (ns 4).n) (rr := (ns 2).n) (lr := (ns 3).n) (ini := [(ns 5).n, (ns 6).n, (ns 7).n, (ns 8).n]) rfl (pk := [4, 6, 3, 2, 1, 0, 5]) (by decide) rfl
 ·refine does_of S0_holds mixed (Sy.Ent.refl _) md4x5_run fun ns => ?_
  simp only [md4x5_R, Sy.Res.holds]
  exact md_leaf (by decide) (by decide) hw (st := (ns 4).n) (rr := (ns 2).n) (lr := (ns 3).n) (ini := [(ns 5).n, (ns 6).n, (ns 7).n, (ns 8).n, (ns 9).n]) rfl (pk := [5, 7, 4, 3, 2, 1, 0, 6]) (by decide) rfl
 ·refine does_of S0_holds mixed (Sy.Ent.refl _) md4x6_run fun ns => ?_
  simp only [md4x6_R, Sy.Res.holds]
  exact md_leaf (by decide) (by decide) hw (st := (ns 4).n) (rr := (ns 2).n) (lr := (ns 3).n) (ini := [(ns 5).n, (ns 6).n, (ns 7).n, (ns 8).n, (ns 9).n, (ns 10).n]) rfl (pk := [6, 8, 5, 4, 3, 2, 1, 0, 7]) (by decide) rfl
 ·refine does_of S0_holds mixed (Sy.Ent.refl _) md4x7_run fun ns => ?_
  simp only [md4x7_R, Sy.Res.holds]
  exact md_leaf (by decide) (by decide) hw (st := (ns 4).n) (rr := (ns 2).n) (lr := (ns 3).n) (ini := [(ns 5).n, (ns 6).n, (ns 7).n, (ns 8).n, (ns 9).n, (ns 10).n, (ns 11).n]) rfl (pk := [7, 9, 6, 5, 4, 3, 2, 1, 0, 8]) (by decide) rfl
 ·refine does_of S0_holds mixed (Sy.Ent.refl _) md4x8_run fun ns => ?_
  simp only [md4x8_R, Sy.Res.holds]
  exact md_leaf (by decide) (by decide) hw (st := (ns 4).n) (rr := (ns 2).n) (lr := (ns 3).n) (ini := [(ns 5).n, (ns 6).n, (ns 7).n, (ns 8).n, (ns 9).n, (ns 10).n, (ns 11).n, (ns 12).n]) rfl (pk := [8, 10, 7, 6, 5, 4, 3, 2, 1, 0, 9]) (by decide) rfl
 ·refine does_of S0_holds mixed (Sy.Ent.refl _) md4x9_run fun ns => ?_
  simp only [md4x9_R, Sy.Res.holds]
  exact md_leaf (by decide) (by decide) hw (st := (ns 4).n) (rr := (ns 2).n) (lr := (ns 3).n) (ini := [(ns 5).n, (ns 6).n, (ns 7).n, (ns 8).n, (ns 9).n, (ns 10).n, (ns 11).n, (ns 12).n, (ns 13).n]) rfl (pk := [9, 11, 8, 7, 6, 5, 4, 3, 2, 1, 0, 10]) (by decide) rfl
 ·refine does_of S0_holds mixed (Sy.Ent.refl _) md4x10_run fun ns => ?_
  simp only [md4x10_R, Sy.Res.holds]
  exact md_leaf (by decide) (by decide) hw (st := (ns 4).n) (rr := (ns 2).n) (lr := (ns 3).n) (ini := [(ns 5).n, (ns 6).n, (ns 7).n, (ns 8).n, (ns 9).n, (ns 10).n, (ns 11).n, (ns 12).n, (ns 13).n, (ns 14).n]) rfl (pk := [10, 12, 9, 8, 7, 6, 5, 4, 3, 2, 1, 0, 11]) (by decide) rfl
 ·refine does_of S0_holds mixed (Sy.Ent.refl _) md4x11_run fun ns => ?_
  simp only [md4x11_R, Sy.Res.holds]
  exact md_leaf (by decide) (by decide) hw (st := (ns 4).n) (rr := (ns 2).n) (lr := (ns 3).n) (ini := [(ns 5).n, (ns 6).n, (ns 7).n, (ns 8).n, (ns 9).n, (ns 10).n, (ns 11).n, (ns 12).n, (ns 13).n, (ns 14).n, (ns 15).n]) rfl (pk := [11, 13, 10, 9, 8, 7, 6, 5, 4, 3, 2, 1, 0, 12]) (by decide) rfl
 ·refine does_of S0_holds mixed (Sy.Ent.refl _) md4x12_run fun ns => ?_
  simp only [md4x12_R, Sy.Res.holds]
  exact md_leaf (by decide) (by decide) hw (st := (ns 4).n) (rr := (ns 2).n) (lr := (ns 3).n) (ini := [(ns 5).n, (ns 6).n, (ns 7).n, (ns 8).n, (ns 9).n, (ns 10).n, (ns 11).n, (ns 12).n, (ns 13).n, (ns 14).n, (ns 15).n, (ns 16).n]) rfl (pk := [12, 14, 11, 10, 9, 8, 7, 6, 5, 4, 3, 2, 1, 0, 13]) (by decide) rfl
 ·refine does_of S0_holds mixed (Sy.Ent.refl _) md4x13_run fun ns => ?_
  simp only [md4x13_R, Sy.Res.holds]
  exact md_leaf (by decide) (by decide) hw (st := (ns 4).n) (rr := (ns 2).n) (lr := (ns 3).n) (ini := [(ns 5).n, (ns 6).n, (ns 7).n, (ns 8).n, (ns 9).n, (ns 10).n, (ns 11).n, (ns 12).n, (ns 13).n, (ns 14).n, (ns 15).n, (ns 16).n, (ns 17).n]) rfl (pk := [13, 15, 12, 11, 10, 9, 8, 7, 6, 5, 4, 3, 2, 1, 0, 14]) (by decide) rfl
 ·refine does_of S0_holds mixed (Sy.Ent.refl _) md4x14_run fun ns => ?_
  simp only [md4x14_R, Sy.Res.holds]
  exact md_leaf (by decide) (by decide) hw (st := (ns 4).n) (rr := (ns 2).n) (lr := (ns 3).n) (ini := [(ns 5).n, (ns 6).n, (ns 7).n, (ns 8).n, (ns 9).n, (ns 10).n, (ns 11).n, (ns 12).n, (ns 13).n, (ns 14).n, (ns 15).n, (ns 16).n, (ns 17).n, (ns 18).n]) rfl (pk := [14, 16, 13, 12, 11, 10, 9, 8, 7, 6, 5, 4, 3, 2, 1, 0, 15]) (by decide) rfl
 ·refine does_of S0_holds mixed (Sy.Ent.refl _) md4x15_run fun ns => ?_
  simp only [md4x15_R, Sy.Res.holds]
  exact md_leaf (by decide) (by decide) hw (st := (ns 4).n) (rr := (ns 2).n) (lr := (ns 3).n) (ini := [(ns 5).n, (ns 6).n, (ns 7).n, (ns 8).n, (ns 9).n, (ns 10).n, (ns 11).n, (ns 12).n, (ns 13).n, (ns 14).n, (ns 15).n, (ns 16).n, (ns 17).n, (ns 18).n, (ns 19).n]) rfl (pk := [15, 17, 14, 13, 12, 11, 10, 9, 8, 7, 6, 5, 4, 3, 2, 1, 0, 16]) (by decide) rfl
 ·refine does_of S0_holds mixed (Sy.Ent.refl _) md4x16_run fun ns => ?_
  simp only [md4x16_R, Sy.Res.holds]
  exact md_leaf (by decide) (by decide) hw (st := (ns 4).n) (rr := (ns 2).n) (lr := (ns 3).n) (ini := [(ns 5).n, (ns 6).n, (ns 7).n, (ns 8).n, (ns 9).n, (ns 10).n, (ns 11).n, (ns 12).n, (ns 13).n, (ns 14).n, (ns 15).n, (ns 16).n, (ns 17).n, (ns 18).n, (ns 19).n, (ns 20).n]) rfl (pk := [16, 18, 15, 14, 13, 12, 11, 10, 9, 8, 7, 6, 5, 4, 3, 2, 1, 0, 17]) (by decide) rfl
end Go.Proofs.YtjohknpmhlildaaDoor.At
namespace Go.Proofs.YtjohknpmhlildaaDoor.Sy
open Go Go.RowKit
variable {P : Program} {S : Ctx}
def leafP (c : LoopC) (ks : List Nat) (y : Exit × Nat × List Value × List Blk) : Prop :=
 y.2.1 = c.n ∧ ∃ o ∈ c.outs, y.1 = o.2.1 ∧ ∃ ns : List Let, ns.length = c.mem.m ∧ (∃ q : List Nat, o.2.2 ns = q.filterMap fun i => (ks.zip y.2.2.1)[i]?) ∧ Ent y.2.2.2 ((o.1.nw ns ++ o.1.nb ns).map ownOf) ∧ o.1.hyp ns
theorem piece_of (hS : S.holds P) (hP : P.follows .mixedOrders = true) {n : Nat} {fn : FuncId} {c : LoopC} (ks : List Nat) {L : List Blk} (hm : c.ok → Ent (blks c.mem) L)
  {o : O} {R : (Nat → Value) → (Nat → Let) → Res (Exit × Nat × List Value × List Blk)} (h : ∀ f, Ran (pieceT P S n fn c.c c.n c.sl ((List.range c.n).map f) L ks) o (R f))
  (hQ : c.ok → ∀ f ns, (R f ns).holds (leafP c ks)) : MeetsL P c := by
 intro hok a W hk hpre
 have hrm : ∀ (xs : List Value) (n : Nat), xs.length = n → (List.range n).map (fun j => xs.getD j undef) = xs := fun xs n h => by
  apply List.ext_getElem?
  intro i
  rw [List.getElem?_map]
  by_cases hi : i < n
  ·rw [List.getElem?_range hi, List.getElem?_eq_getElem (by omega)]
   simp [List.getD_eq_getElem?_getD, List.getElem?_eq_getElem (show i < xs.length by omega)]
  ·rw [List.getElem?_eq_none (by simpa using Nat.le_of_not_lt hi), List.getElem?_eq_none (by omega)]
   rfl
 have hran := h (fun j => a.tmps.toList.getD j undef)
 rw [hrm a.tmps.toList c.n (by rw [Array.length_toList]; exact hk.size)] at hran
 refine wp_of hS hP hran hk (hm hok _ _ _ (rep_of_pre hpre)) fun ns => Res.holds_mono (fun y hy a' W2 hx hK' hR' => ?_) _ (hQ hok (fun j => a.tmps.toList.getD j undef) ns)
 obtain ⟨hn, o, ho, he, ns', g1, ⟨q, g2⟩, g3, g5⟩ := hy
 refine ⟨o, ho, he, hx, ns', ?_, post_of_ent (g3 _ _ _ hR') g1 g5⟩
 rw [hn] at hK'
 refine Known.sub hK' fun p hp => ?_
 rw [g2] at hp
 obtain ⟨i, -, hi⟩ := List.mem_filterMap.1 hp
 exact List.mem_of_getElem? hi
def regsOf : Code → List (Nat × Code)
 | .region id ops d => [(id, .region id ops d)]
 | .seq a b => regsOf a ++ regsOf b
 | .cond _ a b => regsOf a ++ regsOf b
 | .block _ a => regsOf a
 | .scope a => regsOf a
 | .loop a => regsOf a
 | _ => []
def regOf (f : Func) (id : Nat) : Code := match f.body with
 | some c => match (regsOf c).find? (fun p => Nat.beq p.1 id) with
   | some p => p.2
   | none => .skip
 | none => .skip
def withRg (S : Ctx) (l : List (FuncId × Nat × (F → List Blk → LoopC))) : Ctx := { S with rg := fun f n => pickF n (pickF f l) }
theorem withRg_holds (hS : S.holds P) {l : List (FuncId × Nat × (F → List Blk → LoopC))} (h : ∀ p ∈ l, ∀ a L, MeetsL P (p.2.2 a L)) : (withRg S l).holds P := by
 refine ⟨hS.cl, hS.lp, fun f n c hc a L => ?_, hS.op, hS.cu, hS.lu⟩
 obtain ⟨p, hp, rfl⟩ := pickF_mem hc
 obtain ⟨q, hq, rfl⟩ := pickF_mem hp
 exact h q hq a L
end Go.Proofs.YtjohknpmhlildaaDoor.Sy
--@way 3
--@tail 0
namespace Go.Proofs.YtjohknpmhlildaaDoor.At
open Sy.O (fork nil step steps)
open Sy.Res (need hyp br leaf both)
open Go Go.RowKit
open Go.Proofs.YtjohknpmhlildaaDoor.Sy (Let Blk Cont Bun ptr ptr0 bx tkB tkU clo)
abbrev fUpd : FuncId := 39
def regU : Code := Sy.regOf Tryd.f39 1
def rg0_o : Sy.O := (steps [3, 0, 0, 1, 0, 1, 2, 3] (fork (steps [4, 0, 5, 0, 6, 0, 7, 0, 8, 0, 9, 0, 10, 11, 12, 0, 13, 0, 14, 0, 15, 0, 16, 0, 17, 0, 18, 0, 19, 0, 20, 0, 21, 22, 23, 24, 25, 26, 27, 34, 1, 1, 0, 0, 29, 30, 0, 31] nil) (steps [0, 1, 0, 4, 0, 0, 0, 0, 5, 0, 6, 0, 7, 0, 0, 2, 0, 8, 0, 0, 9, 0, 10, 11, 12] (fork (steps [13, 0, 14, 0, 15, 0, 16, 0, 17, 0, 18, 0, 19, 0, 20, 0, 21, 22, 23, 24, 25, 26, 27, 34, 1, 1, 0, 0, 29, 30, 0, 31] nil) (steps [0, 0, 0, 13, 0, 14, 0, 15, 0, 0, 2, 0, 16, 0, 0, 1, 0, 17, 0, 0, 1, 18, 0, 0, 3, 0, 19, 0, 20, 0, 21, 0, 22, 0, 23, 0, 24, 0, 25, 0, 26, 0, 27, 0, 34, 0, 1, 1, 0, 0, 29, 0, 30, 0, 31] nil)))))
noncomputable def rg0_R (sb ib vb st rr lr room : Nat) (i : Int) (TL : List Blk) (f : Nat → Value) (ns : Nat → Sy.Let) : Sy.Res (Exit × Nat × List Value × List Blk) :=
 let z0 := some (Addr.mk sb 0 none)
 let z1 := some (Addr.mk ib 0 none)
 let z2 := some (Addr.mk vb 0 none)
 let z3 := Cont.obj (Obj.cells (Array.mk [.pointer (some ⟨st, 0, none⟩)]) 28)
 let z4 := Cont.obj (Obj.cells (Array.mk [.int .i64 i]) 3)
 let z5 := Cont.obj (Obj.cells (Array.mk [.slice (some ⟨rr, 0, none⟩) room room, .slice (some ⟨lr, 0, none⟩) room room]) 132)
 let z6 := Cont.seg (0 + Int.toNat i * 1) [Value.pointer none]
 let z7 := leaf (Exit.normal, 52, [Value.pointer z0, Value.pointer z1, Value.pointer z2, Value.bool true], Blk.mk sb z3 false :: Blk.mk ib z4 false :: Blk.mk st z5 false :: Blk.mk lr z6 false :: TL)
 br (Ex.ltQ i 0) z7 (br (bif false then true else Ex.leQ (Int.ofNat room) i) z7 (need (0 ≤ i ∧ i < (↑room : Int)) (leaf (Exit.normal, 52, [Value.pointer z0, Value.pointer z1, Value.pointer z2, Value.bool false], Blk.mk sb z3 false :: Blk.mk ib z4 false :: Blk.mk st z5 false :: Blk.mk lr z6 false :: TL))))
theorem rg0_run (sb ib vb st rr lr room : Nat) (i : Int) (TL : List Blk) (f : Nat → Value) : Sy.Ran (Sy.pieceT Tryd.prog Sy.S0 50 fUpd regU 52 [(3, ptr sb), (4, ptr ib), (5, ptr vb)] ((List.range 52).map f) (⟨sb, (bx sb tSnP (ptr st)).2, false⟩ :: ⟨ib, (bx ib tI (.int .i64 i)).2, false⟩ :: ⟨st, (snB st rr lr room).2, false⟩ :: ⟨lr, .seg (0 + Int.toNat i * 1) [ptr0], false⟩ :: TL) [3, 4, 5, 40]) rg0_o (rg0_R sb ib vb st rr lr room i TL f) := ⟨fun _ => by kernel_rfl, fun _ => by kernel_rfl⟩
def rgD_o : Sy.O := (steps [3, 0, 0, 1, 0, 1, 2, 3] (fork (steps [4, 0, 5, 0, 6, 0, 7, 0, 8, 0, 9, 0, 10, 11, 12, 0, 13, 0, 14, 0, 15, 0, 16, 0, 17, 0, 18, 0, 19, 0, 20, 0, 21, 22, 23, 24, 25, 26, 27, 34, 1, 1, 0, 0, 29, 30, 0, 31] nil) (steps [0, 1, 0, 4, 0, 0, 0, 0, 5, 0, 6, 0, 7, 0, 0, 2, 0, 8, 0, 0, 9, 0, 10, 11, 12] (fork (steps [13, 0, 14, 0, 15, 0, 16, 0, 17, 0, 18, 0, 19, 0, 20, 0, 21, 22, 23, 24, 25, 26, 27, 34, 1, 1, 0, 0, 29, 30, 0, 31] nil) (steps [0, 0, 0, 13, 0, 14, 0, 15, 0, 0, 2, 0, 16, 0, 0, 1, 0, 17, 0, 0, 1, 18, 0, 0, 3, 0, 19, 0, 20, 0, 21, 0, 0, 0, 0, 22, 0, 23, 0, 24, 0, 0, 2, 0, 25, 0, 0, 1, 0, 26, 0, 0, 1, 27, 0, 0, 3, 0, 34, 0] (steps [4, 1, 1, 0, 0, 29, 0, 30, 0, 31] nil))))))
noncomputable def rgD_R (sb ib vb st rr lr room q : Nat) (nx vw : Value) (n v : Int) (ok : Bool) (i : Int) (TL : List Blk) (f : Nat → Value) (ns : Nat → Sy.Let) : Sy.Res (Exit × Nat × List Value × List Blk) :=
 let z0 := some (Addr.mk sb 0 none)
 let z1 := some (Addr.mk ib 0 none)
 let z2 := some (Addr.mk vb 0 none)
 let z3 := Cont.obj (Obj.cells (Array.mk [.pointer (some ⟨st, 0, none⟩)]) 28)
 let z4 := Cont.obj (Obj.cells (Array.mk [.int .i64 i]) 3)
 let z5 := Cont.obj (Obj.cells (Array.mk [.slice (some ⟨rr, 0, none⟩) room room, .slice (some ⟨lr, 0, none⟩) room room]) 132)
 let z6 := Cont.seg (0 + Int.toNat i * 1) [Value.pointer (some ⟨q, 0, none⟩)]
 let z7 := Cont.obj (Obj.cells (Array.mk [nx, .int .u32 1, .int .i64 n, .int .u64 v, .bool ok, vw]) 100)
 let z8 := leaf (Exit.normal, 52, [Value.pointer z0, Value.pointer z1, Value.pointer z2, Value.bool true], Blk.mk sb z3 false :: Blk.mk ib z4 false :: Blk.mk st z5 false :: Blk.mk lr z6 false :: Blk.mk q z7 false :: TL)
 let z9 := 0 ≤ i ∧ i < (↑room : Int)
 br (Ex.ltQ i 0) z8 (br (bif false then true else Ex.leQ (Int.ofNat room) i) z8 (need z9 (need z9 (leaf (Exit.normal, 52, [Value.pointer z0, Value.pointer z1, Value.pointer z2, Value.bool false], Blk.mk sb z3 false :: Blk.mk ib z4 false :: Blk.mk st z5 false :: Blk.mk lr z6 false :: Blk.mk q z7 false :: TL)))))
theorem rgD_run (sb ib vb st rr lr room q : Nat) (nx vw : Value) (n v : Int) (ok : Bool) (i : Int) (TL : List Blk) (f : Nat → Value) : Sy.Ran (Sy.pieceT Tryd.prog Sy.S0 50 fUpd regU 52 [(3, ptr sb), (4, ptr ib), (5, ptr vb)] ((List.range 52).map f) (⟨sb, (bx sb tSnP (ptr st)).2, false⟩ :: ⟨ib, (bx ib tI (.int .i64 i)).2, false⟩ :: ⟨st, (snB st rr lr room).2, false⟩ :: ⟨lr, .seg (0 + Int.toNat i * 1) [ptr q], false⟩ :: ⟨q, (tkB q nx 1 n v ok vw).2, false⟩ :: TL) [3, 4, 5, 40]) rgD_o (rgD_R sb ib vb st rr lr room q nx vw n v ok i TL f) := ⟨fun _ => by kernel_rfl, fun _ => by kernel_rfl⟩
def rgU_o : Sy.O := (steps [3, 0, 0, 1, 0, 1, 2, 3] (fork (steps [4, 0, 5, 0, 6, 0, 7, 0, 8, 0, 9, 0, 10, 11, 12, 0, 13, 0, 14, 0, 15, 0, 16, 0, 17, 0, 18, 0, 19, 0, 20, 0, 21, 22, 23, 24, 25, 26, 27, 34, 1, 1, 0, 0, 29, 30, 0, 31] nil) (steps [0, 1, 0, 4, 0, 0, 0, 0, 5, 0, 6, 0, 7, 0, 0, 2, 0, 8, 0, 0, 9, 0, 10, 11, 12] (fork (steps [13, 0, 14, 0, 15, 0, 16, 0, 17, 0, 18, 0, 19, 0, 20, 0, 21, 22, 23, 24, 25, 26, 27, 34, 1, 1, 0, 0, 29, 30, 0, 31] nil) (steps [0, 0, 0, 13, 0, 14, 0, 15, 0, 0, 2, 0, 16, 0, 0, 1, 0, 17, 0, 0, 1, 18, 0, 0, 3, 0, 19, 0, 20, 0, 21, 0, 0, 0, 0, 22, 0, 23, 0, 24, 0, 0, 2, 0, 25, 0, 0, 1, 0, 26, 0, 0, 1, 27, 0, 0, 3, 0, 34, 0] (steps [4, 1, 1, 0, 0, 29, 0, 30, 0, 31] nil))))))
noncomputable def rgU_R (sb ib vb st rr lr room q : Nat) (nx vw : Value) (n v : Int) (ok : Bool) (i : Int) (TL : List Blk) (f : Nat → Value) (ns : Nat → Sy.Let) : Sy.Res (Exit × Nat × List Value × List Blk) :=
 let z0 := leaf (Exit.normal, 52, [Value.pointer (some ⟨sb, 0, none⟩), Value.pointer (some ⟨ib, 0, none⟩), Value.pointer (some ⟨vb, 0, none⟩), Value.bool true], Blk.mk sb (Cont.obj (Obj.cells (Array.mk [.pointer (some ⟨st, 0, none⟩)]) 28)) false :: Blk.mk ib (Cont.obj (Obj.cells (Array.mk [.int .i64 i]) 3)) false :: Blk.mk st (Cont.obj (Obj.cells (Array.mk [.slice (some ⟨rr, 0, none⟩) room room, .slice (some ⟨lr, 0, none⟩) room room]) 132)) false :: Blk.mk lr (Cont.seg (0 + Int.toNat i * 1) [Value.pointer (some ⟨q, 0, none⟩)]) false :: Blk.mk q (Cont.obj (Obj.cells (Array.mk [nx, .int .u32 0, .int .i64 n, .int .u64 v, .bool ok, vw]) 100)) false :: TL)
 let z1 := 0 ≤ i ∧ i < (↑room : Int)
 br (Ex.ltQ i 0) z0 (br (bif false then true else Ex.leQ (Int.ofNat room) i) z0 (need z1 (need z1 z0)))
theorem rgU_run (sb ib vb st rr lr room q : Nat) (nx vw : Value) (n v : Int) (ok : Bool) (i : Int) (TL : List Blk) (f : Nat → Value) : Sy.Ran (Sy.pieceT Tryd.prog Sy.S0 50 fUpd regU 52 [(3, ptr sb), (4, ptr ib), (5, ptr vb)] ((List.range 52).map f) (⟨sb, (bx sb tSnP (ptr st)).2, false⟩ :: ⟨ib, (bx ib tI (.int .i64 i)).2, false⟩ :: ⟨st, (snB st rr lr room).2, false⟩ :: ⟨lr, .seg (0 + Int.toNat i * 1) [ptr q], false⟩ :: ⟨q, (tkB q nx 0 n v ok vw).2, false⟩ :: TL) [3, 4, 5, 40]) rgU_o (rgU_R sb ib vb st rr lr room q nx vw n v ok i TL f) := ⟨fun _ => by kernel_rfl, fun _ => by kernel_rfl⟩
end Go.Proofs.YtjohknpmhlildaaDoor.At
--@way 3
--@tail 0
namespace Go.Proofs.YtjohknpmhlildaaDoor.At
open Sy.O (fork nil step steps)
open Sy.Res (need hyp br leaf both)
open Go Go.RowKit
open Go.Proofs.YtjohknpmhlildaaDoor.Sy (Let Blk Cont Bun ptr ptr0 bx tkB tkU clo)
def upM_o : Sy.O := (steps [3, 0, 0, 1, 0, 1, 2, 3, 0, 4, 0, 5, 0, 6, 0, 7, 0, 8, 0, 9, 0, 10, 11, 12, 0, 13, 0, 14, 0, 15, 0, 16, 0, 17, 0, 18, 0, 19, 0, 20, 0, 21, 22, 23, 24, 25, 26, 27, 34, 1, 1, 0, 0, 29, 30, 0, 31, 0] nil)
noncomputable def upM_R (st rr lr room k : Nat) (v : Int) (TL : List Blk) (ns : Nat → Sy.Let) : Sy.Res (Value × List Blk) :=
 leaf (Value.tuple (Array.mk [.pointer none, .int .i64 1]), Blk.mk (ns 2).n (Cont.obj (Obj.cells (Array.mk [.int .u64 v]) 36)) true :: Blk.mk (ns 1).n (Cont.obj (Obj.cells (Array.mk [.int .i64 (Int.negSucc k)]) 3)) true :: Blk.mk (ns 0).n (Cont.obj (Obj.cells (Array.mk [.pointer (some ⟨st, 0, none⟩)]) 28)) true :: Blk.mk st (Cont.obj (Obj.cells (Array.mk [.slice (some ⟨rr, 0, none⟩) room room, .slice (some ⟨lr, 0, none⟩) room room]) 132)) false :: TL)
theorem upM_run (st rr lr room k : Nat) (v : Int) (TL : List Blk) : Sy.Ran (Sy.inB Tryd.prog Sy.S0 50 fUpd #[ptr st, .int .i64 (Int.negSucc k), .int .u64 v] (⟨st, (snB st rr lr room).2, false⟩ :: TL)) upM_o (upM_R st rr lr room k v TL) := ⟨fun _ => by kernel_rfl, fun _ => by kernel_rfl⟩
def upG1_o : Sy.O := (steps [3, 0, 0, 1, 0, 1, 2, 3, 0, 0, 1, 0, 4, 0, 0, 2, 0, 5, 0, 6, 0, 7, 0, 0, 3, 0, 8, 0, 0, 9, 0, 10, 11, 12, 0, 13, 0, 14, 0, 15, 0, 16, 0, 17, 0, 18, 0, 19, 0, 20, 0, 21, 22, 23, 24, 25, 26, 27, 34, 1] (steps [1, 0, 0, 29, 30, 0, 31, 0] nil))
noncomputable def upG1_R (st rr lr k : Nat) (v : Int) (TL : List Blk) (ns : Nat → Sy.Let) : Sy.Res (Value × List Blk) :=
 leaf (Value.tuple (Array.mk [.pointer none, .int .i64 1]), Blk.mk (ns 2).n (Cont.obj (Obj.cells (Array.mk [.int .u64 v]) 36)) true :: Blk.mk (ns 1).n (Cont.obj (Obj.cells (Array.mk [.int .i64 (Int.ofNat (k + 1))]) 3)) true :: Blk.mk (ns 0).n (Cont.obj (Obj.cells (Array.mk [.pointer (some ⟨st, 0, none⟩)]) 28)) true :: Blk.mk st (Cont.obj (Obj.cells (Array.mk [.slice (some ⟨rr, 0, none⟩) 1 1, .slice (some ⟨lr, 0, none⟩) 1 1]) 132)) false :: TL)
theorem upG1_run (st rr lr k : Nat) (v : Int) (TL : List Blk) : Sy.Ran (Sy.inB Tryd.prog Sy.S0 50 fUpd #[ptr st, .int .i64 (Int.ofNat (k + 1)), .int .u64 v] (⟨st, (snB st rr lr 1).2, false⟩ :: TL)) upG1_o (upG1_R st rr lr k v TL) := ⟨fun _ => by kernel_rfl, fun _ => by kernel_rfl⟩
def upG2_o : Sy.O := (steps [3, 0, 0, 1, 0, 1, 2, 3, 0, 0, 1, 0, 4, 0, 0, 2, 0, 5, 0, 6, 0, 7, 0, 0, 3, 0, 8, 0, 0, 9, 0, 10, 11, 12, 0, 13, 0, 14, 0, 15, 0, 16, 0, 17, 0, 18, 0, 19, 0, 20, 0, 21, 22, 23, 24, 25, 26, 27, 34, 1] (steps [1, 0, 0, 29, 30, 0, 31, 0] nil))
noncomputable def upG2_R (st rr lr k : Nat) (v : Int) (TL : List Blk) (ns : Nat → Sy.Let) : Sy.Res (Value × List Blk) :=
 leaf (Value.tuple (Array.mk [.pointer none, .int .i64 1]), Blk.mk (ns 2).n (Cont.obj (Obj.cells (Array.mk [.int .u64 v]) 36)) true :: Blk.mk (ns 1).n (Cont.obj (Obj.cells (Array.mk [.int .i64 (Int.ofNat (k + 2))]) 3)) true :: Blk.mk (ns 0).n (Cont.obj (Obj.cells (Array.mk [.pointer (some ⟨st, 0, none⟩)]) 28)) true :: Blk.mk st (Cont.obj (Obj.cells (Array.mk [.slice (some ⟨rr, 0, none⟩) 2 2, .slice (some ⟨lr, 0, none⟩) 2 2]) 132)) false :: TL)
theorem upG2_run (st rr lr k : Nat) (v : Int) (TL : List Blk) : Sy.Ran (Sy.inB Tryd.prog Sy.S0 50 fUpd #[ptr st, .int .i64 (Int.ofNat (k + 2)), .int .u64 v] (⟨st, (snB st rr lr 2).2, false⟩ :: TL)) upG2_o (upG2_R st rr lr k v TL) := ⟨fun _ => by kernel_rfl, fun _ => by kernel_rfl⟩
def upG3_o : Sy.O := (steps [3, 0, 0, 1, 0, 1, 2, 3, 0, 0, 1, 0, 4, 0, 0, 2, 0, 5, 0, 6, 0, 7, 0, 0, 3, 0, 8, 0, 0, 9, 0, 10, 11, 12, 0, 13, 0, 14, 0, 15, 0, 16, 0, 17, 0, 18, 0, 19, 0, 20, 0, 21, 22, 23, 24, 25, 26, 27, 34, 1] (steps [1, 0, 0, 29, 30, 0, 31, 0] nil))
noncomputable def upG3_R (st rr lr k : Nat) (v : Int) (TL : List Blk) (ns : Nat → Sy.Let) : Sy.Res (Value × List Blk) :=
 leaf (Value.tuple (Array.mk [.pointer none, .int .i64 1]), Blk.mk (ns 2).n (Cont.obj (Obj.cells (Array.mk [.int .u64 v]) 36)) true :: Blk.mk (ns 1).n (Cont.obj (Obj.cells (Array.mk [.int .i64 (Int.ofNat (k + 3))]) 3)) true :: Blk.mk (ns 0).n (Cont.obj (Obj.cells (Array.mk [.pointer (some ⟨st, 0, none⟩)]) 28)) true :: Blk.mk st (Cont.obj (Obj.cells (Array.mk [.slice (some ⟨rr, 0, none⟩) 3 3, .slice (some ⟨lr, 0, none⟩) 3 3]) 132)) false :: TL)
theorem upG3_run (st rr lr k : Nat) (v : Int) (TL : List Blk) : Sy.Ran (Sy.inB Tryd.prog Sy.S0 50 fUpd #[ptr st, .int .i64 (Int.ofNat (k + 3)), .int .u64 v] (⟨st, (snB st rr lr 3).2, false⟩ :: TL)) upG3_o (upG3_R st rr lr k v TL) := ⟨fun _ => by kernel_rfl, fun _ => by kernel_rfl⟩
def upG4_o : Sy.O := (steps [3, 0, 0, 1, 0, 1, 2, 3, 0, 0, 1, 0, 4, 0, 0, 2, 0, 5, 0, 6, 0, 7, 0, 0, 3, 0, 8, 0, 0, 9, 0, 10, 11, 12, 0, 13, 0, 14, 0, 15, 0, 16, 0, 17, 0, 18, 0, 19, 0, 20, 0, 21, 22, 23, 24, 25, 26, 27, 34, 1] (steps [1, 0, 0, 29, 30, 0, 31, 0] nil))
noncomputable def upG4_R (st rr lr k : Nat) (v : Int) (TL : List Blk) (ns : Nat → Sy.Let) : Sy.Res (Value × List Blk) :=
 leaf (Value.tuple (Array.mk [.pointer none, .int .i64 1]), Blk.mk (ns 2).n (Cont.obj (Obj.cells (Array.mk [.int .u64 v]) 36)) true :: Blk.mk (ns 1).n (Cont.obj (Obj.cells (Array.mk [.int .i64 (Int.ofNat (k + 4))]) 3)) true :: Blk.mk (ns 0).n (Cont.obj (Obj.cells (Array.mk [.pointer (some ⟨st, 0, none⟩)]) 28)) true :: Blk.mk st (Cont.obj (Obj.cells (Array.mk [.slice (some ⟨rr, 0, none⟩) 4 4, .slice (some ⟨lr, 0, none⟩) 4 4]) 132)) false :: TL)
theorem upG4_run (st rr lr k : Nat) (v : Int) (TL : List Blk) : Sy.Ran (Sy.inB Tryd.prog Sy.S0 50 fUpd #[ptr st, .int .i64 (Int.ofNat (k + 4)), .int .u64 v] (⟨st, (snB st rr lr 4).2, false⟩ :: TL)) upG4_o (upG4_R st rr lr k v TL) := ⟨fun _ => by kernel_rfl, fun _ => by kernel_rfl⟩
def upG5_o : Sy.O := (steps [3, 0, 0, 1, 0, 1, 2, 3, 0, 0, 1, 0, 4, 0, 0, 2, 0, 5, 0, 6, 0, 7, 0, 0, 3, 0, 8, 0, 0, 9, 0, 10, 11, 12, 0, 13, 0, 14, 0, 15, 0, 16, 0, 17, 0, 18, 0, 19, 0, 20, 0, 21, 22, 23, 24, 25, 26, 27, 34, 1] (steps [1, 0, 0, 29, 30, 0, 31, 0] nil))
noncomputable def upG5_R (st rr lr k : Nat) (v : Int) (TL : List Blk) (ns : Nat → Sy.Let) : Sy.Res (Value × List Blk) :=
 leaf (Value.tuple (Array.mk [.pointer none, .int .i64 1]), Blk.mk (ns 2).n (Cont.obj (Obj.cells (Array.mk [.int .u64 v]) 36)) true :: Blk.mk (ns 1).n (Cont.obj (Obj.cells (Array.mk [.int .i64 (Int.ofNat (k + 5))]) 3)) true :: Blk.mk (ns 0).n (Cont.obj (Obj.cells (Array.mk [.pointer (some ⟨st, 0, none⟩)]) 28)) true :: Blk.mk st (Cont.obj (Obj.cells (Array.mk [.slice (some ⟨rr, 0, none⟩) 5 5, .slice (some ⟨lr, 0, none⟩) 5 5]) 132)) false :: TL)
theorem upG5_run (st rr lr k : Nat) (v : Int) (TL : List Blk) : Sy.Ran (Sy.inB Tryd.prog Sy.S0 50 fUpd #[ptr st, .int .i64 (Int.ofNat (k + 5)), .int .u64 v] (⟨st, (snB st rr lr 5).2, false⟩ :: TL)) upG5_o (upG5_R st rr lr k v TL) := ⟨fun _ => by kernel_rfl, fun _ => by kernel_rfl⟩
def upG6_o : Sy.O := (steps [3, 0, 0, 1, 0, 1, 2, 3, 0, 0, 1, 0, 4, 0, 0, 2, 0, 5, 0, 6, 0, 7, 0, 0, 3, 0, 8, 0, 0, 9, 0, 10, 11, 12, 0, 13, 0, 14, 0, 15, 0, 16, 0, 17, 0, 18, 0, 19, 0, 20, 0, 21, 22, 23, 24, 25, 26, 27, 34, 1] (steps [1, 0, 0, 29, 30, 0, 31, 0] nil))
noncomputable def upG6_R (st rr lr k : Nat) (v : Int) (TL : List Blk) (ns : Nat → Sy.Let) : Sy.Res (Value × List Blk) :=
 leaf (Value.tuple (Array.mk [.pointer none, .int .i64 1]), Blk.mk (ns 2).n (Cont.obj (Obj.cells (Array.mk [.int .u64 v]) 36)) true :: Blk.mk (ns 1).n (Cont.obj (Obj.cells (Array.mk [.int .i64 (Int.ofNat (k + 6))]) 3)) true :: Blk.mk (ns 0).n (Cont.obj (Obj.cells (Array.mk [.pointer (some ⟨st, 0, none⟩)]) 28)) true :: Blk.mk st (Cont.obj (Obj.cells (Array.mk [.slice (some ⟨rr, 0, none⟩) 6 6, .slice (some ⟨lr, 0, none⟩) 6 6]) 132)) false :: TL)
theorem upG6_run (st rr lr k : Nat) (v : Int) (TL : List Blk) : Sy.Ran (Sy.inB Tryd.prog Sy.S0 50 fUpd #[ptr st, .int .i64 (Int.ofNat (k + 6)), .int .u64 v] (⟨st, (snB st rr lr 6).2, false⟩ :: TL)) upG6_o (upG6_R st rr lr k v TL) := ⟨fun _ => by kernel_rfl, fun _ => by kernel_rfl⟩
def upG7_o : Sy.O := (steps [3, 0, 0, 1, 0, 1, 2, 3, 0, 0, 1, 0, 4, 0, 0, 2, 0, 5, 0, 6, 0, 7, 0, 0, 3, 0, 8, 0, 0, 9, 0, 10, 11, 12, 0, 13, 0, 14, 0, 15, 0, 16, 0, 17, 0, 18, 0, 19, 0, 20, 0, 21, 22, 23, 24, 25, 26, 27, 34, 1] (steps [1, 0, 0, 29, 30, 0, 31, 0] nil))
noncomputable def upG7_R (st rr lr k : Nat) (v : Int) (TL : List Blk) (ns : Nat → Sy.Let) : Sy.Res (Value × List Blk) :=
 leaf (Value.tuple (Array.mk [.pointer none, .int .i64 1]), Blk.mk (ns 2).n (Cont.obj (Obj.cells (Array.mk [.int .u64 v]) 36)) true :: Blk.mk (ns 1).n (Cont.obj (Obj.cells (Array.mk [.int .i64 (Int.ofNat (k + 7))]) 3)) true :: Blk.mk (ns 0).n (Cont.obj (Obj.cells (Array.mk [.pointer (some ⟨st, 0, none⟩)]) 28)) true :: Blk.mk st (Cont.obj (Obj.cells (Array.mk [.slice (some ⟨rr, 0, none⟩) 7 7, .slice (some ⟨lr, 0, none⟩) 7 7]) 132)) false :: TL)
theorem upG7_run (st rr lr k : Nat) (v : Int) (TL : List Blk) : Sy.Ran (Sy.inB Tryd.prog Sy.S0 50 fUpd #[ptr st, .int .i64 (Int.ofNat (k + 7)), .int .u64 v] (⟨st, (snB st rr lr 7).2, false⟩ :: TL)) upG7_o (upG7_R st rr lr k v TL) := ⟨fun _ => by kernel_rfl, fun _ => by kernel_rfl⟩
def upG8_o : Sy.O := (steps [3, 0, 0, 1, 0, 1, 2, 3, 0, 0, 1, 0, 4, 0, 0, 2, 0, 5, 0, 6, 0, 7, 0, 0, 3, 0, 8, 0, 0, 9, 0, 10, 11, 12, 0, 13, 0, 14, 0, 15, 0, 16, 0, 17, 0, 18, 0, 19, 0, 20, 0, 21, 22, 23, 24, 25, 26, 27, 34, 1] (steps [1, 0, 0, 29, 30, 0, 31, 0] nil))
noncomputable def upG8_R (st rr lr k : Nat) (v : Int) (TL : List Blk) (ns : Nat → Sy.Let) : Sy.Res (Value × List Blk) :=
 leaf (Value.tuple (Array.mk [.pointer none, .int .i64 1]), Blk.mk (ns 2).n (Cont.obj (Obj.cells (Array.mk [.int .u64 v]) 36)) true :: Blk.mk (ns 1).n (Cont.obj (Obj.cells (Array.mk [.int .i64 (Int.ofNat (k + 8))]) 3)) true :: Blk.mk (ns 0).n (Cont.obj (Obj.cells (Array.mk [.pointer (some ⟨st, 0, none⟩)]) 28)) true :: Blk.mk st (Cont.obj (Obj.cells (Array.mk [.slice (some ⟨rr, 0, none⟩) 8 8, .slice (some ⟨lr, 0, none⟩) 8 8]) 132)) false :: TL)
theorem upG8_run (st rr lr k : Nat) (v : Int) (TL : List Blk) : Sy.Ran (Sy.inB Tryd.prog Sy.S0 50 fUpd #[ptr st, .int .i64 (Int.ofNat (k + 8)), .int .u64 v] (⟨st, (snB st rr lr 8).2, false⟩ :: TL)) upG8_o (upG8_R st rr lr k v TL) := ⟨fun _ => by kernel_rfl, fun _ => by kernel_rfl⟩
def upG9_o : Sy.O := (steps [3, 0, 0, 1, 0, 1, 2, 3, 0, 0, 1, 0, 4, 0, 0, 2, 0, 5, 0, 6, 0, 7, 0, 0, 3, 0, 8, 0, 0, 9, 0, 10, 11, 12, 0, 13, 0, 14, 0, 15, 0, 16, 0, 17, 0, 18, 0, 19, 0, 20, 0, 21, 22, 23, 24, 25, 26, 27, 34, 1] (steps [1, 0, 0, 29, 30, 0, 31, 0] nil))
noncomputable def upG9_R (st rr lr k : Nat) (v : Int) (TL : List Blk) (ns : Nat → Sy.Let) : Sy.Res (Value × List Blk) :=
 leaf (Value.tuple (Array.mk [.pointer none, .int .i64 1]), Blk.mk (ns 2).n (Cont.obj (Obj.cells (Array.mk [.int .u64 v]) 36)) true :: Blk.mk (ns 1).n (Cont.obj (Obj.cells (Array.mk [.int .i64 (Int.ofNat (k + 9))]) 3)) true :: Blk.mk (ns 0).n (Cont.obj (Obj.cells (Array.mk [.pointer (some ⟨st, 0, none⟩)]) 28)) true :: Blk.mk st (Cont.obj (Obj.cells (Array.mk [.slice (some ⟨rr, 0, none⟩) 9 9, .slice (some ⟨lr, 0, none⟩) 9 9]) 132)) false :: TL)
theorem upG9_run (st rr lr k : Nat) (v : Int) (TL : List Blk) : Sy.Ran (Sy.inB Tryd.prog Sy.S0 50 fUpd #[ptr st, .int .i64 (Int.ofNat (k + 9)), .int .u64 v] (⟨st, (snB st rr lr 9).2, false⟩ :: TL)) upG9_o (upG9_R st rr lr k v TL) := ⟨fun _ => by kernel_rfl, fun _ => by kernel_rfl⟩
def upG10_o : Sy.O := (steps [3, 0, 0, 1, 0, 1, 2, 3, 0, 0, 1, 0, 4, 0, 0, 2, 0, 5, 0, 6, 0, 7, 0, 0, 3, 0, 8, 0, 0, 9, 0, 10, 11, 12, 0, 13, 0, 14, 0, 15, 0, 16, 0, 17, 0, 18, 0, 19, 0, 20, 0, 21, 22, 23, 24, 25, 26, 27, 34, 1] (steps [1, 0, 0, 29, 30, 0, 31, 0] nil))
noncomputable def upG10_R (st rr lr k : Nat) (v : Int) (TL : List Blk) (ns : Nat → Sy.Let) : Sy.Res (Value × List Blk) :=
 leaf (Value.tuple (Array.mk [.pointer none, .int .i64 1]), Blk.mk (ns 2).n (Cont.obj (Obj.cells (Array.mk [.int .u64 v]) 36)) true :: Blk.mk (ns 1).n (Cont.obj (Obj.cells (Array.mk [.int .i64 (Int.ofNat (k + 10))]) 3)) true :: Blk.mk (ns 0).n (Cont.obj (Obj.cells (Array.mk [.pointer (some ⟨st, 0, none⟩)]) 28)) true :: Blk.mk st (Cont.obj (Obj.cells (Array.mk [.slice (some ⟨rr, 0, none⟩) 10 10, .slice (some ⟨lr, 0, none⟩) 10 10]) 132)) false :: TL)
theorem upG10_run (st rr lr k : Nat) (v : Int) (TL : List Blk) : Sy.Ran (Sy.inB Tryd.prog Sy.S0 50 fUpd #[ptr st, .int .i64 (Int.ofNat (k + 10)), .int .u64 v] (⟨st, (snB st rr lr 10).2, false⟩ :: TL)) upG10_o (upG10_R st rr lr k v TL) := ⟨fun _ => by kernel_rfl, fun _ => by kernel_rfl⟩
def upG11_o : Sy.O := (steps [3, 0, 0, 1, 0, 1, 2, 3, 0, 0, 1, 0, 4, 0, 0, 2, 0, 5, 0, 6, 0, 7, 0, 0, 3, 0, 8, 0, 0, 9, 0, 10, 11, 12, 0, 13, 0, 14, 0, 15, 0, 16, 0, 17, 0, 18, 0, 19, 0, 20, 0, 21, 22, 23, 24, 25, 26, 27, 34, 1] (steps [1, 0, 0, 29, 30, 0, 31, 0] nil))
noncomputable def upG11_R (st rr lr k : Nat) (v : Int) (TL : List Blk) (ns : Nat → Sy.Let) : Sy.Res (Value × List Blk) :=
 leaf (Value.tuple (Array.mk [.pointer none, .int .i64 1]), Blk.mk (ns 2).n (Cont.obj (Obj.cells (Array.mk [.int .u64 v]) 36)) true :: Blk.mk (ns 1).n (Cont.obj (Obj.cells (Array.mk [.int .i64 (Int.ofNat (k + 11))]) 3)) true :: Blk.mk (ns 0).n (Cont.obj (Obj.cells (Array.mk [.pointer (some ⟨st, 0, none⟩)]) 28)) true :: Blk.mk st (Cont.obj (Obj.cells (Array.mk [.slice (some ⟨rr, 0, none⟩) 11 11, .slice (some ⟨lr, 0, none⟩) 11 11]) 132)) false :: TL)
theorem upG11_run (st rr lr k : Nat) (v : Int) (TL : List Blk) : Sy.Ran (Sy.inB Tryd.prog Sy.S0 50 fUpd #[ptr st, .int .i64 (Int.ofNat (k + 11)), .int .u64 v] (⟨st, (snB st rr lr 11).2, false⟩ :: TL)) upG11_o (upG11_R st rr lr k v TL) := ⟨fun _ => by kernel_rfl, fun _ => by kernel_rfl⟩
def upG12_o : Sy.O := (steps [3, 0, 0, 1, 0, 1, 2, 3, 0, 0, 1, 0, 4, 0, 0, 2, 0, 5, 0, 6, 0, 7, 0, 0, 3, 0, 8, 0, 0, 9, 0, 10, 11, 12, 0, 13, 0, 14, 0, 15, 0, 16, 0, 17, 0, 18, 0, 19, 0, 20, 0, 21, 22, 23, 24, 25, 26, 27, 34, 1] (steps [1, 0, 0, 29, 30, 0, 31, 0] nil))
noncomputable def upG12_R (st rr lr k : Nat) (v : Int) (TL : List Blk) (ns : Nat → Sy.Let) : Sy.Res (Value × List Blk) :=
 leaf (Value.tuple (Array.mk [.pointer none, .int .i64 1]), Blk.mk (ns 2).n (Cont.obj (Obj.cells (Array.mk [.int .u64 v]) 36)) true :: Blk.mk (ns 1).n (Cont.obj (Obj.cells (Array.mk [.int .i64 (Int.ofNat (k + 12))]) 3)) true :: Blk.mk (ns 0).n (Cont.obj (Obj.cells (Array.mk [.pointer (some ⟨st, 0, none⟩)]) 28)) true :: Blk.mk st (Cont.obj (Obj.cells (Array.mk [.slice (some ⟨rr, 0, none⟩) 12 12, .slice (some ⟨lr, 0, none⟩) 12 12]) 132)) false :: TL)
theorem upG12_run (st rr lr k : Nat) (v : Int) (TL : List Blk) : Sy.Ran (Sy.inB Tryd.prog Sy.S0 50 fUpd #[ptr st, .int .i64 (Int.ofNat (k + 12)), .int .u64 v] (⟨st, (snB st rr lr 12).2, false⟩ :: TL)) upG12_o (upG12_R st rr lr k v TL) := ⟨fun _ => by kernel_rfl, fun _ => by kernel_rfl⟩
def upG13_o : Sy.O := (steps [3, 0, 0, 1, 0, 1, 2, 3, 0, 0, 1, 0, 4, 0, 0, 2, 0, 5, 0, 6, 0, 7, 0, 0, 3, 0, 8, 0, 0, 9, 0, 10, 11, 12, 0, 13, 0, 14, 0, 15, 0, 16, 0, 17, 0, 18, 0, 19, 0, 20, 0, 21, 22, 23, 24, 25, 26, 27, 34, 1] (steps [1, 0, 0, 29, 30, 0, 31, 0] nil))
noncomputable def upG13_R (st rr lr k : Nat) (v : Int) (TL : List Blk) (ns : Nat → Sy.Let) : Sy.Res (Value × List Blk) :=
 leaf (Value.tuple (Array.mk [.pointer none, .int .i64 1]), Blk.mk (ns 2).n (Cont.obj (Obj.cells (Array.mk [.int .u64 v]) 36)) true :: Blk.mk (ns 1).n (Cont.obj (Obj.cells (Array.mk [.int .i64 (Int.ofNat (k + 13))]) 3)) true :: Blk.mk (ns 0).n (Cont.obj (Obj.cells (Array.mk [.pointer (some ⟨st, 0, none⟩)]) 28)) true :: Blk.mk st (Cont.obj (Obj.cells (Array.mk [.slice (some ⟨rr, 0, none⟩) 13 13, .slice (some ⟨lr, 0, none⟩) 13 13]) 132)) false :: TL)
theorem upG13_run (st rr lr k : Nat) (v : Int) (TL : List Blk) : Sy.Ran (Sy.inB Tryd.prog Sy.S0 50 fUpd #[ptr st, .int .i64 (Int.ofNat (k + 13)), .int .u64 v] (⟨st, (snB st rr lr 13).2, false⟩ :: TL)) upG13_o (upG13_R st rr lr k v TL) := ⟨fun _ => by kernel_rfl, fun _ => by kernel_rfl⟩
def upG14_o : Sy.O := (steps [3, 0, 0, 1, 0, 1, 2, 3, 0, 0, 1, 0, 4, 0, 0, 2, 0, 5, 0, 6, 0, 7, 0, 0, 3, 0, 8, 0, 0, 9, 0, 10, 11, 12, 0, 13, 0, 14, 0, 15, 0, 16, 0, 17, 0, 18, 0, 19, 0, 20, 0, 21, 22, 23, 24, 25, 26, 27, 34, 1] (steps [1, 0, 0, 29, 30, 0, 31, 0] nil))
noncomputable def upG14_R (st rr lr k : Nat) (v : Int) (TL : List Blk) (ns : Nat → Sy.Let) : Sy.Res (Value × List Blk) :=
 leaf (Value.tuple (Array.mk [.pointer none, .int .i64 1]), Blk.mk (ns 2).n (Cont.obj (Obj.cells (Array.mk [.int .u64 v]) 36)) true :: Blk.mk (ns 1).n (Cont.obj (Obj.cells (Array.mk [.int .i64 (Int.ofNat (k + 14))]) 3)) true :: Blk.mk (ns 0).n (Cont.obj (Obj.cells (Array.mk [.pointer (some ⟨st, 0, none⟩)]) 28)) true :: Blk.mk st (Cont.obj (Obj.cells (Array.mk [.slice (some ⟨rr, 0, none⟩) 14 14, .slice (some ⟨lr, 0, none⟩) 14 14]) 132)) false :: TL)
theorem upG14_run (st rr lr k : Nat) (v : Int) (TL : List Blk) : Sy.Ran (Sy.inB Tryd.prog Sy.S0 50 fUpd #[ptr st, .int .i64 (Int.ofNat (k + 14)), .int .u64 v] (⟨st, (snB st rr lr 14).2, false⟩ :: TL)) upG14_o (upG14_R st rr lr k v TL) := ⟨fun _ => by kernel_rfl, fun _ => by kernel_rfl⟩
def upG15_o : Sy.O := (steps [3, 0, 0, 1, 0, 1, 2, 3, 0, 0, 1, 0, 4, 0, 0, 2, 0, 5, 0, 6, 0, 7, 0, 0, 3, 0, 8, 0, 0, 9, 0, 10, 11, 12, 0, 13, 0, 14, 0, 15, 0, 16, 0, 17, 0, 18, 0, 19, 0, 20, 0, 21, 22, 23, 24, 25, 26, 27, 34, 1] (steps [1, 0, 0, 29, 30, 0, 31, 0] nil))
noncomputable def upG15_R (st rr lr k : Nat) (v : Int) (TL : List Blk) (ns : Nat → Sy.Let) : Sy.Res (Value × List Blk) :=
 leaf (Value.tuple (Array.mk [.pointer none, .int .i64 1]), Blk.mk (ns 2).n (Cont.obj (Obj.cells (Array.mk [.int .u64 v]) 36)) true :: Blk.mk (ns 1).n (Cont.obj (Obj.cells (Array.mk [.int .i64 (Int.ofNat (k + 15))]) 3)) true :: Blk.mk (ns 0).n (Cont.obj (Obj.cells (Array.mk [.pointer (some ⟨st, 0, none⟩)]) 28)) true :: Blk.mk st (Cont.obj (Obj.cells (Array.mk [.slice (some ⟨rr, 0, none⟩) 15 15, .slice (some ⟨lr, 0, none⟩) 15 15]) 132)) false :: TL)
theorem upG15_run (st rr lr k : Nat) (v : Int) (TL : List Blk) : Sy.Ran (Sy.inB Tryd.prog Sy.S0 50 fUpd #[ptr st, .int .i64 (Int.ofNat (k + 15)), .int .u64 v] (⟨st, (snB st rr lr 15).2, false⟩ :: TL)) upG15_o (upG15_R st rr lr k v TL) := ⟨fun _ => by kernel_rfl, fun _ => by kernel_rfl⟩
def upG16_o : Sy.O := (steps [3, 0, 0, 1, 0, 1, 2, 3, 0, 0, 1, 0, 4, 0, 0, 2, 0, 5, 0, 6, 0, 7, 0, 0, 3, 0, 8, 0, 0, 9, 0, 10, 11, 12, 0, 13, 0, 14, 0, 15, 0, 16, 0, 17, 0, 18, 0, 19, 0, 20, 0, 21, 22, 23, 24, 25, 26, 27, 34, 1] (steps [1, 0, 0, 29, 30, 0, 31, 0] nil))
noncomputable def upG16_R (st rr lr k : Nat) (v : Int) (TL : List Blk) (ns : Nat → Sy.Let) : Sy.Res (Value × List Blk) :=
 leaf (Value.tuple (Array.mk [.pointer none, .int .i64 1]), Blk.mk (ns 2).n (Cont.obj (Obj.cells (Array.mk [.int .u64 v]) 36)) true :: Blk.mk (ns 1).n (Cont.obj (Obj.cells (Array.mk [.int .i64 (Int.ofNat (k + 16))]) 3)) true :: Blk.mk (ns 0).n (Cont.obj (Obj.cells (Array.mk [.pointer (some ⟨st, 0, none⟩)]) 28)) true :: Blk.mk st (Cont.obj (Obj.cells (Array.mk [.slice (some ⟨rr, 0, none⟩) 16 16, .slice (some ⟨lr, 0, none⟩) 16 16]) 132)) false :: TL)
theorem upG16_run (st rr lr k : Nat) (v : Int) (TL : List Blk) : Sy.Ran (Sy.inB Tryd.prog Sy.S0 50 fUpd #[ptr st, .int .i64 (Int.ofNat (k + 16)), .int .u64 v] (⟨st, (snB st rr lr 16).2, false⟩ :: TL)) upG16_o (upG16_R st rr lr k v TL) := ⟨fun _ => by kernel_rfl, fun _ => by kernel_rfl⟩
end Go.Proofs.YtjohknpmhlildaaDoor.At
namespace Go.Proofs.YtjohknpmhlildaaDoor.At
open Go Go.RowKit
open Go.Proofs.YtjohknpmhlildaaDoor.Sy (Let Blk Cont Bun ptr ptr0 bx tkB tkU clo DoesB usedK ownOf rdsOf Rep does_frame does_perm does_mono does_all does_of S0_holds bunO)
open Go.Proofs.YtjohknpmhlildaaDoor.As
inductive LastR (xs : List Value) (B : Bun) (j : Nat) : Bool → Prop
 | none (h : xs[j]? = some ptr0) : LastR xs B j false
 | done (q : Nat) (nx vw : Value) (n v : Int) (ok : Bool) (h : xs[j]? = some (ptr q)) (hb : tkB q nx 1 n v ok vw ∈ B) : LastR xs B j false
 | on (q : Nat) (nx vw : Value) (n v : Int) (ok : Bool) (h : xs[j]? = some (ptr q)) (hb : tkB q nx 0 n v ok vw ∈ B) : LastR xs B j true
def rgK (sb ib vb st rr lr room : Nat) (i : Int) (rf : Bool) (xs : List Value) (B : Bun) : Sy.LoopC :=
 ⟨regU, 52, [(3, ptr sb), (4, ptr ib), (5, ptr vb)], True ∧ (0 ≤ i ∧ i < (room : Int) ∧ LastR xs B i.toNat rf), ⟨[(sb, (bx sb tSnP (ptr st)).2), (ib, (bx ib tI (.int .i64 i)).2), (st, (snB st rr lr room).2), (lr, .row tTP 1 room room xs)], [], 0, B⟩,
  [(⟨fun _ => True, fun _ => [], fun _ => []⟩, .normal, fun _ => [(3, ptr sb), (4, ptr ib), (5, ptr vb), (40, .bool rf)])]⟩
theorem row_spot {t g r j : Nat} {xs : List Value} {x : Value} (hx : xs[j]? = some x) {h : Option Obj} (hs : (Cont.row t 1 r r xs).sat h) : (Cont.seg (0 + Int.toNat (j : Int) * 1) [x]).sat h := by
 obtain ⟨cur, hh, hlen, hn, hcap, hsz, htake⟩ := hs
 refine ⟨cur, _, _, hh, fun k u hu => ?_⟩
 cases k with
 | succ k => simp at hu
 | zero =>
   simp only [List.getElem?_cons_zero, Option.some.injEq] at hu
   subst hu
   have e : 0 + Int.toNat (j : Int) * 1 + 0 = j := by simp
   rw [e]
   rw [← htake, List.getElem?_take] at hx
   split at hx
   ·exact hx
   ·cases hx
theorem rgK_met (sb ib vb st rr lr room : Nat) (i : Int) (rf : Bool) (xs : List Value) (B : Bun) : Sy.MeetsL Tryd.prog (rgK sb ib vb st rr lr room i rf xs B) := by
 by_cases hok : 0 ≤ i ∧ i < (room : Int) ∧ LastR xs B i.toNat rf
 rotate_left
 ·intro h
  exact absurd h.2 hok
 obtain ⟨h0, h1, hl⟩ := hok
 obtain ⟨j, rfl⟩ := Int.eq_ofNat_of_zero_le h0
 rw [Int.toNat_natCast] at hl
 have hend : ∀ {L : List Blk}, Sy.leafP (rgK sb ib vb st rr lr room (j : Int) rf xs B) [3, 4, 5, 40] (.normal, 52, [ptr sb, ptr ib, ptr vb, .bool rf], L) := fun {L} =>
  ⟨rfl, _, Sy.mS _, rfl, [], rfl, ⟨[0, 1, 2, 3], rfl⟩, Sy.Ent.sub (List.nil_sublist _), trivial⟩
 have hn0 : Ex.ltQ (j : Int) 0 = false := by rw [Ex.ltQ_eq]; exact decide_eq_false (by omega)
 have hn1 : Ex.leQ (Int.ofNat room) (j : Int) = false := by rw [Ex.leQ_eq]; exact decide_eq_false (by show ¬ ((room : Int) ≤ (j : Int)); omega)
 have hrd : ∀ {x : Value} {X : List Blk}, xs[j]? = some x → (∀ r ∈ X, r.own = false ∧ (r.nm, r.ct) ∈ B) → Sy.Ent (Sy.blks (rgK sb ib vb st rr lr room (j : Int) rf xs B).mem)
   (⟨sb, (bx sb tSnP (ptr st)).2, false⟩ :: ⟨ib, (bx ib tI (.int .i64 (j : Int))).2, false⟩ :: ⟨st, (snB st rr lr room).2, false⟩ :: ⟨lr, .seg (0 + Int.toNat (j : Int) * 1) [x], false⟩ :: X) := fun {x X} hx hX => by
  refine Sy.Ent.trans (ent_rds (X := []) (R := ⟨sb, (bx sb tSnP (ptr st)).2, false⟩ :: ⟨ib, (bx ib tI (.int .i64 (j : Int))).2, false⟩ :: ⟨st, (snB st rr lr room).2, false⟩ :: ⟨lr, .seg (0 + Int.toNat (j : Int) * 1) [x], false⟩ :: X) (S := Sy.blks (rgK sb ib vb st rr lr room (j : Int) rf xs B).mem) fun r hr => ?_) (Sy.Ent.sub (List.sublist_append_left _ _))
  have hm : ∀ p ∈ ([(sb, (bx sb tSnP (ptr st)).2), (ib, (bx ib tI (.int .i64 (j : Int))).2), (st, (snB st rr lr room).2), (lr, .row tTP 1 room room xs)] : Bun), (⟨p.1, p.2, false⟩ : Blk) ∈ Sy.blks (rgK sb ib vb st rr lr room (j : Int) rf xs B).mem := fun p hp => Sy.mL _ (List.mem_map.2 ⟨p, hp, rfl⟩)
  have hB : ∀ p ∈ B, (⟨p.1, p.2, false⟩ : Blk) ∈ Sy.blks (rgK sb ib vb st rr lr room (j : Int) rf xs B).mem := fun p hp => Sy.mR _ (Sy.mR _ (List.mem_map.2 ⟨p, hp, rfl⟩))
  rcases List.mem_cons.1 hr with rfl | hr
  ·exact ⟨rfl, _, hm _ Sy.mH, rfl, rfl, fun _ h => h⟩
  rcases List.mem_cons.1 hr with rfl | hr
  ·exact ⟨rfl, _, hm _ (Sy.mC _ Sy.mH), rfl, rfl, fun _ h => h⟩
  rcases List.mem_cons.1 hr with rfl | hr
  ·exact ⟨rfl, _, hm _ (Sy.mC _ (Sy.mC _ Sy.mH)), rfl, rfl, fun _ h => h⟩
  rcases List.mem_cons.1 hr with rfl | hr
  ·exact ⟨rfl, _, hm _ (Sy.mC _ (Sy.mC _ (Sy.mC _ Sy.mH))), rfl, rfl, fun _ h => row_spot (g := lr) hx h⟩
  ·obtain ⟨ho, hb⟩ := hX r hr
   exact ⟨ho, _, hB _ hb, rfl, rfl, fun _ h => h⟩
 cases hl with
 | none h =>
   refine Sy.piece_of S0_holds mixed [3, 4, 5, 40] (fun _ => hrd h (X := []) (fun r hr => nomatch hr)) (rg0_run sb ib vb st rr lr room (j : Int) []) fun _ f ns => ?_
   simp only [rg0_R, Sy.Res.holds]
   exact ⟨(fun e => by rw [hn0] at e; cases e), fun _ => ⟨(fun e => by have e : Ex.leQ (Int.ofNat room) (j : Int) = true := e; rw [hn1] at e; cases e), fun _ => ⟨⟨by omega, h1⟩, hend⟩⟩⟩
 | done q nx vw n v ok h hb =>
   refine Sy.piece_of S0_holds mixed [3, 4, 5, 40] (fun _ => hrd h (X := [⟨q, (tkB q nx 1 n v ok vw).2, false⟩]) (fun r hr => by rw [List.mem_singleton.1 hr]; exact ⟨rfl, hb⟩)) (rgD_run sb ib vb st rr lr room q nx vw n v ok (j : Int) []) fun _ f ns => ?_
   simp only [rgD_R, Sy.Res.holds]
   exact ⟨(fun e => by rw [hn0] at e; cases e), fun _ => ⟨(fun e => by have e : Ex.leQ (Int.ofNat room) (j : Int) = true := e; rw [hn1] at e; cases e), fun _ => ⟨⟨by omega, h1⟩, ⟨by omega, h1⟩, hend⟩⟩⟩
 | on q nx vw n v ok h hb =>
   refine Sy.piece_of S0_holds mixed [3, 4, 5, 40] (fun _ => hrd h (X := [⟨q, (tkB q nx 0 n v ok vw).2, false⟩]) (fun r hr => by rw [List.mem_singleton.1 hr]; exact ⟨rfl, hb⟩)) (rgU_run sb ib vb st rr lr room q nx vw n v ok (j : Int) []) fun _ f ns => ?_
   simp only [rgU_R, Sy.Res.holds]
   exact ⟨(fun e => by rw [hn0] at e; cases e), fun _ => ⟨(fun e => by have e : Ex.leQ (Int.ofNat room) (j : Int) = true := e; rw [hn1] at e; cases e), fun _ => ⟨⟨by omega, h1⟩, ⟨by omega, h1⟩, hend⟩⟩⟩
end Go.Proofs.YtjohknpmhlildaaDoor.At
--@way 3
--@tail 0
namespace Go.Proofs.YtjohknpmhlildaaDoor.At
open Sy.O (fork nil step steps)
open Sy.Res (need hyp br leaf both)
open Go Go.RowKit
open Go.Proofs.YtjohknpmhlildaaDoor.Sy (Let Blk Cont Bun ptr ptr0 bx tkB tkU clo)
def ptN (v : Value) : Nat := match v with
 | .pointer (some a) => a.block
 | _ => 0
def ag1 (a : Array Value) : Value := match a.toList with
 | [_, x] => x
 | _ => undef
def ctxUp (st rr lr room : Nat) (i : Int) (rf : Bool) (xs : List Value) (B : Bun) : Sy.Ctx :=
 Sy.withRg (Sy.mkS [(fScan, fun a _ => scanK st rr lr room (ag1 a))] [] []) [(fUpd, 1, fun a _ => rgK (ptN (a.get 3)) (ptN (a.get 4)) (ptN (a.get 5)) st rr lr room i rf xs B)]
theorem ctxUp_holds (st rr lr room : Nat) (i : Int) (rf : Bool) (xs : List Value) (B : Bun) : (ctxUp st rr lr room i rf xs B).holds Tryd.prog := Sy.withRg_holds (Sy.mkS_holds (fun p hp a L => by
 rcases List.mem_singleton.1 hp with rfl
 exact scanK_met _ _ _ _ _) (fun _ h => (by cases h)) (fun _ h => (by cases h))) (fun p hp a L => by
 rcases List.mem_singleton.1 hp with rfl
 exact rgK_met _ _ _ _ _ _ _ _ _ _ _)
def up8_o : Sy.O := (steps [0, 0, 0, 0, 0, 0, 0, 0, 0, 0, 0, 0, 2, 1, 1, 1, 2, 1, 2, 1, 1, 0, 0, 1] (fork nil (steps [0, 0, 0, 0, 2, 1, 0, 1, 1, 3, 0, 0, 1, 0, 1, 2, 3, 0, 0, 0, 4, 0, 2, 0, 5, 6, 0, 1, 10, 3, 0, 1] nil)))
noncomputable def up8_R (st rr lr room : Nat) (i v : Int) (rf : Bool) (xs : List Value) (B : Bun) (TL : List Blk) (ns : Nat → Sy.Let) : Sy.Res (Value × List Blk) :=
 let z0 := some (Addr.mk st 0 none)
 let z1 := Cont.obj (Obj.cells (Array.mk [.pointer z0]) 28)
 let z2 := Cont.obj (Obj.cells (Array.mk [.int .i64 i]) 3)
 let z3 := Cont.obj (Obj.cells (Array.mk [.slice (some ⟨rr, 0, none⟩) room room, .slice (some ⟨lr, 0, none⟩) room room]) 132)
 let z4 := Cont.row 48 1 room room xs
 let z5 := Cont.obj (Obj.cells (Array.mk [.int .u64 v]) 36)
 let z6 := Cont.obj (Obj.cells (Array.mk [.pointer none, .pointer none, .pointer none, .pointer z0, .pointer none]) 31)
 let z7 := Array.mk [Value.pointer z0, Value.func (Fn.func 76) (Array.mk []) (Array.mk [Value.pointer (some (Addr.mk (ptN (Value.pointer (some ⟨(ns 1).n, 0, none⟩))) 0 none)), Value.pointer (some (Addr.mk (ptN (Value.pointer (some ⟨(ns 2).n, 0, none⟩))) 0 none)), Value.pointer (some (Addr.mk (ptN (Value.pointer (some ⟨(ns 3).n, 0, none⟩))) 0 none))])]
 let z8 := some (Addr.mk (ns 5).n 0 none)
 need (True ∧ 0 ≤ i ∧ i < (↑room : Int) ∧ LastR xs B (Int.toNat i) rf) (need (Sy.GotL (Blk.mk (ns 1).n z1 true :: Blk.mk (ns 2).n z2 true :: Blk.mk st z3 false :: Blk.mk lr z4 true :: Blk.mk (ns 3).n z5 true :: Blk.mk (ns 0).n z6 true :: TL) B) (hyp True (br rf (leaf (Value.tuple (Array.mk [.pointer none, .int .i64 1]), Blk.mk (ns 1).n z1 true :: Blk.mk (ns 2).n z2 true :: Blk.mk st z3 false :: Blk.mk lr z4 true :: Blk.mk (ns 3).n z5 true :: Blk.mk (ns 0).n z6 true :: TL)) (need (True ∧ ScanA st rr lr room (ag1 z7)) (hyp (∃ (tk : Nat), ∃ (gb : Nat), ∃ (hb : Nat), ∃ (tb : Nat), ∃ (g : Nat), ∃ (mr : Nat), Value.pointer z8 = Value.pointer (some ⟨tk, 0, none⟩) ∧ Let.q (ns 5) = [(tk, Cont.obj (Obj.cells (Array.mk [Value.func (Fn.func 95) (Array.mk []) (Array.mk [.pointer (some ⟨gb, 0, none⟩), .pointer (some ⟨hb, 0, none⟩), .pointer (some ⟨tb, 0, none⟩)]), .int .u32 0, .int .i64 0, .int .u64 0, .bool false, .slice none 0 0]) 100)), (gb, Cont.obj (Obj.cells (Array.mk [.pointer (some ⟨g, 0, none⟩)]) 177)), (hb, Cont.obj (Obj.cells (Array.mk [ag1 z7]) 152)), (tb, Cont.obj (Obj.cells (Array.mk [.pointer (some ⟨tk, 0, none⟩)]) 48)), (g, Cont.obj (Obj.cells (Array.mk [.pointer z0, .slice none 0 0, .slice none 0 0, .slice (some ⟨mr, 0, none⟩) room room]) 180)), (mr, Cont.row 4 1 room room (bools (List.replicate room false)))]) (need (0 ≤ i ∧ i < (↑room : Int)) (need (0 + Int.toNat i * 1 < List.length xs) (leaf (Value.tuple (Array.mk [.pointer z8, .int .i64 0]), Blk.mk st z3 false :: Blk.mk
 (ns 1).n z1 true :: Blk.mk (ns 2).n z2 true :: Blk.mk lr (Cont.row 48 1 room room (List.set xs (0 + Int.toNat i * 1) (Value.pointer z8))) true :: Blk.mk (ns 3).n z5 true :: Blk.mk (ns 0).n z6 true :: TL.append (List.map (fun (p : Nat × Cont) => Blk.mk (Prod.fst p) (Prod.snd p) true) (Let.q (ns 5))))))))))))
theorem up8_run (st rr lr room : Nat) (i v : Int) (rf : Bool) (xs : List Value) (B : Bun) (TL : List Blk) : Sy.Ran (Sy.inB Tryd.prog (ctxUp st rr lr room i rf xs B) 50 fBegun #[thT ptr0 ptr0 ptr0 (ptr st) ptr0, .int .i64 8, .int .u64 v, .int .i64 i] (⟨st, (snB st rr lr room).2, false⟩ :: ⟨lr, .row tTP 1 room room xs, true⟩ :: TL)) up8_o (up8_R st rr lr room i v rf xs B TL) := ⟨fun _ => by kernel_rfl, fun _ => by kernel_rfl⟩
end Go.Proofs.YtjohknpmhlildaaDoor.At
namespace Go.Proofs.YtjohknpmhlildaaDoor.At
open Go Go.RowKit
open Go.Proofs.YtjohknpmhlildaaDoor.Sy (Let Blk Cont Bun ptr ptr0 bx tkB tkU clo DoesB usedK ownOf rdsOf Rep does_frame does_perm does_mono does_all does_of S0_holds bunO)
open Go.Proofs.YtjohknpmhlildaaDoor.As
abbrev ltB (lr room : Nat) (xs : List Value) : Nat × Cont := (lr, .row tTP 1 room room xs)
def up8Q (st lr room j : Nat) (v : Int) (rf : Bool) (xs : List Value) (r : Value) (o : Bun) : Prop :=
 (rf = true ∧ r = .tuple #[ptr0, .int .i64 1] ∧ o = [ltB lr room xs]) ∨
 (rf = false ∧ ∃ tk sb ib vb q, r = .tuple #[ptr tk, .int .i64 0] ∧ scQ st (cTh8 sb ib vb) room (ptr tk) q ∧ o = [bx sb tSnP (ptr st), bx ib tI (.int .i64 (j : Int)), ltB lr room (xs.set j (ptr tk)), bx vb tU (.int .u64 v)] ++ q)
theorem up8_does (st rr lr room j : Nat) (h1 : 1 ≤ room) (h2 : room ≤ 16) (hj : j < room) (v : Int) (rf : Bool) (xs : List Value) (hx : xs.length = room) (B : Bun) (hl : LastR xs B j rf) :
  DoesB Tryd.prog fBegun #[thT ptr0 ptr0 ptr0 (ptr st) ptr0, .int .i64 8, .int .u64 v, .int .i64 (j : Int)] (snB st rr lr room :: B) [ltB lr room xs] (up8Q st lr room j v rf xs) := by
 have hent : Sy.Ent (rdsOf (snB st rr lr room :: B) ++ [ltB lr room xs].map ownOf) (⟨st, (snB st rr lr room).2, false⟩ :: ⟨lr, .row tTP 1 room room xs, true⟩ :: rdsOf B) := Sy.Ent.perm (List.Perm.cons _ (List.perm_append_comm (l₁ := rdsOf B) (l₂ := [(⟨lr, .row tTP 1 room room xs, true⟩ : Blk)])))
 refine does_of (ctxUp_holds st rr lr room (j : Int) rf xs B) mixed hent (up8_run st rr lr room (j : Int) v rf xs B (rdsOf B)) fun ns => ?_
 simp only [up8_R, Sy.Res.holds]
 have hsp : 0 + Int.toNat (j : Int) * 1 = j := by simp
 refine ⟨⟨trivial, by omega, by omega, by rw [Int.toNat_natCast]; exact hl⟩, fun p hp => ⟨⟨p.1, p.2, false⟩, Sy.mC _ (Sy.mC _ (Sy.mC _ (Sy.mC _ (Sy.mC _ (Sy.mC _ (List.mem_map.2 ⟨p, hp, rfl⟩)))))), rfl, fun _ h => h⟩, fun _ => ⟨fun hrf => ?_, fun hrf => ?_⟩⟩
 ·exact ⟨[ltB lr room xs], Sy.Ent.sub (.cons _ (.cons _ (.cons _ (.cons_cons _ (List.nil_sublist _))))), .inl ⟨hrf, rfl, rfl⟩⟩
 ·refine ⟨⟨trivial, sc8_does st rr lr room (ns 1).n (ns 2).n (ns 3).n h1 h2⟩, fun hq => ⟨⟨by omega, by omega⟩, by rw [hsp, hx]; exact hj, ?_⟩⟩
  rw [hsp]
  exact ⟨[bx (ns 1).n tSnP (ptr st), bx (ns 2).n tI (.int .i64 (j : Int)), ltB lr room (xs.set j (ptr (ns 5).n)), bx (ns 3).n tU (.int .u64 v)] ++ (ns 5).q, Sy.Ent.trans (Sy.Ent.sub (B := ⟨(ns 1).n, (bx (ns 1).n tSnP (ptr st)).2, true⟩ :: ⟨(ns 2).n, (bx (ns 2).n tI (.int .i64 (j : Int))).2, true⟩ :: ⟨lr, .row tTP 1 room room (xs.set j (ptr (ns 5).n)), true⟩ :: ⟨(ns 3).n, (bx (ns 3).n tU (.int .u64 v)).2, true⟩ :: (ns 5).q.map ownOf) (.cons _ (.cons_cons _ (.cons_cons _ (.cons_cons _ (.cons_cons _ (.cons _ (List.sublist_append_right _ _)))))))) (Sy.Ent.refl _), .inr ⟨hrf, (ns 5).n, (ns 1).n, (ns 2).n, (ns 3).n, (ns 5).q, rfl, hq, rfl⟩⟩
open Go.Proofs.YtjohknpmhlildaaDoor.Sy (Let Blk Cont Bun ptr ptr0 bx tkB tkU clo)
def outC (st rr lr room : Nat) (i v : Int) : Sy.CallC := ⟨fUpd, #[ptr st, .int .i64 i, .int .u64 v], True ∧ ((1 ≤ room ∧ room ≤ 16) ∧ (i < 0 ∨ (room : Int) ≤ i)), ⟨[snB st rr lr room], [], 0, []⟩, [Sy.plainO (.tuple #[ptr0, .int .i64 1])]⟩
theorem outC_met (st rr lr room : Nat) (i v : Int) : Sy.Meets Tryd.prog (outC st rr lr room i v) := by
 by_cases hok : (1 ≤ room ∧ room ≤ 16) ∧ (i < 0 ∨ (room : Int) ≤ i)
 rotate_left
 ·intro h
  exact absurd h.2 hok
 obtain ⟨⟨h1, h2⟩, hi⟩ := hok
 rcases hi with hi | hi
 ·obtain ⟨k, rfl⟩ := Int.eq_negSucc_of_lt_zero hi
  refine Sy.meets_ofB Sy.S0_holds mixed (Sy.Ent.refl _) (upM_run st rr lr room k v []) fun _ ns => ?_
  simp only [upM_R, Sy.Res.holds]
  exact plain_leaf Sy.mH rfl rfl
 ·obtain ⟨k, rfl⟩ : ∃ k : Nat, i = Int.ofNat (k + room) := ⟨(i - room).toNat, by show i = (((i - room).toNat + room : Nat) : Int); omega⟩
  have h : room = 1 ∨ room = 2 ∨ room = 3 ∨ room = 4 ∨ room = 5 ∨ room = 6 ∨ room = 7 ∨ room = 8 ∨ room = 9 ∨ room = 10 ∨ room = 11 ∨ room = 12 ∨ room = 13 ∨ room = 14 ∨ room = 15 ∨ room = 16 := by omega
  rcases h with rfl | rfl | rfl | rfl | rfl | rfl | rfl | rfl | rfl | rfl | rfl | rfl | rfl | rfl | rfl | rfl
  ·refine Sy.meets_ofB Sy.S0_holds mixed (Sy.Ent.refl _) (upG1_run st rr lr k v []) fun _ ns => ?_
   simp only [upG1_R, Sy.Res.holds]
   exact plain_leaf Sy.mH rfl rfl
  ·refine Sy.meets_ofB Sy.S0_holds mixed (Sy.Ent.refl _) (upG2_run st rr lr k v []) fun _ ns => ?_
   simp only [upG2_R, Sy.Res.holds]
   exact plain_leaf Sy.mH rfl rfl
  ·refine Sy.meets_ofB Sy.S0_holds mixed (Sy.Ent.refl _) (upG3_run st rr lr k v []) fun _ ns => ?_
   simp only [upG3_R, Sy.Res.holds]
   exact plain_leaf Sy.mH rfl rfl
  ·refine Sy.meets_ofB Sy.S0_holds mixed (Sy.Ent.refl _) (upG4_run st rr lr k v []) fun _ ns => ?_
   simp only [upG4_R, Sy.Res.holds]
   exact plain_leaf Sy.mH rfl rfl
  ·refine Sy.meets_ofB Sy.S0_holds mixed (Sy.Ent.refl _) (upG5_run st rr lr k v []) fun _ ns => ?_
   simp only [upG5_R, Sy.Res.holds]
   exact plain_leaf Sy.mH rfl rfl
  ·refine Sy.meets_ofB Sy.S0_holds mixed (Sy.Ent.refl _) (upG6_run st rr lr k v []) fun _ ns => ?_
   simp only [upG6_R, Sy.Res.holds]
   exact plain_leaf Sy.mH rfl rfl
  ·refine Sy.meets_ofB Sy.S0_holds mixed (Sy.Ent.refl _) (upG7_run st rr lr k v []) fun _ ns => ?_
   simp only [upG7_R, Sy.Res.holds]
   exact plain_leaf Sy.mH rfl rfl
  ·refine Sy.meets_ofB Sy.S0_holds mixed (Sy.Ent.refl _) (upG8_run st rr lr k v []) fun _ ns => ?_
   simp only [upG8_R, Sy.Res.holds]
   exact plain_leaf Sy.mH rfl rfl
  ·refine Sy.meets_ofB Sy.S0_holds mixed (Sy.Ent.refl _) (upG9_run st rr lr k v []) fun _ ns => ?_
   simp only [upG9_R, Sy.Res.holds]
   exact plain_leaf Sy.mH rfl rfl
  ·refine Sy.meets_ofB Sy.S0_holds mixed (Sy.Ent.refl _) (upG10_run st rr lr k v []) fun _ ns => ?_
   simp only [upG10_R, Sy.Res.holds]
   exact plain_leaf Sy.mH rfl rfl
  ·refine Sy.meets_ofB Sy.S0_holds mixed (Sy.Ent.refl _) (upG11_run st rr lr k v []) fun _ ns => ?_
   simp only [upG11_R, Sy.Res.holds]
   exact plain_leaf Sy.mH rfl rfl
  ·refine Sy.meets_ofB Sy.S0_holds mixed (Sy.Ent.refl _) (upG12_run st rr lr k v []) fun _ ns => ?_
   simp only [upG12_R, Sy.Res.holds]
   exact plain_leaf Sy.mH rfl rfl
  ·refine Sy.meets_ofB Sy.S0_holds mixed (Sy.Ent.refl _) (upG13_run st rr lr k v []) fun _ ns => ?_
   simp only [upG13_R, Sy.Res.holds]
   exact plain_leaf Sy.mH rfl rfl
  ·refine Sy.meets_ofB Sy.S0_holds mixed (Sy.Ent.refl _) (upG14_run st rr lr k v []) fun _ ns => ?_
   simp only [upG14_R, Sy.Res.holds]
   exact plain_leaf Sy.mH rfl rfl
  ·refine Sy.meets_ofB Sy.S0_holds mixed (Sy.Ent.refl _) (upG15_run st rr lr k v []) fun _ ns => ?_
   simp only [upG15_R, Sy.Res.holds]
   exact plain_leaf Sy.mH rfl rfl
  ·refine Sy.meets_ofB Sy.S0_holds mixed (Sy.Ent.refl _) (upG16_run st rr lr k v []) fun _ ns => ?_
   simp only [upG16_R, Sy.Res.holds]
   exact plain_leaf Sy.mH rfl rfl
def ctxOut (st rr lr room : Nat) (i v : Int) : Sy.Ctx := Sy.mkS [(fUpd, fun _ _ => outC st rr lr room i v)] [] []
theorem ctxOut_holds (st rr lr room : Nat) (i v : Int) : (ctxOut st rr lr room i v).holds Tryd.prog := Sy.mkS_holds (fun p hp a L => by
 rcases List.mem_singleton.1 hp with rfl
 exact outC_met _ _ _ _ _ _) (fun _ h => (by cases h)) (fun _ h => (by cases h))
end Go.Proofs.YtjohknpmhlildaaDoor.At
--@way 3
--@tail 0
namespace Go.Proofs.YtjohknpmhlildaaDoor.At
open Sy.O (fork nil step steps)
open Sy.Res (need hyp br leaf both)
open Go Go.RowKit
open Go.Proofs.YtjohknpmhlildaaDoor.Sy (Let Blk Cont Bun ptr ptr0 bx tkB tkU clo)
def bg8_o : Sy.O := (steps [0, 0, 0, 0, 0, 0, 0, 0, 0, 0, 0, 0, 1, 1, 0, 0, 1] nil)
noncomputable def bg8_R (st rr lr room : Nat) (i v : Int) (TL : List Blk) (ns : Nat → Sy.Let) : Sy.Res (Value × List Blk) :=
 need (True ∧ (1 ≤ room ∧ room ≤ 16) ∧ (i < 0 ∨ (↑room : Int) ≤ i)) (hyp True (leaf (Value.tuple (Array.mk [.pointer none, .int .i64 1]), Blk.mk st (Cont.obj (Obj.cells (Array.mk [.slice (some ⟨rr, 0, none⟩) room room, .slice (some ⟨lr, 0, none⟩) room room]) 132)) false :: Blk.mk (ns 0).n (Cont.obj (Obj.cells (Array.mk [.pointer none, .pointer none, .pointer none, .pointer (some ⟨st, 0, none⟩), .pointer none]) 31)) true :: TL)))
theorem bg8_run (st rr lr room : Nat) (i v : Int) (TL : List Blk) : Sy.Ran (Sy.inB Tryd.prog (ctxOut st rr lr room i v) 50 fBegun #[thT ptr0 ptr0 ptr0 (ptr st) ptr0, .int .i64 8, .int .u64 v, .int .i64 i] (⟨st, (snB st rr lr room).2, false⟩ :: TL)) bg8_o (bg8_R st rr lr room i v TL) := ⟨fun _ => by kernel_rfl, fun _ => by kernel_rfl⟩
end Go.Proofs.YtjohknpmhlildaaDoor.At
namespace Go.Proofs.YtjohknpmhlildaaDoor.At
open Go Go.RowKit
open Go.Proofs.YtjohknpmhlildaaDoor.Sy (Let Blk Cont Bun ptr ptr0 bx tkB tkU clo DoesB usedK ownOf rdsOf Rep does_frame does_perm does_mono does_all does_of S0_holds bunO)
open Go.Proofs.YtjohknpmhlildaaDoor.As
def mayQ (H : WorldD → List Nat → Bun → Prop) (w : WorldD) (kind : Nat) (v slot : Int) (tks : List Nat) (r : Value) (o : Bun) : Prop :=
 (mayW w kind slot = true ∧ beginQ H w kind v slot tks r o) ∨ (mayW w kind slot = false ∧ r = .tuple #[ptr0, .int .i64 1] ∧ H w tks o)
theorem out8_does (st rr lr room : Nat) (h1 : 1 ≤ room) (h2 : room ≤ 16) (i v : Int) (hi : i < 0 ∨ (room : Int) ≤ i) : DoesB Tryd.prog fBegun #[thT ptr0 ptr0 ptr0 (ptr st) ptr0, .int .i64 8, .int .u64 v, .int .i64 i] [snB st rr lr room] [] (fun r o => r = .tuple #[ptr0, .int .i64 1] ∧ o = []) := by
 refine does_of (ctxOut_holds st rr lr room i v) mixed (Sy.Ent.refl _) (bg8_run st rr lr room i v []) fun ns => ?_
 simp only [bg8_R, Sy.Res.holds]
 exact ⟨⟨trivial, ⟨h1, h2⟩, hi⟩, fun _ => ⟨[], Sy.Ent.sub (List.nil_sublist _), trivial, rfl⟩⟩
abbrev lsV (tks : List Nat) (busy : List Int) : List Value := busy.map fun n => if n < 0 then ptr0 else ptr (tks.getD n.toNat 0)
theorem cell_in {xs : List TaskH} {x : TaskH} (h : x ∈ xs) : x.cell ∈ allH xs := List.mem_flatMap.2 ⟨x, h, Sy.mH⟩
theorem begin_snap8 {w : WorldD} {st : Nat} {tks : List Nat} {b : Bun} (hH : HeapN w st tks b) (v slot : Int) : DoesB Tryd.prog fBegun #[thT ptr0 ptr0 ptr0 (ptr st) ptr0, .int .i64 8, .int .u64 v, .int .i64 slot] [] b (mayQ (fun w t o => HeapN w st t o) w 8 v slot tks) := by
 obtain ⟨xs, Z, hx⟩ := hH
 have hzst := hx.zst
 subst hzst
 obtain ⟨hr1, hr2⟩ := hx.room
 have hself : ∀ o : Bun, o.Perm b → HeapN w Z.st tks o := fun o ho => ⟨xs, Z, { hx with perm := ho.trans hx.perm }⟩
 by_cases hin : slot < 0 ∨ (w.room : Int) ≤ slot
 ·have hmay : mayW w 8 slot = false := by unfold mayW; rw [if_pos rfl, if_pos hin]
  have hb : ([] ++ b).Perm b := List.Perm.refl _
  refine does_all (oth := b) (out8_does Z.st Z.rr Z.lr w.room hr1 hr2 slot v hin) (fun p hp => ?_) hb fun r o hq => ⟨b, ?_, .inr ⟨hmay, hq.1, hself b (List.Perm.refl _)⟩⟩
  ·rw [List.mem_singleton.1 hp]
   exact hx.perm.mem_iff.2 (Sy.mL _ Sy.mH)
  ·rw [hq.2]
   exact List.Perm.refl _
 ·obtain ⟨j, rfl⟩ := Int.eq_ofNat_of_zero_le (show 0 ≤ slot by omega)
  have hj : j < w.room := by omega
  have hjb : j < w.busy.length := by rw [hx.blen]; exact hj
  obtain ⟨nb, hnb⟩ : ∃ nb, w.busy[j]? = some nb := ⟨_, List.getElem?_eq_getElem hjb⟩
  have hls : (lsV tks w.busy)[j]? = some (if nb < 0 then ptr0 else ptr (tks.getD nb.toNat 0)) := by rw [List.getElem?_map, hnb]; rfl
  have hlen : tks.length = w.tasks.length := by rw [← hx.tk, ← hx.d]; simp
  obtain ⟨rf, hrf, hmay⟩ : ∃ rf, LastR (lsV tks w.busy) (xs.map TaskH.cell) j rf ∧ mayW w 8 (j : Int) = !rf := by
   have hmw : mayW w 8 (j : Int) = if nb < 0 then true else match w.tasks[nb.toNat]? with | some t => t.pc == 0 | none => true := by
    unfold mayW
    rw [if_pos rfl, if_neg hin, Int.toNat_natCast, hnb]
    rfl
   by_cases hn : nb < 0
   ·rw [if_pos hn] at hls hmw
    exact ⟨false, .none hls, hmw⟩
   ·rw [if_neg hn] at hls hmw
    have hnl : nb.toNat < w.tasks.length := by have := hx.bz nb (List.mem_of_getElem? hnb); omega
    obtain ⟨t, ht⟩ : ∃ t, w.tasks[nb.toNat]? = some t := ⟨_, List.getElem?_eq_getElem hnl⟩
    obtain ⟨x, hxx, hxd⟩ := at_d hx.d ht
    have htk : tks.getD nb.toNat 0 = x.tk := by
     rw [← hx.tk, List.getD_eq_getElem?_getD, List.getElem?_map, hxx]
     rfl
    rw [htk] at hls
    rw [ht] at hmw
    have hmem : x.cell ∈ xs.map TaskH.cell := List.mem_map.2 ⟨x, List.mem_of_getElem? hxx, rfl⟩
    by_cases hp : x.d.pc = 0
    ·rw [TaskH.cell_end hp] at hmem
     exact ⟨false, .done _ _ _ _ _ _ hls hmem, by rw [hmw, ← hxd]; show (x.d.pc == 0) = !false; rw [hp]; rfl⟩
    ·rw [TaskH.cell_on hp] at hmem
     exact ⟨true, .on _ _ _ _ _ _ hls hmem, by rw [hmw, ← hxd]; show (x.d.pc == 0) = !true; exact beq_eq_false_iff_ne.2 hp⟩
  have hp : ([ltB Z.lr w.room (lsV tks w.busy)] ++ (thN Z.st Z.rr Z.lr w.room (ptrs (nms Z w.cells)) ++ (allH xs ++ (stS Z w.room ++ vwS w.room Z.rows)))).Perm b := by
   refine List.Perm.trans ?_ hx.perm.symm
   show List.Perm _ (thN Z.st Z.rr Z.lr w.room (ptrs (nms Z w.cells)) ++ (allH xs ++ ([] ++ (stS Z w.room ++ (vwS w.room Z.rows ++ [ltB Z.lr w.room (lsV tks w.busy)])))))
   letI : DecidableEq (Nat × Cont) := Classical.typeDecidableEq _
   refine List.perm_iff_count.2 fun p => ?_
   simp only [List.count_append, List.count_nil]
   omega
  refine does_all (up8_does Z.st Z.rr Z.lr w.room j hr1 hr2 hj v rf (lsV tks w.busy) (by rw [List.length_map, hx.blen]) (xs.map TaskH.cell) hrf) (fun p hp => ?_) hp fun r o hq => ?_
  ·rcases List.mem_cons.1 hp with rfl | hp
   ·exact Sy.mL _ Sy.mH
   ·obtain ⟨x, hxm, rfl⟩ := List.mem_map.1 hp
    exact Sy.mR _ (Sy.mL _ (cell_in hxm))
  rcases hq with ⟨rfl, rfl, rfl⟩ | ⟨rfl, tk, sb, ib, vb, q, rfl, hsc, rfl⟩
  ·exact ⟨b, hp, .inr ⟨hmay, rfl, hself b (List.Perm.refl _)⟩⟩
  ·obtain ⟨tk', gb, hb', tb, g, mr, he, rfl⟩ := hsc
   have he := ptr_inj he
   subst he
   obtain ⟨y, hy⟩ : ∃ y : TaskH, y = ⟨taskW w 8 v (j : Int), tk, cScan gb hb' tb, nil0, scanAll Z.st gb hb' tb tk g mr w.room (some ⟨sb, ib, vb, (j : Int), v⟩) none 0 [] none w.room [] (List.replicate w.room false)⟩ := ⟨_, rfl⟩
   have hall : y.all = [tkU tk (cScan gb hb' tb) 0, bx gb tGP (ptr g), bx hb' tTh (cTh8 sb ib vb), bx tb tTP (ptr tk), sgB g Z.st (.slice none 0 0) (.slice none 0 0) (sl mr w.room w.room), blB mr w.room (bools (List.replicate w.room false))] ++ [bx sb tSnP (ptr Z.st), bx ib tI (.int .i64 (j : Int)), bx vb tU (.int .u64 v)] := by
    subst hy
    rw [all_new (by show (1 : Nat) ≠ 0; decide) rfl]
    rfl
   have hbusy : (beginW w 8 v (j : Int)).busy = w.busy.set j (w.tasks.length : Int) := by
    show (if 8 = 8 then w.busy.set (j : Int).toNat (w.tasks.length : Int) else w.busy) = _
    rw [if_pos rfl, Int.toNat_natCast]
   have hlast : lsB Z.lr w.room (tks ++ [tk]) (w.busy.set j (w.tasks.length : Int)) = ltB Z.lr w.room ((lsV tks w.busy).set j (ptr tk)) := by
    have e1 := last_app hx.bz Z.lr w.room tk
    unfold lsB at e1 ⊢
    rw [List.map_set]
    injection e1 with _ e1
    injection e1 with _ _ _ _ e1
    rw [e1, if_neg (by omega)]
    have : (tks ++ [tk]).getD (w.tasks.length : Int).toNat 0 = tk := by rw [Int.toNat_natCast, ← hlen]; simp
    rw [this]
   refine ⟨_, List.Perm.refl _, .inl ⟨hmay, tk, rfl, xs ++ [y], Z, hx.thing, rfl, map_app1 hx.d (by subst hy; rfl), map_app1 hx.tk (by subst hy; rfl), all_app hx.ok (by subst hy; exact scan_new hx.room (.inr rfl) v (j : Int) (some ⟨sb, ib, vb, (j : Int), v⟩) ⟨rfl, rfl, rfl, by show (0 : Int) ≤ (j : Int); omega, by show (j : Int) < _; omega⟩ tk gb hb' tb g mr nil0), hx.room, hx.ini, hx.clen, hx.cb, hx.states, hx.rv, ?_, fun m hm => ?_, ?_⟩⟩
   ·rw [hbusy, List.length_set]
    exact hx.blen
   ·rw [hbusy] at hm
    rw [List.length_append]
    show m < ((tks.length + 1 : Nat) : Int)
    rcases List.mem_or_eq_of_mem_set hm with hm | rfl
    ·have := hx.bz m hm
     omega
    ·omega
   ·show List.Perm _ (thN Z.st Z.rr Z.lr w.room (ptrs (nms Z w.cells)) ++ (allH (xs ++ [y]) ++ ([] ++ (stS Z w.room ++ (vwS w.room Z.rows ++ [lsB Z.lr w.room (tks ++ [tk]) (beginW w 8 v (j : Int)).busy])))))
    rw [hbusy, hlast]
    have e : allH (xs ++ [y]) = allH xs ++ y.all := by simp [allH]
    rw [e, hall]
    letI : DecidableEq (Nat × Cont) := Classical.typeDecidableEq _
    refine List.perm_iff_count.2 fun p => ?_
    simp only [List.count_append, List.count_nil, List.count_cons]
    omega
open Go.Proofs.YtjohknpmhlildaaDoor.Sy (Let Blk Cont Bun ptr ptr0 bx tkB tkU clo DoesB usedK ownOf rdsOf Rep does_frame does_perm does_mono does_all does_of S0_holds bunO)
open Go.Proofs.YtjohknpmhlildaaDoor.As
theorem may_other {w : WorldD} {kind : Nat} (h : kind ≠ 8) (slot : Int) : mayW w kind slot = true := by
 unfold mayW
 rw [if_neg h]
theorem beginQ_mono {H H' : WorldD → List Nat → Bun → Prop} {w : WorldD} {kind : Nat} {v slot : Int} {tks : List Nat} (h : ∀ t o, H (beginW w kind v slot) t o → H' (beginW w kind v slot) t o) {r : Value} {o : Bun} (hq : beginQ H w kind v slot tks r o) : beginQ H' w kind v slot tks r o := by
 obtain ⟨tk, h1, h2⟩ := hq
 exact ⟨tk, h1, h _ _ h2⟩
theorem begin_heapX {w : WorldD} {st : Nat} {tks : List Nat} {b : Bun} (hH : HeapX w st tks b) {kind : Nat} (hk : As.kindOk w.thing kind) (v slot : Int) :
  DoesB Tryd.prog fBegun #[thV4 w.thing st, .int .i64 (kind : Int), .int .u64 v, .int .i64 slot] [] b (mayQ (fun w t o => HeapX w st t o) w kind v slot tks) := by
 unfold As.kindOk at hk
 rcases hH with ⟨e, h⟩ | ⟨e, h⟩ | ⟨e, h⟩ | ⟨e, h⟩
 ·rw [e] at hk ⊢
  have hk : kind = 1 ∨ kind = 2 := by omega
  rcases hk with rfl | rfl
  ·exact does_mono (begin_stack h fun nd => bg1_does w st v slot nd) fun r o hq => .inl ⟨may_other (by decide) _, beginQ_mono (fun t o ho => .inl ⟨e, ho⟩) hq⟩
  ·exact does_mono (begin_stack h fun nd => bg2_does w st v slot nd) fun r o hq => .inl ⟨may_other (by decide) _, beginQ_mono (fun t o ho => .inl ⟨e, ho⟩) hq⟩
 ·rw [e] at hk ⊢
  have hk : kind = 3 ∨ kind = 4 := by omega
  rcases hk with rfl | rfl
  ·exact does_mono (begin_queue h fun nd => bg3_does w st v slot nd) fun r o hq => .inl ⟨may_other (by decide) _, beginQ_mono (fun t o ho => .inr (.inl ⟨e, ho⟩)) hq⟩
  ·exact does_mono (begin_queue h fun nd => bg4_does w st v slot nd) fun r o hq => .inl ⟨may_other (by decide) _, beginQ_mono (fun t o ho => .inr (.inl ⟨e, ho⟩)) hq⟩
 ·rw [e] at hk ⊢
  have hk : kind = 7 ∨ kind = 8 := by omega
  rcases hk with rfl | rfl
  ·exact does_mono (begin_snap7 h v slot) fun r o hq => .inl ⟨may_other (by decide) _, beginQ_mono (fun t o ho => .inr (.inr (.inl ⟨e, ho⟩))) hq⟩
  ·refine does_mono (begin_snap8 h v slot) fun r o hq => ?_
   rcases hq with ⟨h1, h2⟩ | ⟨h1, h2, h3⟩
   ·exact .inl ⟨h1, beginQ_mono (fun t o ho => .inr (.inr (.inl ⟨e, ho⟩))) h2⟩
   ·exact .inr ⟨h1, h2, .inr (.inr (.inl ⟨e, h3⟩))⟩
 ·rw [e] at hk ⊢
  have hk : kind = 9 := by omega
  subst hk
  exact does_mono (begin_once h fun dn => bg9_does w st v slot dn) fun r o hq => .inl ⟨may_other (by decide) _, beginQ_mono (fun t o ho => .inr (.inr (.inr ⟨e, ho⟩))) hq⟩
theorem begin_heap {w : WorldD} {st : Nat} {tks : List Nat} {b : Bun} (hH : Heap w st tks b) {kind : Nat} (hk : As.kindOk w.thing kind) (v slot : Int) :
  DoesB Tryd.prog fBegun #[thV4 w.thing st, .int .i64 (kind : Int), .int .u64 v, .int .i64 slot] [] b (mayQ (fun w t o => Heap w st t o) w kind v slot tks) := by
 rcases hH with ⟨e, h⟩ | ⟨b0, hb, h⟩
 ·unfold As.kindOk at hk
  rw [e] at hk ⊢
  have hk : kind = 5 ∨ kind = 6 := by omega
  rcases hk with rfl | rfl
  ·exact does_mono (begin_slots h (bg5_does w st v slot)) fun r o hq => .inl ⟨may_other (by decide) _, beginQ_mono (fun t o ho => .inl ⟨e, ho⟩) hq⟩
  ·exact does_mono (begin_slots h (bg6_does w st v slot)) fun r o hq => .inl ⟨may_other (by decide) _, beginQ_mono (fun t o ho => .inl ⟨e, ho⟩) hq⟩
 ·refine does_all (begin_heapX h hk v slot) (fun p hp => nomatch hp) hb.symm fun r o hq => ⟨o ++ [tabB], List.Perm.refl _, ?_⟩
  rcases hq with ⟨h1, tk, h2, h3⟩ | ⟨h1, h2, h3⟩
  ·exact .inl ⟨h1, tk, h2, .inr ⟨o, List.Perm.refl _, h3⟩⟩
  ·exact .inr ⟨h1, h2, .inr ⟨o, List.Perm.refl _, h3⟩⟩
theorem made_heap {thing room : Nat} (ht : 1 ≤ thing ∧ thing ≤ 5) (h1 : 1 ≤ room) (h2 : room ≤ 16) {w : WorldD} (hw : newW (thing : Int) (room : Int) = some w) :
  DoesB Tryd.prog fMade #[.int .i64 (thing : Int), .int .i64 (room : Int)] [] [tabB] (madeQ thing fun st o => Heap w st [] o) := by
 have hth := (new_thing hw).1
 rw [Int.toNat_natCast] at hth
 have hx : ∀ {H : Nat → Bun → Prop}, DoesB Tryd.prog fMade #[.int .i64 (thing : Int), .int .i64 (room : Int)] [] [] (madeQ thing H) → (∀ st o, H st o → Heap w st [] (o ++ [tabB])) → DoesB Tryd.prog fMade #[.int .i64 (thing : Int), .int .i64 (room : Int)] [] [tabB] (madeQ thing fun st o => Heap w st [] o) := fun h hH =>
  does_all (oth := [tabB]) h (fun p hp => nomatch hp) (List.Perm.refl _) fun r o ⟨st, hr, ho⟩ => ⟨o ++ [tabB], List.Perm.refl _, st, hr, hH st o ho⟩
 have hcase : thing = 1 ∨ thing = 2 ∨ thing = 3 ∨ thing = 4 ∨ thing = 5 := by omega
 rcases hcase with rfl | rfl | rfl | rfl | rfl
 ·exact hx (made1 hw) fun st o ho => .inr ⟨o, List.Perm.refl _, .inl ⟨hth, ho⟩⟩
 ·exact hx (made2 hw) fun st o ho => .inr ⟨o, List.Perm.refl _, .inr (.inl ⟨hth, ho⟩)⟩
 ·exact hx (made3 h1 h2 hw) fun st o ho => .inl ⟨hth, ho⟩
 ·exact hx (made4 h1 h2 hw) fun st o ho => .inr ⟨o, List.Perm.refl _, .inr (.inr (.inl ⟨hth, ho⟩))⟩
 ·exact hx (made5 hw) fun st o ho => .inr ⟨o, List.Perm.refl _, .inr (.inr (.inr ⟨hth, ho⟩))⟩
end Go.Proofs.YtjohknpmhlildaaDoor.At
--@way 3
--@tail 0
namespace Go.Proofs.YtjohknpmhlildaaDoor.At
open Sy.O (fork nil step steps)
open Sy.Res (need hyp br leaf both)
open Go Go.RowKit
open Go.Proofs.YtjohknpmhlildaaDoor.Sy (Let Blk Cont Bun ptr ptr0 bx tkB tkU clo)
abbrev fAwake : FuncId := 8
def awk_o : Sy.O := (steps [0, 0, 0, 0, 0, 0, 0, 0, 1, 0, 0, 0, 0, 2, 0, 0, 0, 1, 0, 0, 0, 0, 0, 0, 0, 0, 1, 0, 0, 0, 0, 2, 0, 0, 0, 1, 0, 0, 0, 0, 0, 0, 0, 6, 0, 0, 6, 0, 0, 6, 0, 6, 0, 0, 0, 6, 0, 0, 8, 0] (steps [9, 0, 0, 0, 0, 6, 0, 7, 0, 0, 7, 0, 0, 7, 0, 0, 7, 0, 7, 0, 0, 0, 7, 0, 0, 6, 0, 0, 5, 0, 7, 0, 0, 3, 0, 0, 9, 0, 1, 2, 3, 0, 0, 0, 4, 0, 8, 0, 5, 0, 0, 0, 6, 11, 1, 0, 1, 2, 3, 4] (steps [5, 6, 7, 8, 9, 10, 11, 11, 0, 0, 11, 0, 0, 0, 0, 7, 0, 0, 9, 0, 8, 0, 0, 8, 0, 0, 3, 0, 1, 2, 3, 8, 0, 8, 0, 0, 8, 0, 0, 0, 8, 0, 0, 0, 4, 0, 0, 4, 0, 4, 0, 0, 0, 4, 0, 0, 5, 0, 11, 0] (steps [0, 0, 0, 0, 0, 0, 0, 0, 0, 4, 0, 5, 0, 0, 5, 0, 0, 5, 0, 0, 5, 0, 5, 0, 0, 0, 5, 0, 0, 4, 0, 0, 3, 0, 5, 0, 0, 3, 0, 0, 6, 0, 1, 2, 3, 0, 0, 0, 4, 0, 0, 0, 5, 6, 7, 0, 1, 0, 11, 1] (steps [1, 12, 0, 0, 0, 0, 3, 0, 0, 4, 0, 1, 0, 0, 0, 2, 3, 4, 0, 1, 0, 8, 5, 0, 0, 5, 0, 0, 3, 0, 1, 2, 3, 8, 0, 5, 0, 0, 5, 0, 0, 5, 0, 3, 0, 1, 2, 3, 0, 5, 0, 4, 5, 6, 7, 0, 5, 0, 8, 9] (steps [0, 0, 0, 0, 0, 9, 0, 0] nil))))))
noncomputable def awk_R  (ns : Nat → Sy.Let) : Sy.Res (Value × List Blk) :=
 let z0 := Array.mk [Value.pointer none]
 let z1 := Fn.func 55
 let z2 := Array.mk []
 let z3 := Array.mk [Value.pointer (some ⟨(ns 6).n, 0, none⟩), Value.pointer (some ⟨(ns 8).n, 0, none⟩), Value.pointer (some ⟨(ns 9).n, 0, none⟩)]
 let z4 := Cont.obj (Obj.cells (Array.mk [.pointer (some ⟨(ns 0).n, 0, none⟩)]) 25)
 let z5 := Fn.func 50
 let z6 := Array.mk [Value.pointer (some ⟨(ns 1).n, 0, none⟩), Value.pointer (some ⟨(ns 5).n, 0, none⟩), Value.pointer (some ⟨(ns 4).n, 0, none⟩), Value.pointer (some ⟨(ns 2).n, 0, none⟩)]
 leaf (Value.bool true, [Blk.mk (ns 12).n (Cont.obj (Obj.cells (Array.mk [.pointer (some ⟨(ns 11).n, 0, none⟩)]) 104)) true, Blk.mk (ns 11).n (Cont.obj (Obj.cells (Array.mk [.int .u64 7, .pointer none]) 113)) true, Blk.mk (ns 10).n (Cont.obj (Obj.cells z0 104)) true, Blk.mk (ns 9).n (Cont.obj (Obj.cells (Array.mk [Value.func z1 z2 z3]) 1)) true, Blk.mk (ns 8).n (Cont.obj (Obj.cells (Array.mk [.pointer (some ⟨(ns 7).n, 0, none⟩)]) 48)) true, Blk.mk (ns 7).n (Cont.obj (Obj.cells (Array.mk [Value.func z1 z2 z3, .int .u32 1, .int .i64 2, .int .u64 7, .bool true, .slice none 0 0]) 100)) true, Blk.mk (ns 6).n z4 true, Blk.mk (ns 5).n (Cont.obj (Obj.cells (Array.mk [Value.func z5 z2 z6]) 1)) true, Blk.mk (ns 4).n (Cont.obj (Obj.cells (Array.mk [.pointer (some ⟨(ns 3).n, 0, none⟩)]) 48)) true, Blk.mk (ns 3).n (Cont.obj (Obj.cells (Array.mk [Value.func z5 z2 z6, .int .u32 1, .int .i64 2, .int .u64 7, .bool true, .slice none 0 0]) 100)) true, Blk.mk (ns 2).n (Cont.obj (Obj.cells (Array.mk [.int .u64 7]) 36)) true, Blk.mk (ns 1).n z4 true, Blk.mk (ns 0).n (Cont.obj (Obj.cells z0 110)) true])
theorem awk_run  : Sy.Ran (Sy.inB Tryd.prog Sy.S0 50 fAwake #[] []) awk_o (awk_R ) := ⟨fun _ => by kernel_rfl, fun _ => by kernel_rfl⟩
end Go.Proofs.YtjohknpmhlildaaDoor.At
namespace Go.Proofs.YtjohknpmhlildaaDoor.At
open Go Go.RowKit
open Go.Proofs.YtjohknpmhlildaaDoor.Sy (Let Blk Cont Bun ptr ptr0 bx tkB tkU clo)
def awC : Sy.CallC := ⟨fAwake, #[], True, ⟨[], [], 0, []⟩, [Sy.plainO (.bool true)]⟩
theorem awC_met : Sy.Meets Tryd.prog awC := by
 refine Sy.meets_ofB Sy.S0_holds mixed (Sy.Ent.refl _) awk_run fun _ ns => ?_
 simp only [awk_R, Sy.Res.holds]
 exact plain_leaf Sy.mH rfl rfl
end Go.Proofs.YtjohknpmhlildaaDoor.At
--@way 3
--@tail 0
namespace Go.Proofs.YtjohknpmhlildaaDoor.At
open Sy.O (fork nil step steps)
open Sy.Res (need hyp br leaf both)
open Go Go.RowKit
open Go.Proofs.YtjohknpmhlildaaDoor.Sy (Let Blk Cont Bun ptr ptr0 bx tkB tkU clo DoesB does_of S0_holds)
def stepsRd_o : Sy.O := (steps [0, 0, 0] nil)
noncomputable def stepsRd_R (tk : Nat) (nx vw : Value) (d n v : Int) (ok : Bool) (ns : Nat → Sy.Let) : Sy.Res (Value × List Blk) :=
 leaf (Value.int .i64 n, [Blk.mk tk (Cont.obj (Obj.cells (Array.mk [nx, .int .u32 d, .int .i64 n, .int .u64 v, .bool ok, vw]) 100)) false])
theorem stepsRd_run (tk : Nat) (nx vw : Value) (d n v : Int) (ok : Bool) : Sy.Ran (Sy.inB Tryd.prog Sy.S0 50 fSteps #[ptr tk] [⟨tk, (tkB tk nx d n v ok vw).2, false⟩]) stepsRd_o (stepsRd_R tk nx vw d n v ok) := ⟨fun _ => by kernel_rfl, fun _ => by kernel_rfl⟩
theorem steps_read (x : TaskH) : DoesB Tryd.prog fSteps #[ptr x.tk] [x.cell] [] fun r o => r = .int .i64 (x.d.steps : Int) ∧ o = [] := by
 refine does_of S0_holds mixed (Sy.Ent.refl _) (stepsRd_run x.tk x.nx (if x.d.pc = 0 then x.vw else nil0) (if x.d.pc = 0 then 1 else 0) x.d.steps (if x.d.pc = 0 then x.d.out else 0) (if x.d.pc = 0 then x.d.ok else false)) fun ns => ?_
 simp only [stepsRd_R, Sy.Res.holds]
 exact ⟨[], Sy.Ent.sub (List.nil_sublist _), trivial, rfl⟩
end Go.Proofs.YtjohknpmhlildaaDoor.At
namespace Go.Proofs.YtjohknpmhlildaaDoor.At
open Go Go.RowKit
open Go.Proofs.YtjohknpmhlildaaDoor.Sy (Let Blk Cont Bun ptr ptr0 bx tkB tkU clo DoesB usedK ownOf rdsOf Rep does_frame does_perm does_mono does_all does_of S0_holds bunO)
open Go.Proofs.YtjohknpmhlildaaDoor.As
structure okMade (thing room : Nat) (w : WorldD) : Prop where
 ht : 1 ≤ thing ∧ thing ≤ 5
 h1 : 1 ≤ room
 h2 : room ≤ 16
 hw : newW (thing : Int) (room : Int) = some w
def madeC (thing room : Nat) (w : WorldD) : Sy.CallC :=
 ⟨fMade, #[.int .i64 (thing : Int), .int .i64 (room : Int)], okMade thing room w, ⟨[], [tabB], 2, []⟩,
  [(⟨fun ns => Heap w (Sy.num ns 1) [] (bunO ns), fun _ => [], bunO⟩, fun ns => .tuple #[thV4 thing (Sy.num ns 1), .int .i64 0])]⟩
theorem madeC_met (thing room : Nat) (w : WorldD) : Sy.Meets Tryd.prog (madeC thing room w) := fun hok W hpre => by
 have hr := Rep.rep_use (c := [tabB]) hpre.use hpre.nodup
 refine (made_heap hok.ht hok.h1 hok.h2 hok.hw W hr).mono ?_
 rintro en W' ⟨v, out, rfl, h2, st, rfl, hH⟩
 exact ⟨_, Sy.mS _, [⟨0, 0, false, undef, [], out⟩, ⟨st, 0, false, undef, [], []⟩], rfl, Sy.post_of_ent h2 rfl hH⟩
open Go.Proofs.YtjohknpmhlildaaDoor.Sy (Let Blk Cont Bun ptr ptr0 bx tkB tkU clo DoesB usedK ownOf rdsOf Rep does_frame does_perm does_mono does_all does_of S0_holds bunO)
open Go.Proofs.YtjohknpmhlildaaDoor.As
structure okBegun (w : WorldD) (st : Nat) (tks : List Nat) (b : Bun) (kind : Nat) : Prop where
 heap : Heap w st tks b
 kind : As.kindOk w.thing kind
def begunC (w : WorldD) (st : Nat) (tks : List Nat) (b : Bun) (kind : Nat) (v slot : Int) : Sy.CallC :=
 ⟨fBegun, #[thV4 w.thing st, .int .i64 (kind : Int), .int .u64 v, .int .i64 slot], okBegun w st tks b kind, ⟨[], b, 2, []⟩,
  [(⟨fun ns => mayW w kind slot = true ∧ Heap (beginW w kind v slot) st (tks ++ [Sy.num ns 1]) (bunO ns), fun _ => [], bunO⟩, fun ns => .tuple #[ptr (Sy.num ns 1), .int .i64 0]),
   (⟨fun ns => mayW w kind slot = false ∧ Heap w st tks (bunO ns), fun _ => [], bunO⟩, fun ns => .tuple #[ptr0, .int .i64 1])]⟩
theorem begunC_met (w : WorldD) (st : Nat) (tks : List Nat) (b : Bun) (kind : Nat) (v slot : Int) : Sy.Meets Tryd.prog (begunC w st tks b kind v slot) := fun hok W hpre => by
 have hr := Rep.rep_use (c := b) hpre.use hpre.nodup
 refine (begin_heap hok.heap hok.kind v slot W hr).mono ?_
 rintro en W' ⟨r, out, rfl, h2, ⟨hm, tk, rfl, hH⟩ | ⟨hm, rfl, hH⟩⟩
 ·exact ⟨_, Sy.mH, [⟨0, 0, false, undef, [], out⟩, ⟨tk, 0, false, undef, [], []⟩], rfl, Sy.post_of_ent h2 rfl ⟨hm, hH⟩⟩
 ·exact ⟨_, Sy.mC _ (Sy.mS _), [⟨0, 0, false, undef, [], out⟩, ⟨0, 0, false, undef, [], []⟩], rfl, Sy.post_of_ent h2 rfl ⟨hm, hH⟩⟩
open Go.Proofs.YtjohknpmhlildaaDoor.Sy (Let Blk Cont Bun ptr ptr0 bx tkB tkU clo DoesB usedK ownOf rdsOf Rep does_frame does_perm does_mono does_all does_of S0_holds bunO)
open Go.Proofs.YtjohknpmhlildaaDoor.As
structure OpD where
 kind : Int
 n : Int
 v : Int
def OpD.cells (x : OpD) : List Value := [.int .i64 x.kind, .int .i64 x.n, .int .u64 x.v]
def opG (ops : List OpD) (i : Nat) : OpD := ops.getD i ⟨0, 0, 0⟩
def begO (w : WorldD) (x : OpD) : WorldD := if mayW w (kindW w.thing x.kind) x.n = true then beginW w (kindW w.thing x.kind) x.v x.n else w
def begsW (w : WorldD) (ops : List OpD) : WorldD := ops.foldl begO w
theorem begs_take (w : WorldD) (ops : List OpD) {i : Nat} (h : i < ops.length) : begsW w (ops.take (i + 1)) = begO (begsW w (ops.take i)) (opG ops i) := by
 unfold begsW opG
 rw [List.take_add_one, List.foldl_append, List.getD_eq_getElem?_getD, List.getElem?_eq_getElem h]
 rfl
theorem begO_thing (w : WorldD) (x : OpD) : (begO w x).thing = w.thing ∧ (begO w x).room = w.room := by
 unfold begO
 split <;> exact ⟨rfl, rfl⟩
theorem begs_thing (ops : List OpD) : ∀ w : WorldD, (begsW w ops).thing = w.thing ∧ (begsW w ops).room = w.room := by
 induction ops with
 | nil => exact fun w => ⟨rfl, rfl⟩
 | cons x l ih =>
   intro w
   have h := ih (begO w x)
   have h2 := begO_thing w x
   exact ⟨h.1.trans h2.1, h.2.trans h2.2⟩
theorem ok_begO {w : WorldD} (h : OkW w) (h5 : 1 ≤ w.thing ∧ w.thing ≤ 5) (x : OpD) : OkW (begO w x) := by
 unfold begO
 split
 ·exact ok_begin h (kind_ok h5 x.kind) x.v x.n
 ·exact h
theorem ok_begs (ops : List OpD) : ∀ {w : WorldD}, OkW w → 1 ≤ w.thing ∧ w.thing ≤ 5 → OkW (begsW w ops) := by
 induction ops with
 | nil => exact fun h _ => h
 | cons x l ih =>
   intro w h h5
   exact ih (ok_begO h h5 x) (by rw [(begO_thing w x).1]; exact h5)
theorem begO_len (w : WorldD) (x : OpD) : (begO w x).tasks.length ≤ w.tasks.length + 1 ∧ sumW (begO w x) = sumW w := by
 unfold begO
 split
 ·simp [beginW, sumW, taskW]
 ·exact ⟨Nat.le_succ _, rfl⟩
theorem begs_len (ops : List OpD) : ∀ w : WorldD, (begsW w ops).tasks.length ≤ w.tasks.length + ops.length ∧ sumW (begsW w ops) = sumW w := by
 induction ops with
 | nil => exact fun w => ⟨Nat.le_refl _, rfl⟩
 | cons x l ih =>
   intro w
   have h := ih (begO w x)
   have h2 := begO_len w x
   refine ⟨?_, h.2.trans h2.2⟩
   have h1 : (begsW (begO w x) l).tasks.length ≤ (begO w x).tasks.length + l.length := h.1
   rw [List.length_cons]
   show (begsW (begO w x) l).tasks.length ≤ _
   omega
def atC (c : Sy.CallC) (a : Array Value) : Sy.CallC := ⟨c.f, a, a = c.args ∧ c.ok, c.mem, c.outs⟩
theorem atC_met {c : Sy.CallC} (h : Sy.Meets Tryd.prog c) (a : Array Value) : Sy.Meets Tryd.prog (atC c a) := by
 rintro ⟨e, hok⟩
 have e : a = c.args := e
 subst e
 exact h hok
def intV (v : Value) : Int := match v with
 | .int _ i => i
 | _ => 0
def natV (v : Value) : Nat := (intV v).toNat
def begunA (w : WorldD) (st : Nat) (tks : List Nat) (b : Bun) (a : Array Value) : Sy.CallC := atC (begunC w st tks b (natV (Sy.argV a 1)) (intV (Sy.argV a 2)) (intV (Sy.argV a 3))) a
theorem begunA_met (w : WorldD) (st : Nat) (tks : List Nat) (b : Bun) (a : Array Value) : Sy.Meets Tryd.prog (begunA w st tks b a) := atC_met (begunC_met _ _ _ _ _ _ _) a
def tvI (i thing st : Nat) : Value := if thing = i then ptr st else ptr0
def madeD (thing room : Nat) (w : WorldD) : Sy.CallC :=
 ⟨fMade, #[.int .i64 (thing : Int), .int .i64 (room : Int)], okMade thing room w, ⟨[], [tabB], 2, []⟩,
  [(⟨fun ns => Heap w (Sy.num ns 1) [] (bunO ns), fun _ => [], bunO⟩, fun ns => .tuple #[.agg #[tvI 1 thing (Sy.num ns 1), tvI 2 thing (Sy.num ns 1), tvI 3 thing (Sy.num ns 1), tvI 4 thing (Sy.num ns 1), tvI 5 thing (Sy.num ns 1)], .int .i64 0])]⟩
theorem madeD_met (thing room : Nat) (w : WorldD) : Sy.Meets Tryd.prog (madeD thing room w) := madeC_met thing room w
def stV (thing : Nat) (v : Value) : Nat := @Classical.epsilon Nat ⟨0⟩ fun st => v = thV4 thing st
theorem th_inj {thing : Nat} (h : 1 ≤ thing ∧ thing ≤ 5) {a b : Nat} (e : thV4 thing a = thV4 thing b) : a = b := by
 have hc : thing = 1 ∨ thing = 2 ∨ thing = 3 ∨ thing = 4 ∨ thing = 5 := by omega
 rcases hc with rfl | rfl | rfl | rfl | rfl <;> simpa [thV4] using e
theorem stV_eq {thing : Nat} (h : 1 ≤ thing ∧ thing ≤ 5) (st : Nat) : stV thing (thV4 thing st) = st :=
 th_inj h (@Classical.epsilon_spec Nat (fun s => thV4 thing st = thV4 thing s) ⟨st, rfl⟩).symm
def namesOf (xs : List Value) : List Nat := xs.map Sy.ptrN
theorem names_ptrs (l : List Nat) : namesOf (ptrs l) = l := by
 unfold namesOf ptrs
 rw [List.map_map]
 exact List.map_id' _
def kindsV (w : WorldD) : List Value := w.tasks.map fun t => .int .i64 (t.kind : Int)
theorem kinds_begin (w : WorldD) (kind : Nat) (v slot : Int) : kindsV (beginW w kind v slot) = kindsV w ++ [.int .i64 (kind : Int)] := by
 simp [kindsV, beginW, taskW]
theorem heap_tab {w : WorldD} {st : Nat} {tks : List Nat} {b : Bun} (h : Heap w st tks b) : tabB ∈ b := by
 rcases h with ⟨-, xs, hx⟩ | ⟨b0, hb, -⟩
 ·exact hx.perm.mem_iff.2 (by simp)
 ·exact hb.mem_iff.2 (by simp)
end Go.Proofs.YtjohknpmhlildaaDoor.At
--@tail 0
namespace Go.Proofs.YtjohknpmhlildaaDoor.At
open Go Go.RowKit
open Go.Proofs.YtjohknpmhlildaaDoor.Sy (Let Blk Cont Bun ptr ptr0 bx tkB tkU clo bunO)
open Go.Proofs.YtjohknpmhlildaaDoor.As
abbrev tThg : TypeId := 31
end Go.Proofs.YtjohknpmhlildaaDoor.At
end
