/-
  An Update begins: explored, in range; An Update begins: what it does, 
-/
import Derived.Test.YtjohknpmhlildaaDoorPad
import Derived.Below
import Derived.ChangeSame
import Derived.Test.YtjohknpmhlildaaDoorRows
import Derived.SizedLaws
import Derived.Lib.SmallJoins
import Derived.Carry
import Derived.ProofKit
import Derived.OpenShut
import Derived.Deep.Slices
import Derived.Deep.Fields
import Derived.HandedShaped
import Derived.LaidMore
import Derived.Stop.Joined

noncomputable section
set_option linter.unusedVariables false
set_option linter.unusedSimpArgs false
--@way 3
--@tail 0
namespace Go.Proofs.YtjohknpmhlildaaDoor.At
open Sy.O (fork nil step steps)
open Sy.Res (need hyp br leaf both)
open Go Go.RowKit
open Go.Proofs.YtjohknpmhlildaaDoor.Sy (Let Blk Cont Bun ptr ptr0 bx tkB tkU clo)
def ptN (v : Value) : Nat := match v with
 | .pointer (some a) => a.block
 | _ => 0
def ag1 (a : Array Value) : Value := match a.toList with
 | [_, x] => x
 | _ => undef
def ctxUp (st rr lr room : Nat) (i : Int) (rf : Bool) (xs : List Value) (B : Bun) : Sy.Ctx :=
 Sy.withRg (Sy.mkS [(fScan, fun a _ => scanK st rr lr room (ag1 a))] [] []) [(fUpd, 1, fun a _ => rgK (ptN (a.get 3)) (ptN (a.get 4)) (ptN (a.get 5)) st rr lr room i rf xs B)]
theorem ctxUp_holds (st rr lr room : Nat) (i : Int) (rf : Bool) (xs : List Value) (B : Bun) : (ctxUp st rr lr room i rf xs B).holds Tryd.prog := Sy.withRg_holds (Sy.mkS_holds (fun p hp a L => by
 rcases List.mem_singleton.1 hp with rfl
 exact scanK_met _ _ _ _ _) (fun _ h => (by cases h)) (fun _ h => (by cases h))) (fun p hp a L => by
 rcases List.mem_singleton.1 hp with rfl
 exact rgK_met _ _ _ _ _ _ _ _ _ _ _)
def up8_o : Sy.O := (steps [0, 0, 0, 0, 0, 0, 0, 0, 0, 0, 0, 0, 2, 1, 1, 1, 2, 1, 2, 1, 1, 0, 0, 1] (fork nil (steps [0, 0, 0, 0, 2, 1, 0, 1, 1, 3, 0, 0, 1, 0, 1, 2, 3, 0, 0, 0, 4, 0, 2, 0, 5, 6, 0, 1, 10, 3, 0, 1] nil)))
noncomputable def up8_R (st rr lr room : Nat) (i v : Int) (rf : Bool) (xs : List Value) (B : Bun) (TL : List Blk) (ns : Nat → Sy.Let) : Sy.Res (Value × List Blk) :=
 let z0 := some (Addr.mk st 0 none)
 let z1 := Cont.obj (Obj.cells (Array.mk [.pointer z0]) 28)
 let z2 := Cont.obj (Obj.cells (Array.mk [.int .i64 i]) 3)
 let z3 := Cont.obj (Obj.cells (Array.mk [.slice (some ⟨rr, 0, none⟩) room room, .slice (some ⟨lr, 0, none⟩) room room]) 132)
 let z4 := Cont.row 48 1 room room xs
 let z5 := Cont.obj (Obj.cells (Array.mk [.int .u64 v]) 36)
 let z6 := Cont.obj (Obj.cells (Array.mk [.pointer none, .pointer none, .pointer none, .pointer z0, .pointer none]) 31)
 let z7 := Array.mk [Value.pointer z0, Value.func (Fn.func 76) (Array.mk []) (Array.mk [Value.pointer (some (Addr.mk (ptN (Value.pointer (some ⟨(ns 1).n, 0, none⟩))) 0 none)), Value.pointer (some (Addr.mk (ptN (Value.pointer (some ⟨(ns 2).n, 0, none⟩))) 0 none)), Value.pointer (some (Addr.mk (ptN (Value.pointer (some ⟨(ns 3).n, 0, none⟩))) 0 none))])]
 let z8 := some (Addr.mk (ns 5).n 0 none)
 need (True ∧ 0 ≤ i ∧ i < (↑room : Int) ∧ LastR xs B (Int.toNat i) rf) (need (Sy.GotL (Blk.mk (ns 1).n z1 true :: Blk.mk (ns 2).n z2 true :: Blk.mk st z3 false :: Blk.mk lr z4 true :: Blk.mk (ns 3).n z5 true :: Blk.mk (ns 0).n z6 true :: TL) B) (hyp True (br rf (leaf (Value.tuple (Array.mk [.pointer none, .int .i64 1]), Blk.mk (ns 1).n z1 true :: Blk.mk (ns 2).n z2 true :: Blk.mk st z3 false :: Blk.mk lr z4 true :: Blk.mk (ns 3).n z5 true :: Blk.mk (ns 0).n z6 true :: TL)) (need (True ∧ ScanA st rr lr room (ag1 z7)) (hyp (∃ (tk : Nat), ∃ (gb : Nat), ∃ (hb : Nat), ∃ (tb : Nat), ∃ (g : Nat), ∃ (mr : Nat), Value.pointer z8 = Value.pointer (some ⟨tk, 0, none⟩) ∧ Let.q (ns 5) = [(tk, Cont.obj (Obj.cells (Array.mk [Value.func (Fn.func 95) (Array.mk []) (Array.mk [.pointer (some ⟨gb, 0, none⟩), .pointer (some ⟨hb, 0, none⟩), .pointer (some ⟨tb, 0, none⟩)]), .int .u32 0, .int .i64 0, .int .u64 0, .bool false, .slice none 0 0]) 100)), (gb, Cont.obj (Obj.cells (Array.mk [.pointer (some ⟨g, 0, none⟩)]) 177)), (hb, Cont.obj (Obj.cells (Array.mk [ag1 z7]) 152)), (tb, Cont.obj (Obj.cells (Array.mk [.pointer (some ⟨tk, 0, none⟩)]) 48)), (g, Cont.obj (Obj.cells (Array.mk [.pointer z0, .slice none 0 0, .slice none 0 0, .slice (some ⟨mr, 0, none⟩) room room]) 180)), (mr, Cont.row 4 1 room room (bools (List.replicate room false)))]) (need (0 ≤ i ∧ i < (↑room : Int)) (need (0 + Int.toNat i * 1 < List.length xs) (leaf (Value.tuple (Array.mk [.pointer z8, .int .i64 0]), Blk.mk st z3 false :: Blk.mk
 (ns 1).n z1 true :: Blk.mk (ns 2).n z2 true :: Blk.mk lr (Cont.row 48 1 room room (List.set xs (0 + Int.toNat i * 1) (Value.pointer z8))) true :: Blk.mk (ns 3).n z5 true :: Blk.mk (ns 0).n z6 true :: TL.append (List.map (fun (p : Nat × Cont) => Blk.mk (Prod.fst p) (Prod.snd p) true) (Let.q (ns 5))))))))))))
theorem up8_run (st rr lr room : Nat) (i v : Int) (rf : Bool) (xs : List Value) (B : Bun) (TL : List Blk) : Sy.Ran (Sy.inB Tryd.prog (ctxUp st rr lr room i rf xs B) 50 fBegun #[thT ptr0 ptr0 ptr0 (ptr st) ptr0, .int .i64 8, .int .u64 v, .int .i64 i] (⟨st, (snB st rr lr room).2, false⟩ :: ⟨lr, .row tTP 1 room room xs, true⟩ :: TL)) up8_o (up8_R st rr lr room i v rf xs B TL) := ⟨fun _ => by kernel_rfl, fun _ => by kernel_rfl⟩
end Go.Proofs.YtjohknpmhlildaaDoor.At
namespace Go.Proofs.YtjohknpmhlildaaDoor.At
open Go Go.RowKit
open Go.Proofs.YtjohknpmhlildaaDoor.Sy (Let Blk Cont Bun ptr ptr0 bx tkB tkU clo DoesB usedK ownOf rdsOf Rep does_frame does_perm does_mono does_all does_of S0_holds bunO)
open Go.Proofs.YtjohknpmhlildaaDoor.As
abbrev ltB (lr room : Nat) (xs : List Value) : Nat × Cont := (lr, .row tTP 1 room room xs)
def up8Q (st lr room j : Nat) (v : Int) (rf : Bool) (xs : List Value) (r : Value) (o : Bun) : Prop :=
 (rf = true ∧ r = .tuple #[ptr0, .int .i64 1] ∧ o = [ltB lr room xs]) ∨
 (rf = false ∧ ∃ tk sb ib vb q, r = .tuple #[ptr tk, .int .i64 0] ∧ scQ st (cTh8 sb ib vb) room (ptr tk) q ∧ o = [bx sb tSnP (ptr st), bx ib tI (.int .i64 (j : Int)), ltB lr room (xs.set j (ptr tk)), bx vb tU (.int .u64 v)] ++ q)
theorem up8_does (st rr lr room j : Nat) (h1 : 1 ≤ room) (h2 : room ≤ 16) (hj : j < room) (v : Int) (rf : Bool) (xs : List Value) (hx : xs.length = room) (B : Bun) (hl : LastR xs B j rf) :
  DoesB Tryd.prog fBegun #[thT ptr0 ptr0 ptr0 (ptr st) ptr0, .int .i64 8, .int .u64 v, .int .i64 (j : Int)] (snB st rr lr room :: B) [ltB lr room xs] (up8Q st lr room j v rf xs) := by
 have hent : Sy.Ent (rdsOf (snB st rr lr room :: B) ++ [ltB lr room xs].map ownOf) (⟨st, (snB st rr lr room).2, false⟩ :: ⟨lr, .row tTP 1 room room xs, true⟩ :: rdsOf B) := Sy.Ent.perm (List.Perm.cons _ (List.perm_append_comm (l₁ := rdsOf B) (l₂ := [(⟨lr, .row tTP 1 room room xs, true⟩ : Blk)])))
 refine does_of (ctxUp_holds st rr lr room (j : Int) rf xs B) mixed hent (up8_run st rr lr room (j : Int) v rf xs B (rdsOf B)) fun ns => ?_
 simp only [up8_R, Sy.Res.holds]
 have hsp : 0 + Int.toNat (j : Int) * 1 = j := by simp
 refine ⟨⟨trivial, by omega, by omega, by rw [Int.toNat_natCast]; exact hl⟩, fun p hp => ⟨⟨p.1, p.2, false⟩, Sy.mC _ (Sy.mC _ (Sy.mC _ (Sy.mC _ (Sy.mC _ (Sy.mC _ (List.mem_map.2 ⟨p, hp, rfl⟩)))))), rfl, fun _ h => h⟩, fun _ => ⟨fun hrf => ?_, fun hrf => ?_⟩⟩
 ·exact ⟨[ltB lr room xs], Sy.Ent.sub (.cons _ (.cons _ (.cons _ (.cons_cons _ (List.nil_sublist _))))), .inl ⟨hrf, rfl, rfl⟩⟩
 ·refine ⟨⟨trivial, sc8_does st rr lr room (ns 1).n (ns 2).n (ns 3).n h1 h2⟩, fun hq => ⟨⟨by omega, by omega⟩, by rw [hsp, hx]; exact hj, ?_⟩⟩
  rw [hsp]
  exact ⟨[bx (ns 1).n tSnP (ptr st), bx (ns 2).n tI (.int .i64 (j : Int)), ltB lr room (xs.set j (ptr (ns 5).n)), bx (ns 3).n tU (.int .u64 v)] ++ (ns 5).q, Sy.Ent.trans (Sy.Ent.sub (B := ⟨(ns 1).n, (bx (ns 1).n tSnP (ptr st)).2, true⟩ :: ⟨(ns 2).n, (bx (ns 2).n tI (.int .i64 (j : Int))).2, true⟩ :: ⟨lr, .row tTP 1 room room (xs.set j (ptr (ns 5).n)), true⟩ :: ⟨(ns 3).n, (bx (ns 3).n tU (.int .u64 v)).2, true⟩ :: (ns 5).q.map ownOf) (.cons _ (.cons_cons _ (.cons_cons _ (.cons_cons _ (.cons_cons _ (.cons _ (List.sublist_append_right _ _)))))))) (Sy.Ent.refl _), .inr ⟨hrf, (ns 5).n, (ns 1).n, (ns 2).n, (ns 3).n, (ns 5).q, rfl, hq, rfl⟩⟩
open Go.Proofs.YtjohknpmhlildaaDoor.Sy (Let Blk Cont Bun ptr ptr0 bx tkB tkU clo)
def outC (st rr lr room : Nat) (i v : Int) : Sy.CallC := ⟨fUpd, #[ptr st, .int .i64 i, .int .u64 v], True ∧ ((1 ≤ room ∧ room ≤ 16) ∧ (i < 0 ∨ (room : Int) ≤ i)), ⟨[snB st rr lr room], [], 0, []⟩, [Sy.plainO (.tuple #[ptr0, .int .i64 1])]⟩
theorem outC_met (st rr lr room : Nat) (i v : Int) : Sy.Meets Tryd.prog (outC st rr lr room i v) := by
 by_cases hok : (1 ≤ room ∧ room ≤ 16) ∧ (i < 0 ∨ (room : Int) ≤ i)
 rotate_left
 ·intro h
  exact absurd h.2 hok
 obtain ⟨⟨h1, h2⟩, hi⟩ := hok
 rcases hi with hi | hi
 ·obtain ⟨k, rfl⟩ := Int.eq_negSucc_of_lt_zero hi
  refine Sy.meets_ofB Sy.S0_holds mixed (Sy.Ent.refl _) (upM_run st rr lr room k v []) fun _ ns => ?_
  simp only [upM_R, Sy.Res.holds]
  exact plain_leaf Sy.mH rfl rfl
 ·obtain ⟨k, rfl⟩ : ∃ k : Nat, i = Int.ofNat (k + room) := ⟨(i - room).toNat, by show i = (((i - room).toNat + room : Nat) : Int); omega⟩
  have h : room = 1 ∨ room = 2 ∨ room = 3 ∨ room = 4 ∨ room = 5 ∨ room = 6 ∨ room = 7 ∨ room = 8 ∨ room = 9 ∨ room = 10 ∨ room = 11 ∨ room = 12 ∨ room = 13 ∨ room = 14 ∨ room = 15 ∨ room = 16 := by omega
  rcases h with rfl | rfl | rfl | rfl | rfl | rfl | rfl | rfl | rfl | rfl | rfl | rfl | rfl | rfl | rfl | rfl
  ·refine Sy.meets_ofB Sy.S0_holds mixed (Sy.Ent.refl _) (upG1_run st rr lr k v []) fun _ ns => ?_
   simp only [upG1_R, Sy.Res.holds]
   exact plain_leaf Sy.mH rfl rfl
  ·refine Sy.meets_ofB Sy.S0_holds mixed (Sy.Ent.refl _) (upG2_run st rr lr k v []) fun _ ns => ?_
   simp only [upG2_R, Sy.Res.holds]
   exact plain_leaf Sy.mH rfl rfl
  ·refine Sy.meets_ofB Sy.S0_holds mixed (Sy.Ent.refl _) (upG3_run st rr lr k v []) fun _ ns => ?_
   simp only [upG3_R, Sy.Res.holds]
   exact plain_leaf Sy.mH rfl rfl
  ·refine Sy.meets_ofB Sy.S0_holds mixed (Sy.Ent.refl _) (upG4_run st rr lr k v []) fun _ ns => ?_
   simp only [upG4_R, Sy.Res.holds]
   exact plain_leaf Sy.mH rfl rfl
  ·refine Sy.meets_ofB Sy.S0_holds mixed (Sy.Ent.refl _) (upG5_run st rr lr k v []) fun _ ns => ?_
   simp only [upG5_R, Sy.Res.holds]
   exact plain_leaf Sy.mH rfl rfl
  ·refine Sy.meets_ofB Sy.S0_holds mixed (Sy.Ent.refl _) (upG6_run st rr lr k v []) fun _ ns => ?_
   simp only [upG6_R, Sy.Res.holds]
   exact plain_leaf Sy.mH rfl rfl
  ·refine Sy.meets_ofB Sy.S0_holds mixed (Sy.Ent.refl _) (upG7_run st rr lr k v []) fun _ ns => ?_
   simp only [upG7_R, Sy.Res.holds]
   exact plain_leaf Sy.mH rfl rfl
  ·refine Sy.meets_ofB Sy.S0_holds mixed (Sy.Ent.refl _) (upG8_run st rr lr k v []) fun _ ns => ?_
   simp only [upG8_R, Sy.Res.holds]
   exact plain_leaf Sy.mH rfl rfl
  ·refine Sy.meets_ofB Sy.S0_holds mixed (Sy.Ent.refl _) (upG9_run st rr lr k v []) fun _ ns => ?_
   simp only [upG9_R, Sy.Res.holds]
   exact plain_leaf Sy.mH rfl rfl
  ·refine Sy.meets_ofB Sy.S0_holds mixed (Sy.Ent.refl _) (upG10_run st rr lr k v []) fun _ ns => ?_
   simp only [upG10_R, Sy.Res.holds]
   exact plain_leaf Sy.mH rfl rfl
  ·refine Sy.meets_ofB Sy.S0_holds mixed (Sy.Ent.refl _) (upG11_run st rr lr k v []) fun _ ns => ?_
   simp only [upG11_R, Sy.Res.holds]
   exact plain_leaf Sy.mH rfl rfl
  ·refine Sy.meets_ofB Sy.S0_holds mixed (Sy.Ent.refl _) (upG12_run st rr lr k v []) fun _ ns => ?_
   simp only [upG12_R, Sy.Res.holds]
   exact plain_leaf Sy.mH rfl rfl
  ·refine Sy.meets_ofB Sy.S0_holds mixed (Sy.Ent.refl _) (upG13_run st rr lr k v []) fun _ ns => ?_
   simp only [upG13_R, Sy.Res.holds]
   exact plain_leaf Sy.mH rfl rfl
  ·refine Sy.meets_ofB Sy.S0_holds mixed (Sy.Ent.refl _) (upG14_run st rr lr k v []) fun _ ns => ?_
   simp only [upG14_R, Sy.Res.holds]
   exact plain_leaf Sy.mH rfl rfl
  ·refine Sy.meets_ofB Sy.S0_holds mixed (Sy.Ent.refl _) (upG15_run st rr lr k v []) fun _ ns => ?_
   simp only [upG15_R, Sy.Res.holds]
   exact plain_leaf Sy.mH rfl rfl
  ·refine Sy.meets_ofB Sy.S0_holds mixed (Sy.Ent.refl _) (upG16_run st rr lr k v []) fun _ ns => ?_
   simp only [upG16_R, Sy.Res.holds]
   exact plain_leaf Sy.mH rfl rfl
def ctxOut (st rr lr room : Nat) (i v : Int) : Sy.Ctx := Sy.mkS [(fUpd, fun _ _ => outC st rr lr room i v)] [] []
theorem ctxOut_holds (st rr lr room : Nat) (i v : Int) : (ctxOut st rr lr room i v).holds Tryd.prog := Sy.mkS_holds (fun p hp a L => by
 rcases List.mem_singleton.1 hp with rfl
 exact outC_met _ _ _ _ _ _) (fun _ h => (by cases h)) (fun _ h => (by cases h))
end Go.Proofs.YtjohknpmhlildaaDoor.At
--@way 3
--@tail 0
namespace Go.Proofs.YtjohknpmhlildaaDoor.At
open Sy.O (fork nil step steps)
open Sy.Res (need hyp br leaf both)
open Go Go.RowKit
open Go.Proofs.YtjohknpmhlildaaDoor.Sy (Let Blk Cont Bun ptr ptr0 bx tkB tkU clo)
def bg8_o : Sy.O := (steps [0, 0, 0, 0, 0, 0, 0, 0, 0, 0, 0, 0, 1, 1, 0, 0, 1] nil)
noncomputable def bg8_R (st rr lr room : Nat) (i v : Int) (TL : List Blk) (ns : Nat → Sy.Let) : Sy.Res (Value × List Blk) :=
 need (True ∧ (1 ≤ room ∧ room ≤ 16) ∧ (i < 0 ∨ (↑room : Int) ≤ i)) (hyp True (leaf (Value.tuple (Array.mk [.pointer none, .int .i64 1]), Blk.mk st (Cont.obj (Obj.cells (Array.mk [.slice (some ⟨rr, 0, none⟩) room room, .slice (some ⟨lr, 0, none⟩) room room]) 132)) false :: Blk.mk (ns 0).n (Cont.obj (Obj.cells (Array.mk [.pointer none, .pointer none, .pointer none, .pointer (some ⟨st, 0, none⟩), .pointer none]) 31)) true :: TL)))
theorem bg8_run (st rr lr room : Nat) (i v : Int) (TL : List Blk) : Sy.Ran (Sy.inB Tryd.prog (ctxOut st rr lr room i v) 50 fBegun #[thT ptr0 ptr0 ptr0 (ptr st) ptr0, .int .i64 8, .int .u64 v, .int .i64 i] (⟨st, (snB st rr lr room).2, false⟩ :: TL)) bg8_o (bg8_R st rr lr room i v TL) := ⟨fun _ => by kernel_rfl, fun _ => by kernel_rfl⟩
end Go.Proofs.YtjohknpmhlildaaDoor.At
namespace Go.Proofs.YtjohknpmhlildaaDoor.At
open Go Go.RowKit
open Go.Proofs.YtjohknpmhlildaaDoor.Sy (Let Blk Cont Bun ptr ptr0 bx tkB tkU clo DoesB usedK ownOf rdsOf Rep does_frame does_perm does_mono does_all does_of S0_holds bunO)
open Go.Proofs.YtjohknpmhlildaaDoor.As
def mayQ (H : WorldD → List Nat → Bun → Prop) (w : WorldD) (kind : Nat) (v slot : Int) (tks : List Nat) (r : Value) (o : Bun) : Prop :=
 (mayW w kind slot = true ∧ beginQ H w kind v slot tks r o) ∨ (mayW w kind slot = false ∧ r = .tuple #[ptr0, .int .i64 1] ∧ H w tks o)
theorem out8_does (st rr lr room : Nat) (h1 : 1 ≤ room) (h2 : room ≤ 16) (i v : Int) (hi : i < 0 ∨ (room : Int) ≤ i) : DoesB Tryd.prog fBegun #[thT ptr0 ptr0 ptr0 (ptr st) ptr0, .int .i64 8, .int .u64 v, .int .i64 i] [snB st rr lr room] [] (fun r o => r = .tuple #[ptr0, .int .i64 1] ∧ o = []) := by
 refine does_of (ctxOut_holds st rr lr room i v) mixed (Sy.Ent.refl _) (bg8_run st rr lr room i v []) fun ns => ?_
 simp only [bg8_R, Sy.Res.holds]
 exact ⟨⟨trivial, ⟨h1, h2⟩, hi⟩, fun _ => ⟨[], Sy.Ent.sub (List.nil_sublist _), trivial, rfl⟩⟩
abbrev lsV (tks : List Nat) (busy : List Int) : List Value := busy.map fun n => if n < 0 then ptr0 else ptr (tks.getD n.toNat 0)
theorem cell_in {xs : List TaskH} {x : TaskH} (h : x ∈ xs) : x.cell ∈ allH xs := List.mem_flatMap.2 ⟨x, h, Sy.mH⟩
theorem begin_snap8 {w : WorldD} {st : Nat} {tks : List Nat} {b : Bun} (hH : HeapN w st tks b) (v slot : Int) : DoesB Tryd.prog fBegun #[thT ptr0 ptr0 ptr0 (ptr st) ptr0, .int .i64 8, .int .u64 v, .int .i64 slot] [] b (mayQ (fun w t o => HeapN w st t o) w 8 v slot tks) := by
 obtain ⟨xs, Z, hx⟩ := hH
 have hzst := hx.zst
 subst hzst
 obtain ⟨hr1, hr2⟩ := hx.room
 have hself : ∀ o : Bun, o.Perm b → HeapN w Z.st tks o := fun o ho => ⟨xs, Z, { hx with perm := ho.trans hx.perm }⟩
 by_cases hin : slot < 0 ∨ (w.room : Int) ≤ slot
 ·have hmay : mayW w 8 slot = false := by unfold mayW; rw [if_pos rfl, if_pos hin]
  have hb : ([] ++ b).Perm b := List.Perm.refl _
  refine does_all (oth := b) (out8_does Z.st Z.rr Z.lr w.room hr1 hr2 slot v hin) (fun p hp => ?_) hb fun r o hq => ⟨b, ?_, .inr ⟨hmay, hq.1, hself b (List.Perm.refl _)⟩⟩
  ·rw [List.mem_singleton.1 hp]
   exact hx.perm.mem_iff.2 (Sy.mL _ Sy.mH)
  ·rw [hq.2]
   exact List.Perm.refl _
 ·obtain ⟨j, rfl⟩ := Int.eq_ofNat_of_zero_le (show 0 ≤ slot by omega)
  have hj : j < w.room := by omega
  have hjb : j < w.busy.length := by rw [hx.blen]; exact hj
  obtain ⟨nb, hnb⟩ : ∃ nb, w.busy[j]? = some nb := ⟨_, List.getElem?_eq_getElem hjb⟩
  have hls : (lsV tks w.busy)[j]? = some (if nb < 0 then ptr0 else ptr (tks.getD nb.toNat 0)) := by rw [List.getElem?_map, hnb]; rfl
  have hlen : tks.length = w.tasks.length := by rw [← hx.tk, ← hx.d]; simp
  obtain ⟨rf, hrf, hmay⟩ : ∃ rf, LastR (lsV tks w.busy) (xs.map TaskH.cell) j rf ∧ mayW w 8 (j : Int) = !rf := by
   have hmw : mayW w 8 (j : Int) = if nb < 0 then true else match w.tasks[nb.toNat]? with | some t => t.pc == 0 | none => true := by
    unfold mayW
    rw [if_pos rfl, if_neg hin, Int.toNat_natCast, hnb]
    rfl
   by_cases hn : nb < 0
   ·rw [if_pos hn] at hls hmw
    exact ⟨false, .none hls, hmw⟩
   ·rw [if_neg hn] at hls hmw
    have hnl : nb.toNat < w.tasks.length := by have := hx.bz nb (List.mem_of_getElem? hnb); omega
    obtain ⟨t, ht⟩ : ∃ t, w.tasks[nb.toNat]? = some t := ⟨_, List.getElem?_eq_getElem hnl⟩
    obtain ⟨x, hxx, hxd⟩ := at_d hx.d ht
    have htk : tks.getD nb.toNat 0 = x.tk := by
     rw [← hx.tk, List.getD_eq_getElem?_getD, List.getElem?_map, hxx]
     rfl
    rw [htk] at hls
    rw [ht] at hmw
    have hmem : x.cell ∈ xs.map TaskH.cell := List.mem_map.2 ⟨x, List.mem_of_getElem? hxx, rfl⟩
    by_cases hp : x.d.pc = 0
    ·rw [TaskH.cell_end hp] at hmem
     exact ⟨false, .done _ _ _ _ _ _ hls hmem, by rw [hmw, ← hxd]; show (x.d.pc == 0) = !false; rw [hp]; rfl⟩
    ·rw [TaskH.cell_on hp] at hmem
     exact ⟨true, .on _ _ _ _ _ _ hls hmem, by rw [hmw, ← hxd]; show (x.d.pc == 0) = !true; exact beq_eq_false_iff_ne.2 hp⟩
  have hp : ([ltB Z.lr w.room (lsV tks w.busy)] ++ (thN Z.st Z.rr Z.lr w.room (ptrs (nms Z w.cells)) ++ (allH xs ++ (stS Z w.room ++ vwS w.room Z.rows)))).Perm b := by
   refine List.Perm.trans ?_ hx.perm.symm
   show List.Perm _ (thN Z.st Z.rr Z.lr w.room (ptrs (nms Z w.cells)) ++ (allH xs ++ ([] ++ (stS Z w.room ++ (vwS w.room Z.rows ++ [ltB Z.lr w.room (lsV tks w.busy)])))))
   letI : DecidableEq (Nat × Cont) := Classical.typeDecidableEq _
   refine List.perm_iff_count.2 fun p => ?_
   simp only [List.count_append, List.count_nil]
   omega
  refine does_all (up8_does Z.st Z.rr Z.lr w.room j hr1 hr2 hj v rf (lsV tks w.busy) (by rw [List.length_map, hx.blen]) (xs.map TaskH.cell) hrf) (fun p hp => ?_) hp fun r o hq => ?_
  ·rcases List.mem_cons.1 hp with rfl | hp
   ·exact Sy.mL _ Sy.mH
   ·obtain ⟨x, hxm, rfl⟩ := List.mem_map.1 hp
    exact Sy.mR _ (Sy.mL _ (cell_in hxm))
  rcases hq with ⟨rfl, rfl, rfl⟩ | ⟨rfl, tk, sb, ib, vb, q, rfl, hsc, rfl⟩
  ·exact ⟨b, hp, .inr ⟨hmay, rfl, hself b (List.Perm.refl _)⟩⟩
  ·obtain ⟨tk', gb, hb', tb, g, mr, he, rfl⟩ := hsc
   have he := ptr_inj he
   subst he
   obtain ⟨y, hy⟩ : ∃ y : TaskH, y = ⟨taskW w 8 v (j : Int), tk, cScan gb hb' tb, nil0, scanAll Z.st gb hb' tb tk g mr w.room (some ⟨sb, ib, vb, (j : Int), v⟩) none 0 [] none w.room [] (List.replicate w.room false)⟩ := ⟨_, rfl⟩
   have hall : y.all = [tkU tk (cScan gb hb' tb) 0, bx gb tGP (ptr g), bx hb' tTh (cTh8 sb ib vb), bx tb tTP (ptr tk), sgB g Z.st (.slice none 0 0) (.slice none 0 0) (sl mr w.room w.room), blB mr w.room (bools (List.replicate w.room false))] ++ [bx sb tSnP (ptr Z.st), bx ib tI (.int .i64 (j : Int)), bx vb tU (.int .u64 v)] := by
    subst hy
    rw [all_new (by show (1 : Nat) ≠ 0; decide) rfl]
    rfl
   have hbusy : (beginW w 8 v (j : Int)).busy = w.busy.set j (w.tasks.length : Int) := by
    show (if 8 = 8 then w.busy.set (j : Int).toNat (w.tasks.length : Int) else w.busy) = _
    rw [if_pos rfl, Int.toNat_natCast]
   have hlast : lsB Z.lr w.room (tks ++ [tk]) (w.busy.set j (w.tasks.length : Int)) = ltB Z.lr w.room ((lsV tks w.busy).set j (ptr tk)) := by
    have e1 := last_app hx.bz Z.lr w.room tk
    unfold lsB at e1 ⊢
    rw [List.map_set]
    injection e1 with _ e1
    injection e1 with _ _ _ _ e1
    rw [e1, if_neg (by omega)]
    have : (tks ++ [tk]).getD (w.tasks.length : Int).toNat 0 = tk := by rw [Int.toNat_natCast, ← hlen]; simp
    rw [this]
   refine ⟨_, List.Perm.refl _, .inl ⟨hmay, tk, rfl, xs ++ [y], Z, hx.thing, rfl, map_app1 hx.d (by subst hy; rfl), map_app1 hx.tk (by subst hy; rfl), all_app hx.ok (by subst hy; exact scan_new hx.room (.inr rfl) v (j : Int) (some ⟨sb, ib, vb, (j : Int), v⟩) ⟨rfl, rfl, rfl, by show (0 : Int) ≤ (j : Int); omega, by show (j : Int) < _; omega⟩ tk gb hb' tb g mr nil0), hx.room, hx.ini, hx.clen, hx.cb, hx.states, hx.rv, ?_, fun m hm => ?_, ?_⟩⟩
   ·rw [hbusy, List.length_set]
    exact hx.blen
   ·rw [hbusy] at hm
    rw [List.length_append]
    show m < ((tks.length + 1 : Nat) : Int)
    rcases List.mem_or_eq_of_mem_set hm with hm | rfl
    ·have := hx.bz m hm
     omega
    ·omega
   ·show List.Perm _ (thN Z.st Z.rr Z.lr w.room (ptrs (nms Z w.cells)) ++ (allH (xs ++ [y]) ++ ([] ++ (stS Z w.room ++ (vwS w.room Z.rows ++ [lsB Z.lr w.room (tks ++ [tk]) (beginW w 8 v (j : Int)).busy])))))
    rw [hbusy, hlast]
    have e : allH (xs ++ [y]) = allH xs ++ y.all := by simp [allH]
    rw [e, hall]
    letI : DecidableEq (Nat × Cont) := Classical.typeDecidableEq _
    refine List.perm_iff_count.2 fun p => ?_
    simp only [List.count_append, List.count_nil, List.count_cons]
    omega
open Go.Proofs.YtjohknpmhlildaaDoor.Sy (Let Blk Cont Bun ptr ptr0 bx tkB tkU clo DoesB usedK ownOf rdsOf Rep does_frame does_perm does_mono does_all does_of S0_holds bunO)
open Go.Proofs.YtjohknpmhlildaaDoor.As
theorem may_other {w : WorldD} {kind : Nat} (h : kind ≠ 8) (slot : Int) : mayW w kind slot = true := by
 unfold mayW
 rw [if_neg h]
theorem beginQ_mono {H H' : WorldD → List Nat → Bun → Prop} {w : WorldD} {kind : Nat} {v slot : Int} {tks : List Nat} (h : ∀ t o, H (beginW w kind v slot) t o → H' (beginW w kind v slot) t o) {r : Value} {o : Bun} (hq : beginQ H w kind v slot tks r o) : beginQ H' w kind v slot tks r o := by
 obtain ⟨tk, h1, h2⟩ := hq
 exact ⟨tk, h1, h _ _ h2⟩
theorem begin_heapX {w : WorldD} {st : Nat} {tks : List Nat} {b : Bun} (hH : HeapX w st tks b) {kind : Nat} (hk : As.kindOk w.thing kind) (v slot : Int) :
  DoesB Tryd.prog fBegun #[thV4 w.thing st, .int .i64 (kind : Int), .int .u64 v, .int .i64 slot] [] b (mayQ (fun w t o => HeapX w st t o) w kind v slot tks) := by
 unfold As.kindOk at hk
 rcases hH with ⟨e, h⟩ | ⟨e, h⟩ | ⟨e, h⟩ | ⟨e, h⟩
 ·rw [e] at hk ⊢
  have hk : kind = 1 ∨ kind = 2 := by omega
  rcases hk with rfl | rfl
  ·exact does_mono (begin_stack h fun nd => bg1_does w st v slot nd) fun r o hq => .inl ⟨may_other (by decide) _, beginQ_mono (fun t o ho => .inl ⟨e, ho⟩) hq⟩
  ·exact does_mono (begin_stack h fun nd => bg2_does w st v slot nd) fun r o hq => .inl ⟨may_other (by decide) _, beginQ_mono (fun t o ho => .inl ⟨e, ho⟩) hq⟩
 ·rw [e] at hk ⊢
  have hk : kind = 3 ∨ kind = 4 := by omega
  rcases hk with rfl | rfl
  ·exact does_mono (begin_queue h fun nd => bg3_does w st v slot nd) fun r o hq => .inl ⟨may_other (by decide) _, beginQ_mono (fun t o ho => .inr (.inl ⟨e, ho⟩)) hq⟩
  ·exact does_mono (begin_queue h fun nd => bg4_does w st v slot nd) fun r o hq => .inl ⟨may_other (by decide) _, beginQ_mono (fun t o ho => .inr (.inl ⟨e, ho⟩)) hq⟩
 ·rw [e] at hk ⊢
  have hk : kind = 7 ∨ kind = 8 := by omega
  rcases hk with rfl | rfl
  ·exact does_mono (begin_snap7 h v slot) fun r o hq => .inl ⟨may_other (by decide) _, beginQ_mono (fun t o ho => .inr (.inr (.inl ⟨e, ho⟩))) hq⟩
  ·refine does_mono (begin_snap8 h v slot) fun r o hq => ?_
   rcases hq with ⟨h1, h2⟩ | ⟨h1, h2, h3⟩
   ·exact .inl ⟨h1, beginQ_mono (fun t o ho => .inr (.inr (.inl ⟨e, ho⟩))) h2⟩
   ·exact .inr ⟨h1, h2, .inr (.inr (.inl ⟨e, h3⟩))⟩
 ·rw [e] at hk ⊢
  have hk : kind = 9 := by omega
  subst hk
  exact does_mono (begin_once h fun dn => bg9_does w st v slot dn) fun r o hq => .inl ⟨may_other (by decide) _, beginQ_mono (fun t o ho => .inr (.inr (.inr ⟨e, ho⟩))) hq⟩
theorem begin_heap {w : WorldD} {st : Nat} {tks : List Nat} {b : Bun} (hH : Heap w st tks b) {kind : Nat} (hk : As.kindOk w.thing kind) (v slot : Int) :
  DoesB Tryd.prog fBegun #[thV4 w.thing st, .int .i64 (kind : Int), .int .u64 v, .int .i64 slot] [] b (mayQ (fun w t o => Heap w st t o) w kind v slot tks) := by
 rcases hH with ⟨e, h⟩ | ⟨b0, hb, h⟩
 ·unfold As.kindOk at hk
  rw [e] at hk ⊢
  have hk : kind = 5 ∨ kind = 6 := by omega
  rcases hk with rfl | rfl
  ·exact does_mono (begin_slots h (bg5_does w st v slot)) fun r o hq => .inl ⟨may_other (by decide) _, beginQ_mono (fun t o ho => .inl ⟨e, ho⟩) hq⟩
  ·exact does_mono (begin_slots h (bg6_does w st v slot)) fun r o hq => .inl ⟨may_other (by decide) _, beginQ_mono (fun t o ho => .inl ⟨e, ho⟩) hq⟩
 ·refine does_all (begin_heapX h hk v slot) (fun p hp => nomatch hp) hb.symm fun r o hq => ⟨o ++ [tabB], List.Perm.refl _, ?_⟩
  rcases hq with ⟨h1, tk, h2, h3⟩ | ⟨h1, h2, h3⟩
  ·exact .inl ⟨h1, tk, h2, .inr ⟨o, List.Perm.refl _, h3⟩⟩
  ·exact .inr ⟨h1, h2, .inr ⟨o, List.Perm.refl _, h3⟩⟩
theorem made_heap {thing room : Nat} (ht : 1 ≤ thing ∧ thing ≤ 5) (h1 : 1 ≤ room) (h2 : room ≤ 16) {w : WorldD} (hw : newW (thing : Int) (room : Int) = some w) :
  DoesB Tryd.prog fMade #[.int .i64 (thing : Int), .int .i64 (room : Int)] [] [tabB] (madeQ thing fun st o => Heap w st [] o) := by
 have hth := (new_thing hw).1
 rw [Int.toNat_natCast] at hth
 have hx : ∀ {H : Nat → Bun → Prop}, DoesB Tryd.prog fMade #[.int .i64 (thing : Int), .int .i64 (room : Int)] [] [] (madeQ thing H) → (∀ st o, H st o → Heap w st [] (o ++ [tabB])) → DoesB Tryd.prog fMade #[.int .i64 (thing : Int), .int .i64 (room : Int)] [] [tabB] (madeQ thing fun st o => Heap w st [] o) := fun h hH =>
  does_all (oth := [tabB]) h (fun p hp => nomatch hp) (List.Perm.refl _) fun r o ⟨st, hr, ho⟩ => ⟨o ++ [tabB], List.Perm.refl _, st, hr, hH st o ho⟩
 have hcase : thing = 1 ∨ thing = 2 ∨ thing = 3 ∨ thing = 4 ∨ thing = 5 := by omega
 rcases hcase with rfl | rfl | rfl | rfl | rfl
 ·exact hx (made1 hw) fun st o ho => .inr ⟨o, List.Perm.refl _, .inl ⟨hth, ho⟩⟩
 ·exact hx (made2 hw) fun st o ho => .inr ⟨o, List.Perm.refl _, .inr (.inl ⟨hth, ho⟩)⟩
 ·exact hx (made3 h1 h2 hw) fun st o ho => .inl ⟨hth, ho⟩
 ·exact hx (made4 h1 h2 hw) fun st o ho => .inr ⟨o, List.Perm.refl _, .inr (.inr (.inl ⟨hth, ho⟩))⟩
 ·exact hx (made5 hw) fun st o ho => .inr ⟨o, List.Perm.refl _, .inr (.inr (.inr ⟨hth, ho⟩))⟩
end Go.Proofs.YtjohknpmhlildaaDoor.At
--@way 3
--@tail 0
namespace Go.Proofs.YtjohknpmhlildaaDoor.At
open Sy.O (fork nil step steps)
open Sy.Res (need hyp br leaf both)
open Go Go.RowKit
open Go.Proofs.YtjohknpmhlildaaDoor.Sy (Let Blk Cont Bun ptr ptr0 bx tkB tkU clo)
abbrev fAwake : FuncId := 8
def awk_o : Sy.O := (steps [0, 0, 0, 0, 0, 0, 0, 0, 1, 0, 0, 0, 0, 2, 0, 0, 0, 1, 0, 0, 0, 0, 0, 0, 0, 0, 1, 0, 0, 0, 0, 2, 0, 0, 0, 1, 0, 0, 0, 0, 0, 0, 0, 6, 0, 0, 6, 0, 0, 6, 0, 6, 0, 0, 0, 6, 0, 0, 8, 0] (steps [9, 0, 0, 0, 0, 6, 0, 7, 0, 0, 7, 0, 0, 7, 0, 0, 7, 0, 7, 0, 0, 0, 7, 0, 0, 6, 0, 0, 5, 0, 7, 0, 0, 3, 0, 0, 9, 0, 1, 2, 3, 0, 0, 0, 4, 0, 8, 0, 5, 0, 0, 0, 6, 11, 1, 0, 1, 2, 3, 4] (steps [5, 6, 7, 8, 9, 10, 11, 11, 0, 0, 11, 0, 0, 0, 0, 7, 0, 0, 9, 0, 8, 0, 0, 8, 0, 0, 3, 0, 1, 2, 3, 8, 0, 8, 0, 0, 8, 0, 0, 0, 8, 0, 0, 0, 4, 0, 0, 4, 0, 4, 0, 0, 0, 4, 0, 0, 5, 0, 11, 0] (steps [0, 0, 0, 0, 0, 0, 0, 0, 0, 4, 0, 5, 0, 0, 5, 0, 0, 5, 0, 0, 5, 0, 5, 0, 0, 0, 5, 0, 0, 4, 0, 0, 3, 0, 5, 0, 0, 3, 0, 0, 6, 0, 1, 2, 3, 0, 0, 0, 4, 0, 0, 0, 5, 6, 7, 0, 1, 0, 11, 1] (steps [1, 12, 0, 0, 0, 0, 3, 0, 0, 4, 0, 1, 0, 0, 0, 2, 3, 4, 0, 1, 0, 8, 5, 0, 0, 5, 0, 0, 3, 0, 1, 2, 3, 8, 0, 5, 0, 0, 5, 0, 0, 5, 0, 3, 0, 1, 2, 3, 0, 5, 0, 4, 5, 6, 7, 0, 5, 0, 8, 9] (steps [0, 0, 0, 0, 0, 9, 0, 0] nil))))))
noncomputable def awk_R  (ns : Nat → Sy.Let) : Sy.Res (Value × List Blk) :=
 let z0 := Array.mk [Value.pointer none]
 let z1 := Fn.func 55
 let z2 := Array.mk []
 let z3 := Array.mk [Value.pointer (some ⟨(ns 6).n, 0, none⟩), Value.pointer (some ⟨(ns 8).n, 0, none⟩), Value.pointer (some ⟨(ns 9).n, 0, none⟩)]
 let z4 := Cont.obj (Obj.cells (Array.mk [.pointer (some ⟨(ns 0).n, 0, none⟩)]) 25)
 let z5 := Fn.func 50
 let z6 := Array.mk [Value.pointer (some ⟨(ns 1).n, 0, none⟩), Value.pointer (some ⟨(ns 5).n, 0, none⟩), Value.pointer (some ⟨(ns 4).n, 0, none⟩), Value.pointer (some ⟨(ns 2).n, 0, none⟩)]
 leaf (Value.bool true, [Blk.mk (ns 12).n (Cont.obj (Obj.cells (Array.mk [.pointer (some ⟨(ns 11).n, 0, none⟩)]) 104)) true, Blk.mk (ns 11).n (Cont.obj (Obj.cells (Array.mk [.int .u64 7, .pointer none]) 113)) true, Blk.mk (ns 10).n (Cont.obj (Obj.cells z0 104)) true, Blk.mk (ns 9).n (Cont.obj (Obj.cells (Array.mk [Value.func z1 z2 z3]) 1)) true, Blk.mk (ns 8).n (Cont.obj (Obj.cells (Array.mk [.pointer (some ⟨(ns 7).n, 0, none⟩)]) 48)) true, Blk.mk (ns 7).n (Cont.obj (Obj.cells (Array.mk [Value.func z1 z2 z3, .int .u32 1, .int .i64 2, .int .u64 7, .bool true, .slice none 0 0]) 100)) true, Blk.mk (ns 6).n z4 true, Blk.mk (ns 5).n (Cont.obj (Obj.cells (Array.mk [Value.func z5 z2 z6]) 1)) true, Blk.mk (ns 4).n (Cont.obj (Obj.cells (Array.mk [.pointer (some ⟨(ns 3).n, 0, none⟩)]) 48)) true, Blk.mk (ns 3).n (Cont.obj (Obj.cells (Array.mk [Value.func z5 z2 z6, .int .u32 1, .int .i64 2, .int .u64 7, .bool true, .slice none 0 0]) 100)) true, Blk.mk (ns 2).n (Cont.obj (Obj.cells (Array.mk [.int .u64 7]) 36)) true, Blk.mk (ns 1).n z4 true, Blk.mk (ns 0).n (Cont.obj (Obj.cells z0 110)) true])
theorem awk_run  : Sy.Ran (Sy.inB Tryd.prog Sy.S0 50 fAwake #[] []) awk_o (awk_R ) := ⟨fun _ => by kernel_rfl, fun _ => by kernel_rfl⟩
end Go.Proofs.YtjohknpmhlildaaDoor.At
namespace Go.Proofs.YtjohknpmhlildaaDoor.At
open Go Go.RowKit
open Go.Proofs.YtjohknpmhlildaaDoor.Sy (Let Blk Cont Bun ptr ptr0 bx tkB tkU clo)
def awC : Sy.CallC := ⟨fAwake, #[], True, ⟨[], [], 0, []⟩, [Sy.plainO (.bool true)]⟩
theorem awC_met : Sy.Meets Tryd.prog awC := by
 refine Sy.meets_ofB Sy.S0_holds mixed (Sy.Ent.refl _) awk_run fun _ ns => ?_
 simp only [awk_R, Sy.Res.holds]
 exact plain_leaf Sy.mH rfl rfl
open Go.Proofs.YtjohknpmhlildaaDoor.Sy (Let Blk Cont Bun ptr ptr0 bx tkB tkU clo DoesB usedK ownOf rdsOf Rep does_frame does_perm does_mono does_all does_of S0_holds bunO)
open Go.Proofs.YtjohknpmhlildaaDoor.As
structure okMade (thing room : Nat) (w : WorldD) : Prop where
 ht : 1 ≤ thing ∧ thing ≤ 5
 h1 : 1 ≤ room
 h2 : room ≤ 16
 hw : newW (thing : Int) (room : Int) = some w
def madeC (thing room : Nat) (w : WorldD) : Sy.CallC :=
 ⟨fMade, #[.int .i64 (thing : Int), .int .i64 (room : Int)], okMade thing room w, ⟨[], [tabB], 2, []⟩,
  [(⟨fun ns => Heap w (Sy.num ns 1) [] (bunO ns), fun _ => [], bunO⟩, fun ns => .tuple #[thV4 thing (Sy.num ns 1), .int .i64 0])]⟩
theorem madeC_met (thing room : Nat) (w : WorldD) : Sy.Meets Tryd.prog (madeC thing room w) := fun hok W hpre => by
 have hr := Rep.rep_use (c := [tabB]) hpre.use hpre.nodup
 refine (made_heap hok.ht hok.h1 hok.h2 hok.hw W hr).mono ?_
 rintro en W' ⟨v, out, rfl, h2, st, rfl, hH⟩
 exact ⟨_, Sy.mS _, [⟨0, 0, false, undef, [], out⟩, ⟨st, 0, false, undef, [], []⟩], rfl, Sy.post_of_ent h2 rfl hH⟩
open Go.Proofs.YtjohknpmhlildaaDoor.Sy (Let Blk Cont Bun ptr ptr0 bx tkB tkU clo DoesB usedK ownOf rdsOf Rep does_frame does_perm does_mono does_all does_of S0_holds bunO)
open Go.Proofs.YtjohknpmhlildaaDoor.As
structure okBegun (w : WorldD) (st : Nat) (tks : List Nat) (b : Bun) (kind : Nat) : Prop where
 heap : Heap w st tks b
 kind : As.kindOk w.thing kind
def begunC (w : WorldD) (st : Nat) (tks : List Nat) (b : Bun) (kind : Nat) (v slot : Int) : Sy.CallC :=
 ⟨fBegun, #[thV4 w.thing st, .int .i64 (kind : Int), .int .u64 v, .int .i64 slot], okBegun w st tks b kind, ⟨[], b, 2, []⟩,
  [(⟨fun ns => mayW w kind slot = true ∧ Heap (beginW w kind v slot) st (tks ++ [Sy.num ns 1]) (bunO ns), fun _ => [], bunO⟩, fun ns => .tuple #[ptr (Sy.num ns 1), .int .i64 0]),
   (⟨fun ns => mayW w kind slot = false ∧ Heap w st tks (bunO ns), fun _ => [], bunO⟩, fun ns => .tuple #[ptr0, .int .i64 1])]⟩
theorem begunC_met (w : WorldD) (st : Nat) (tks : List Nat) (b : Bun) (kind : Nat) (v slot : Int) : Sy.Meets Tryd.prog (begunC w st tks b kind v slot) := fun hok W hpre => by
 have hr := Rep.rep_use (c := b) hpre.use hpre.nodup
 refine (begin_heap hok.heap hok.kind v slot W hr).mono ?_
 rintro en W' ⟨r, out, rfl, h2, ⟨hm, tk, rfl, hH⟩ | ⟨hm, rfl, hH⟩⟩
 ·exact ⟨_, Sy.mH, [⟨0, 0, false, undef, [], out⟩, ⟨tk, 0, false, undef, [], []⟩], rfl, Sy.post_of_ent h2 rfl ⟨hm, hH⟩⟩
 ·exact ⟨_, Sy.mC _ (Sy.mS _), [⟨0, 0, false, undef, [], out⟩, ⟨0, 0, false, undef, [], []⟩], rfl, Sy.post_of_ent h2 rfl ⟨hm, hH⟩⟩
open Go.Proofs.YtjohknpmhlildaaDoor.Sy (Let Blk Cont Bun ptr ptr0 bx tkB tkU clo DoesB usedK ownOf rdsOf Rep does_frame does_perm does_mono does_all does_of S0_holds bunO)
open Go.Proofs.YtjohknpmhlildaaDoor.As
structure OpD where
 kind : Int
 n : Int
 v : Int
def OpD.cells (x : OpD) : List Value := [.int .i64 x.kind, .int .i64 x.n, .int .u64 x.v]
def opG (ops : List OpD) (i : Nat) : OpD := ops.getD i ⟨0, 0, 0⟩
def begO (w : WorldD) (x : OpD) : WorldD := if mayW w (kindW w.thing x.kind) x.n = true then beginW w (kindW w.thing x.kind) x.v x.n else w
def begsW (w : WorldD) (ops : List OpD) : WorldD := ops.foldl begO w
theorem begs_take (w : WorldD) (ops : List OpD) {i : Nat} (h : i < ops.length) : begsW w (ops.take (i + 1)) = begO (begsW w (ops.take i)) (opG ops i) := by
 unfold begsW opG
 rw [List.take_add_one, List.foldl_append, List.getD_eq_getElem?_getD, List.getElem?_eq_getElem h]
 rfl
theorem begO_thing (w : WorldD) (x : OpD) : (begO w x).thing = w.thing ∧ (begO w x).room = w.room := by
 unfold begO
 split <;> exact ⟨rfl, rfl⟩
theorem begs_thing (ops : List OpD) : ∀ w : WorldD, (begsW w ops).thing = w.thing ∧ (begsW w ops).room = w.room := by
 induction ops with
 | nil => exact fun w => ⟨rfl, rfl⟩
 | cons x l ih =>
   intro w
   have h := ih (begO w x)
   have h2 := begO_thing w x
   exact ⟨h.1.trans h2.1, h.2.trans h2.2⟩
theorem ok_begO {w : WorldD} (h : OkW w) (h5 : 1 ≤ w.thing ∧ w.thing ≤ 5) (x : OpD) : OkW (begO w x) := by
 unfold begO
 split
 ·exact ok_begin h (kind_ok h5 x.kind) x.v x.n
 ·exact h
theorem ok_begs (ops : List OpD) : ∀ {w : WorldD}, OkW w → 1 ≤ w.thing ∧ w.thing ≤ 5 → OkW (begsW w ops) := by
 induction ops with
 | nil => exact fun h _ => h
 | cons x l ih =>
   intro w h h5
   exact ih (ok_begO h h5 x) (by rw [(begO_thing w x).1]; exact h5)
theorem begO_len (w : WorldD) (x : OpD) : (begO w x).tasks.length ≤ w.tasks.length + 1 ∧ sumW (begO w x) = sumW w := by
 unfold begO
 split
 ·simp [beginW, sumW, taskW]
 ·exact ⟨Nat.le_succ _, rfl⟩
theorem begs_len (ops : List OpD) : ∀ w : WorldD, (begsW w ops).tasks.length ≤ w.tasks.length + ops.length ∧ sumW (begsW w ops) = sumW w := by
 induction ops with
 | nil => exact fun w => ⟨Nat.le_refl _, rfl⟩
 | cons x l ih =>
   intro w
   have h := ih (begO w x)
   have h2 := begO_len w x
   refine ⟨?_, h.2.trans h2.2⟩
   have h1 : (begsW (begO w x) l).tasks.length ≤ (begO w x).tasks.length + l.length := h.1
   rw [List.length_cons]
   show (begsW (begO w x) l).tasks.length ≤ _
   omega
def atC (c : Sy.CallC) (a : Array Value) : Sy.CallC := ⟨c.f, a, a = c.args ∧ c.ok, c.mem, c.outs⟩
theorem atC_met {c : Sy.CallC} (h : Sy.Meets Tryd.prog c) (a : Array Value) : Sy.Meets Tryd.prog (atC c a) := by
 rintro ⟨e, hok⟩
 have e : a = c.args := e
 subst e
 exact h hok
def intV (v : Value) : Int := match v with
 | .int _ i => i
 | _ => 0
def natV (v : Value) : Nat := (intV v).toNat
def begunA (w : WorldD) (st : Nat) (tks : List Nat) (b : Bun) (a : Array Value) : Sy.CallC := atC (begunC w st tks b (natV (Sy.argV a 1)) (intV (Sy.argV a 2)) (intV (Sy.argV a 3))) a
theorem begunA_met (w : WorldD) (st : Nat) (tks : List Nat) (b : Bun) (a : Array Value) : Sy.Meets Tryd.prog (begunA w st tks b a) := atC_met (begunC_met _ _ _ _ _ _ _) a
def tvI (i thing st : Nat) : Value := if thing = i then ptr st else ptr0
def madeD (thing room : Nat) (w : WorldD) : Sy.CallC :=
 ⟨fMade, #[.int .i64 (thing : Int), .int .i64 (room : Int)], okMade thing room w, ⟨[], [tabB], 2, []⟩,
  [(⟨fun ns => Heap w (Sy.num ns 1) [] (bunO ns), fun _ => [], bunO⟩, fun ns => .tuple #[.agg #[tvI 1 thing (Sy.num ns 1), tvI 2 thing (Sy.num ns 1), tvI 3 thing (Sy.num ns 1), tvI 4 thing (Sy.num ns 1), tvI 5 thing (Sy.num ns 1)], .int .i64 0])]⟩
theorem madeD_met (thing room : Nat) (w : WorldD) : Sy.Meets Tryd.prog (madeD thing room w) := madeC_met thing room w
def stV (thing : Nat) (v : Value) : Nat := @Classical.epsilon Nat ⟨0⟩ fun st => v = thV4 thing st
theorem th_inj {thing : Nat} (h : 1 ≤ thing ∧ thing ≤ 5) {a b : Nat} (e : thV4 thing a = thV4 thing b) : a = b := by
 have hc : thing = 1 ∨ thing = 2 ∨ thing = 3 ∨ thing = 4 ∨ thing = 5 := by omega
 rcases hc with rfl | rfl | rfl | rfl | rfl <;> simpa [thV4] using e
theorem stV_eq {thing : Nat} (h : 1 ≤ thing ∧ thing ≤ 5) (st : Nat) : stV thing (thV4 thing st) = st :=
 th_inj h (@Classical.epsilon_spec Nat (fun s => thV4 thing st = thV4 thing s) ⟨st, rfl⟩).symm
def namesOf (xs : List Value) : List Nat := xs.map Sy.ptrN
theorem names_ptrs (l : List Nat) : namesOf (ptrs l) = l := by
 unfold namesOf ptrs
 rw [List.map_map]
 exact List.map_id' _
def kindsV (w : WorldD) : List Value := w.tasks.map fun t => .int .i64 (t.kind : Int)
theorem kinds_begin (w : WorldD) (kind : Nat) (v slot : Int) : kindsV (beginW w kind v slot) = kindsV w ++ [.int .i64 (kind : Int)] := by
 simp [kindsV, beginW, taskW]
theorem heap_tab {w : WorldD} {st : Nat} {tks : List Nat} {b : Bun} (h : Heap w st tks b) : tabB ∈ b := by
 rcases h with ⟨-, xs, hx⟩ | ⟨b0, hb, -⟩
 ·exact hx.perm.mem_iff.2 (by simp)
 ·exact hb.mem_iff.2 (by simp)
def roomN (room : Int) : Nat := (room.tmod 16).natAbs + 1
theorem roomN_le (room : Int) : 1 ≤ roomN room ∧ roomN room ≤ 16 := by
 unfold roomN
 have ht : room.tmod 16 = room % 16 ∨ room % 16 ≠ 0 ∧ room.tmod 16 = room % 16 - 16 := by
  rw [Int.tmod_eq_emod]
  split
  ·exact .inl (by omega)
  ·next h => exact .inr ⟨by omega, by show room % 16 - ((Int.natAbs 16 : Nat) : Int) = _; rfl⟩
 generalize room.tmod 16 = z at ht ⊢
 omega
end Go.Proofs.YtjohknpmhlildaaDoor.At
--@tail 0
namespace Go.Proofs.YtjohknpmhlildaaDoor.At
open Sy.O (fork nil step steps)
open Sy.Res (need hyp br leaf both)
open Go Go.RowKit
open Go.Proofs.YtjohknpmhlildaaDoor.Sy (Let Blk Cont Bun ptr ptr0 bx tkB tkU clo bunO)
open Go.Proofs.YtjohknpmhlildaaDoor.As
abbrev tThg : TypeId := 31
abbrev fAA : FuncId := 5
def bodyBgA : Code := Sy.loopBody Tryd.f5 0
def slBgA (bv pv : Value) (wh rv : Int) (thing pT : Nat) (tv kv : Value) (i : Nat) : List (Nat × Value) := [(2, bv), (3, pv), (4, .int .i64 wh), (11, .int .i64 (thing : Int)), (12, .int .i64 rv), (13, ptr pT), (15, tv), (16, kv), (17, .int .i64 (Int.ofNat i))]
def ctxBgA (w : WorldD) (st : Nat) (tks : List Nat) (b : Bun) (thing : Nat) (R : List Blk) : Sy.Ctx :=
 Sy.mkU (Sy.mkS [(fKind, fun a _ => kdC thing (Sy.argI a 1))] [] []) [(fBegun, fun a _ => (begunA w st tks b a).toU [] b R)] []
def bgA0_o : Sy.O := (steps [0, 1] (fork (steps [0, 1, 0, 0, 1, 1, 1, 1, 0, 0, 0, 1, 1, 0, 2, 0, 0, 0, 0, 0, 0, 1, 2, 3, 4, 0, 1, 5, 6, 0, 1, 1, 1, 1, 1, 7, 8, 9, 0, 1, 10, 11, 0, 1, 1, 1, 1, 1, 20, 0, 0, 0] (fork (steps [1, 1, 0, 2, 0, 13, 14, 15, 16, 17, 0, 0, 0, 0, 0, 0, 0, 0, 1, 0, 0, 1, 0, 0, 0, 0, 0, 0, 0, 1, 0, 0, 1] nil) (steps [1, 1, 0, 2, 0, 13, 14, 15, 16, 17, 0] nil))) nil))
noncomputable def bgA0_R (w : WorldD) (st : Nat) (tks : List Nat) (b : Bun) (TL : List Blk) (gb o nb cb sp : Nat) (C : Cont) (x : OpD) (pv : Value) (wh rv : Int) (thing pT : Nat) (va vb vc vd ve : Value) (i : Nat) (f : Nat → Value) (ns : Nat → Sy.Let) : Sy.Res (Exit × Nat × List Value × List Blk) :=
 let z0 := Int.ofNat i
 let z1 := 0 ≤ Int.ofNat i ∧ Int.ofNat i < (↑nb : Int)
 let z2 := Cont.seg sp [Value.int .i64 (OpD.kind x), Value.int .i64 (OpD.n x), Value.int .u64 (OpD.v x)]
 let z3 := o + Int.toNat z0 * 3
 let z4 := Nat.add z3 0
 let z5 := Nat.succ z3
 let z6 := ns 2
 let z7 := Array.mk [va, vb, vc, vd, ve]
 let z8 := natV (Value.int .i64 (↑(kindW thing (ns 0).i) : Int))
 let z9 := Cont.obj (Obj.cells z7 31)
 let z10 := fun (p : Nat × Cont) => Blk.mk (Prod.fst p) (Prod.snd p) true
 let z11 := Let.q (ns 3)
 let z12 := some (Addr.mk gb o none)
 let z13 := some (Addr.mk pT 0 none)
 let z14 := Ex.wrapQ .i64 (Ex.addQ z0 1)
 let z15 := [Value.int .i64 (↑(kindW thing (ns 0).i) : Int)]
 let z16 := [Value.pointer (some ⟨(ns 4).n, 0, none⟩)]
 br (bif Ex.ltQ z0 (Int.ofNat nb) then Ex.ltQ z0 40 else false) (need z1 (need (∃ (i_1 : Int), Cont.at z2 z4 = some (Value.int .i64 i_1)) (hyp (Cont.at z2 z4 = some (Value.int .i64 (ns 0).i)) (need (1 ≤ thing ∧ thing ≤ 5) (hyp True (need z1 (need (∃ (i_1 : Int), Cont.at z2 (Nat.succ z5) = some (Value.int .u64 i_1)) (hyp (Cont.at z2 (Nat.succ z5) = some (Value.int .u64 (ns 1).i)) (need z1 (need (∃ (i_1 : Int), Cont.at z2 z5 = some (Value.int .i64 i_1)) (hyp (Cont.at z2 z5 = some (Value.int .i64 z6.i)) (need (Array.mk [Value.agg z7, Value.int .i64 (↑(kindW thing (ns 0).i) : Int), Value.int .u64 (ns 1).i, Value.int .i64 z6.i] = Array.mk [thV4 (WorldD.thing w) st, Value.int .i64 (↑z8 : Int), Value.int .u64 (ns 1).i, Value.int .i64 z6.i] ∧ okBegun w st tks b z8) (need (List.Perm (Blk.mk gb z2 false :: Blk.mk gb C false :: Blk.mk pT z9 false :: TL) ((List.map z10 b).append [Blk.mk gb z2 false, Blk.mk gb C false, Blk.mk pT z9 false])) (both (hyp (mayW w z8 z6.i = true ∧ Heap (beginW w z8 (ns 1).i z6.i) st (tks.append [(ns 4).n]) z11) (hyp (Nat.le 1 (ns 7).n) (hyp (Nat.le 1 (ns 10).n) (leaf (Exit.normal, 146, [Value.slice z12 nb cb, pv, Value.int .i64 wh, Value.int .i64 (↑thing : Int), Value.int .i64 rv, Value.pointer z13, Value.slice (some ⟨(ns 6).n, 0, none⟩) 1 (ns 7).n, Value.slice (some ⟨(ns 9).n, 0, none⟩) 1 (ns 10).n, Value.int .i64 z14], Blk.mk (ns 9).n (Cont.row 3 1 1 (ns 10).n z15) true :: Blk.mk (ns 8).n (Cont.obj (Obj.cells (Array.mk z15) 3)) true :: Blk.mk (ns 6).n
 (Cont.row 48 1 1 (ns 7).n z16) true :: Blk.mk (ns 5).n (Cont.obj (Obj.cells (Array.mk z16) 48)) true :: Blk.mk gb z2 false :: Blk.mk gb C false :: Blk.mk pT z9 false :: List.map z10 z11))))) (hyp (mayW w z8 z6.i = false ∧ Heap w st tks z11) (leaf (Exit.normal, 146, [Value.slice z12 nb cb, pv, Value.int .i64 wh, Value.int .i64 (↑thing : Int), Value.int .i64 rv, Value.pointer z13, Value.slice none 0 0, Value.slice none 0 0, Value.int .i64 z14], Blk.mk gb z2 false :: Blk.mk gb C false :: Blk.mk pT z9 false :: List.map z10 z11))))))))))))))))) (leaf (Exit.exit 0, 146, [Value.slice z12 nb cb, pv, Value.int .i64 wh, Value.int .i64 (↑thing : Int), Value.int .i64 rv, Value.pointer z13, Value.slice none 0 0, Value.slice none 0 0, Value.int .i64 z0], Blk.mk gb z2 false :: Blk.mk gb C false :: Blk.mk pT z9 false :: TL))
theorem bgA0_run (w : WorldD) (st : Nat) (tks : List Nat) (b : Bun) (TL : List Blk) (gb o nb cb sp : Nat) (C : Cont) (x : OpD) (pv : Value) (wh rv : Int) (thing pT : Nat) (va vb vc vd ve : Value) (i : Nat) (f : Nat → Value) : Sy.Ran (Sy.pieceT Tryd.prog (ctxBgA w st tks b thing (⟨gb, .seg sp [.int .i64 x.kind, .int .i64 x.n, .int .u64 x.v], false⟩ :: ⟨gb, C, false⟩ :: ⟨pT, .obj (.cells #[va, vb, vc, vd, ve] tThg (0, 0)), false⟩ :: [])) 50 fAA bodyBgA 146 (slBgA (.slice (some ⟨gb, o, none⟩) nb cb) pv wh rv thing pT nil0 nil0 i) ((List.range 146).map f) (⟨gb, .seg sp [.int .i64 x.kind, .int .i64 x.n, .int .u64 x.v], false⟩ :: ⟨gb, C, false⟩ :: ⟨pT, .obj (.cells #[va, vb, vc, vd, ve] tThg (0, 0)), false⟩ :: TL) [2, 3, 4, 11, 12, 13, 15, 16, 17]) bgA0_o (bgA0_R w st tks b TL gb o nb cb sp C x pv wh rv thing pT va vb vc vd ve i f) := ⟨fun _ => by kernel_rfl, fun _ => by kernel_rfl⟩
def bgA1_o : Sy.O := (steps [0, 1] (fork (steps [0, 1, 0, 2, 1, 1, 1, 1, 0, 0, 0, 1, 1, 0, 4, 0, 2, 0, 0, 0, 0, 1, 2, 3, 4, 0, 1, 5, 6, 0, 1, 1, 1, 1, 1, 7, 8, 9, 0, 1, 10, 11, 0, 1, 1, 1, 1, 1, 20, 0, 0, 0] (fork (steps [1, 1, 0, 4, 2, 13, 14, 15, 16, 17, 0, 0, 0, 0, 1, 0, 1, 1, 0, 1, 0, 1, 0, 0, 1, 0, 0, 0, 3, 0, 1, 1, 0, 1, 2, 1, 0, 0, 1] nil) (steps [1, 1, 0, 4, 2, 13, 14, 15, 16, 17, 0] nil))) nil))
noncomputable def bgA1_R (w : WorldD) (st : Nat) (tks : List Nat) (b : Bun) (TL : List Blk) (gb o nb cb sp : Nat) (C : Cont) (x : OpD) (pv : Value) (wh rv : Int) (thing pT : Nat) (va vb vc vd ve : Value) (i tr tc kr kc m : Nat) (xs ks : List Value) (f : Nat → Value) (ns : Nat → Sy.Let) : Sy.Res (Exit × Nat × List Value × List Blk) :=
 let z0 := Int.ofNat i
 let z1 := 0 ≤ Int.ofNat i ∧ Int.ofNat i < (↑nb : Int)
 let z2 := Cont.seg sp [Value.int .i64 (OpD.kind x), Value.int .i64 (OpD.n x), Value.int .u64 (OpD.v x)]
 let z3 := o + Int.toNat z0 * 3
 let z4 := Nat.add z3 0
 let z5 := Nat.succ z3
 let z6 := ns 2
 let z7 := Array.mk [va, vb, vc, vd, ve]
 let z8 := natV (Value.int .i64 (↑(kindW thing (ns 0).i) : Int))
 let z9 := m + 1
 let z10 := Cont.row 48 1 z9 tc xs
 let z11 := Cont.row 3 1 z9 kc ks
 let z12 := Cont.obj (Obj.cells z7 31)
 let z13 := fun (p : Nat × Cont) => Blk.mk (Prod.fst p) (Prod.snd p) true
 let z14 := Let.q (ns 3)
 let z15 := m + 1 + (1 : Nat) ≤ 9223372036854775807
 let z16 := m + 1 + 1
 let z17 := z16 * (8 : Nat) ≤ 140737488355328
 let z18 := some (Addr.mk gb o none)
 let z19 := some (Addr.mk pT 0 none)
 let z20 := Ex.wrapQ .i64 (Ex.addQ z0 1)
 let z21 := [Value.int .i64 (↑(kindW thing (ns 0).i) : Int)]
 let z22 := [Value.pointer (some ⟨(ns 4).n, 0, none⟩)]
 let z23 := some (Addr.mk tr 0 none)
 let z24 := some (Addr.mk kr 0 none)
 br (bif Ex.ltQ z0 (Int.ofNat nb) then Ex.ltQ z0 40 else false) (need z1 (need (∃ (i_1 : Int), Cont.at z2 z4 = some (Value.int .i64 i_1)) (hyp (Cont.at z2 z4 = some (Value.int .i64 (ns 0).i)) (need (1 ≤ thing ∧ thing ≤ 5) (hyp True (need z1 (need (∃ (i_1 : Int), Cont.at z2 (Nat.succ z5) = some (Value.int .u64 i_1)) (hyp (Cont.at z2 (Nat.succ z5) = some (Value.int .u64 (ns 1).i)) (need z1 (need (∃ (i_1 : Int), Cont.at z2 z5 = some (Value.int .i64 i_1)) (hyp (Cont.at z2 z5 = some (Value.int .i64 z6.i)) (need (Array.mk [Value.agg z7, Value.int .i64 (↑(kindW thing (ns 0).i) : Int), Value.int .u64 (ns 1).i, Value.int .i64 z6.i] = Array.mk [thV4 (WorldD.thing w) st, Value.int .i64 (↑z8 : Int), Value.int .u64 (ns 1).i, Value.int .i64 z6.i] ∧ okBegun w st tks b z8) (need (List.Perm (Blk.mk tr z10 true :: Blk.mk kr z11 true :: Blk.mk gb z2 false :: Blk.mk gb C false :: Blk.mk pT z12 false :: TL) ((List.map z13 b).append [Blk.mk tr z10 true, Blk.mk kr z11 true, Blk.mk gb z2 false, Blk.mk gb C false, Blk.mk pT z12 false])) (both (hyp (mayW w z8 z6.i = true ∧ Heap (beginW w z8 (ns 1).i z6.i) st (tks.append [(ns 4).n]) z14) (need z15 (need z17 (hyp (Nat.le z16 (ns 7).n) (need z15 (need z17 (hyp (Nat.le z16 (ns 10).n) (leaf (Exit.normal, 146, [Value.slice z18 nb cb, pv, Value.int .i64 wh, Value.int .i64 (↑thing : Int), Value.int .i64 rv, Value.pointer z19, Value.slice (some ⟨(ns 6).n, 0, none⟩) z16 (ns 7).n, Value.slice (some ⟨(ns 9).n, 0, none⟩) z16 (ns 10).n, Value.int .i64 z20], Blk.mk
 (ns 9).n (Cont.row 3 1 z16 (ns 10).n (ks.append z21)) true :: Blk.mk (ns 8).n (Cont.obj (Obj.cells (Array.mk z21) 3)) true :: Blk.mk (ns 6).n (Cont.row 48 1 z16 (ns 7).n (xs.append z22)) true :: Blk.mk (ns 5).n (Cont.obj (Obj.cells (Array.mk z22) 48)) true :: Blk.mk gb z2 false :: Blk.mk gb C false :: Blk.mk pT z12 false :: List.map z13 z14))))))))) (hyp (mayW w z8 z6.i = false ∧ Heap w st tks z14) (leaf (Exit.normal, 146, [Value.slice z18 nb cb, pv, Value.int .i64 wh, Value.int .i64 (↑thing : Int), Value.int .i64 rv, Value.pointer z19, Value.slice z23 z9 tc, Value.slice z24 z9 kc, Value.int .i64 z20], Blk.mk tr z10 true :: Blk.mk kr z11 true :: Blk.mk gb z2 false :: Blk.mk gb C false :: Blk.mk pT z12 false :: List.map z13 z14))))))))))))))))) (leaf (Exit.exit 0, 146, [Value.slice z18 nb cb, pv, Value.int .i64 wh, Value.int .i64 (↑thing : Int), Value.int .i64 rv, Value.pointer z19, Value.slice z23 z9 tc, Value.slice z24 z9 kc, Value.int .i64 z0], Blk.mk tr z10 true :: Blk.mk kr z11 true :: Blk.mk gb z2 false :: Blk.mk gb C false :: Blk.mk pT z12 false :: TL))
theorem bgA1_run (w : WorldD) (st : Nat) (tks : List Nat) (b : Bun) (TL : List Blk) (gb o nb cb sp : Nat) (C : Cont) (x : OpD) (pv : Value) (wh rv : Int) (thing pT : Nat) (va vb vc vd ve : Value) (i tr tc kr kc m : Nat) (xs ks : List Value) (f : Nat → Value) : Sy.Ran (Sy.pieceT Tryd.prog (ctxBgA w st tks b thing (⟨tr, .row tTP 1 (m + 1) tc xs, true⟩ :: ⟨kr, .row tI 1 (m + 1) kc ks, true⟩ :: ⟨gb, .seg sp [.int .i64 x.kind, .int .i64 x.n, .int .u64 x.v], false⟩ :: ⟨gb, C, false⟩ :: ⟨pT, .obj (.cells #[va, vb, vc, vd, ve] tThg (0, 0)), false⟩ :: [])) 50 fAA bodyBgA 146 (slBgA (.slice (some ⟨gb, o, none⟩) nb cb) pv wh rv thing pT (sl tr (m + 1) tc) (sl kr (m + 1) kc) i) ((List.range 146).map f) (⟨tr, .row tTP 1 (m + 1) tc xs, true⟩ :: ⟨kr, .row tI 1 (m + 1) kc ks, true⟩ :: ⟨gb, .seg sp [.int .i64 x.kind, .int .i64 x.n, .int .u64 x.v], false⟩ :: ⟨gb, C, false⟩ :: ⟨pT, .obj (.cells #[va, vb, vc, vd, ve] tThg (0, 0)), false⟩ :: TL) [2, 3, 4, 11, 12, 13, 15, 16, 17]) bgA1_o (bgA1_R w st tks b TL gb o nb cb sp C x pv wh rv thing pT va vb vc vd ve i tr tc kr kc m xs ks f) := ⟨fun _ => by kernel_rfl, fun _ => by kernel_rfl⟩
end Go.Proofs.YtjohknpmhlildaaDoor.At
namespace Go.Proofs.YtjohknpmhlildaaDoor.At
open Go Go.RowKit
open Go.Proofs.YtjohknpmhlildaaDoor.Sy (Let Blk Cont Bun ptr ptr0 bx tkB tkU clo DoesB usedK ownOf rdsOf Rep does_frame does_perm does_mono does_all does_of S0_holds bunO)
open Go.Proofs.YtjohknpmhlildaaDoor.As
def opsC (o : Nat) (ops : List OpD) : Cont := .seg o (ops.flatMap OpD.cells)
theorem seg_sub {off : Nat} {a ys c : List Value} {h : Option Obj} (hs : (Cont.seg off (a ++ (ys ++ c))).sat h) : (Cont.seg (off + a.length) ys).sat h := by
 obtain ⟨cur, e, f, hh, hu⟩ := hs
 refine ⟨cur, e, f, hh, fun j u hj => ?_⟩
 have := hu (a.length + j) u (by rw [List.getElem?_append_right (by omega), show a.length + j - a.length = j by omega, List.getElem?_append_left (List.getElem?_eq_some_iff.1 hj).1]; exact hj)
 rw [Nat.add_assoc]
 exact this
theorem flat_len (l : List OpD) : (l.flatMap OpD.cells).length = l.length * 3 := by
 induction l with
 | nil => rfl
 | cons x l ih => rw [List.flatMap_cons, List.length_append, ih, List.length_cons]; show 3 + _ = _; omega
theorem flat_at {ops : List OpD} {i : Nat} (h : i < ops.length) : ops.flatMap OpD.cells = (ops.take i).flatMap OpD.cells ++ ((opG ops i).cells ++ (ops.drop (i + 1)).flatMap OpD.cells) := by
 have e : ops = ops.take i ++ (opG ops i :: ops.drop (i + 1)) := by
  unfold opG
  rw [List.getD_eq_getElem?_getD, List.getElem?_eq_getElem h, Option.getD_some, ← List.drop_eq_getElem_cons h, List.take_append_drop]
 conv => lhs; rw [e]
 rw [List.flatMap_append, List.flatMap_cons]
theorem ops_seg {o i : Nat} {ops : List OpD} (h : i < ops.length) {x : Option Obj} (hs : (opsC o ops).sat x) : (Cont.seg (o + i * 3) (opG ops i).cells).sat x := by
 unfold opsC at hs
 rw [flat_at h] at hs
 have := seg_sub hs
 rw [flat_len, List.length_take, Nat.min_eq_left (by omega)] at this
 exact this
theorem seg_at0 (sp : Nat) (a b c : Value) : Cont.at (.seg sp [a, b, c]) (Nat.add sp 0) = some a := by
 show (if sp ≤ sp + 0 then [a, b, c][sp + 0 - sp]? else none) = _
 simp
theorem seg_at1 (sp : Nat) (a b c : Value) : Cont.at (.seg sp [a, b, c]) (Nat.succ sp) = some b := by
 show (if sp ≤ sp + 1 then [a, b, c][sp + 1 - sp]? else none) = _
 simp
theorem seg_at2 (sp : Nat) (a b c : Value) : Cont.at (.seg sp [a, b, c]) (Nat.succ (Nat.succ sp)) = some c := by
 show (if sp ≤ sp + 2 then [a, b, c][sp + 2 - sp]? else none) = _
 simp
abbrev thB (va vb vc vd ve : Value) : Cont := .obj (.cells #[va, vb, vc, vd, ve] tThg (0, 0))
theorem bg_ent (X : List Blk) (gb pT o j : Nat) (ct : Cont) (ops : List OpD) (q : Bun) (h : j < ops.length) :
  Sy.Ent (X ++ (⟨gb, opsC o ops, false⟩ :: ⟨pT, ct, false⟩ :: q.map ownOf)) (X ++ (⟨gb, .seg (o + j * 3) (opG ops j).cells, false⟩ :: ⟨gb, opsC o ops, false⟩ :: ⟨pT, ct, false⟩ :: q.map ownOf)) := by
 letI : DecidableEq Blk := Classical.typeDecidableEq _
 refine Sy.Ent.trans (Sy.Ent.perm (B := (X ++ q.map ownOf) ++ [⟨gb, opsC o ops, false⟩, ⟨pT, ct, false⟩]) ?_) (Sy.Ent.trans (ent_rds (X := X ++ q.map ownOf) (R := [⟨gb, .seg (o + j * 3) (opG ops j).cells, false⟩]) (S := [⟨gb, opsC o ops, false⟩, ⟨pT, ct, false⟩]) fun r hr => ?_) (Sy.Ent.perm ?_))
 ·refine List.perm_iff_count.2 fun p => ?_
  simp only [List.count_append, List.count_cons, List.count_nil]
  omega
 ·rw [List.mem_singleton.1 hr]
  exact ⟨rfl, _, Sy.mH, rfl, rfl, fun _ hs => ops_seg h hs⟩
 ·refine List.perm_iff_count.2 fun p => ?_
  simp only [List.count_append, List.count_cons, List.count_nil]
  omega
theorem natV_nat (n : Nat) : natV (.int .i64 (n : Int)) = n := Int.toNat_natCast n
structure okBg (w0 : WorldD) (st : Nat) (b : Bun) (o nb : Nat) (C : Cont) (ops : List OpD) (thing : Nat) (cs : Value) : Prop where
 heap : Heap w0 st [] b
 tasks : w0.tasks = []
 ht : 1 ≤ thing ∧ thing ≤ 5
 hw : w0.thing = thing
 cs : cs = thV4 thing st
 nq : ops.length = nb
 pos : 0 < nb
 C : C = opsC o ops
structure StBg where
 r : Option (Nat × Nat × Nat × Nat × Nat)
 tks : List Nat
 i : Nat
 q : Bun
def rowsBg (w : WorldD) (s : StBg) : List Blk := match s.r with
 | none => []
 | some (tr, tc, kr, kc, m) => [⟨tr, .row tTP 1 (m + 1) tc (ptrs s.tks), true⟩, ⟨kr, .row tI 1 (m + 1) kc (kindsV w), true⟩]
def spBg (o nb i : Nat) : Nat := o + min i (nb - 1) * 3
def xBg (ops : List OpD) (nb i : Nat) : OpD := opG ops (min i (nb - 1))
def memBg (w0 : WorldD) (ops : List OpD) (gb pT o nb : Nat) (C ct : Cont) (s : StBg) : List Blk :=
 rowsBg (begsW w0 (ops.take s.i)) s ++ (⟨gb, .seg (spBg o nb s.i) (xBg ops nb s.i).cells, false⟩ :: ⟨gb, C, false⟩ :: ⟨pT, ct, false⟩ :: s.q.map ownOf)
structure OkBgS (w0 : WorldD) (st : Nat) (ops : List OpD) (nb lim : Nat) (s : StBg) : Prop where
 i : s.i ≤ nb ∧ s.i ≤ lim
 heap : Heap (begsW w0 (ops.take s.i)) st s.tks s.q
 nil : s.r = none → s.tks = []
 row : ∀ tr tc kr kc m, s.r = some (tr, tc, kr, kc, m) → s.tks.length = m + 1
theorem sp_eq {o nb i : Nat} (h : i < nb) : spBg o nb i = o + i * 3 := by
 unfold spBg
 rw [Nat.min_eq_left (by omega)]
theorem x_eq {ops : List OpD} {nb i : Nat} (h : i < nb) : xBg ops nb i = opG ops i := by
 unfold xBg
 rw [Nat.min_eq_left (by omega)]
theorem lt_and {i nb lim : Nat} : (bif Ex.ltQ (Int.ofNat i) (Int.ofNat nb) then Ex.ltQ (Int.ofNat i) (Int.ofNat lim) else false) = decide (i < nb ∧ i < lim) := by
 rw [ltq_nat, ltq_nat]
 by_cases h1 : i < nb <;> by_cases h2 : i < lim <;> simp [h1, h2]
open Go.Proofs.YtjohknpmhlildaaDoor.Sy (Let Blk Cont Bun ptr ptr0 bx tkB tkU clo DoesB usedK ownOf rdsOf Rep does_frame does_perm does_mono does_all does_of S0_holds bunO)
open Go.Proofs.YtjohknpmhlildaaDoor.As
def bgCA (w0 : WorldD) (st : Nat) (b : Bun) (gb o nb cb : Nat) (C : Cont) (ops : List OpD) (pv : Value) (wh rv : Int) (thing pT : Nat) (va vb vc vd ve : Value) : Sy.LoopC :=
 ⟨.loop bodyBgA, 146, slBgA (.slice (some ⟨gb, o, none⟩) nb cb) pv wh rv thing pT nil0 nil0 0, okBg w0 st b o nb C ops thing (.agg #[va, vb, vc, vd, ve]), ⟨[(gb, C), (pT, thB va vb vc vd ve)], b, 7, []⟩,
  [(⟨fun ns => (begsW w0 (ops.take 40)).tasks = [] ∧ Heap (begsW w0 (ops.take 40)) st [] (bunO ns), fun _ => [], bunO⟩, .exit 0, fun _ => [(3, pv), (4, .int .i64 wh), (12, .int .i64 rv), (15, nil0), (16, nil0)]),
   (⟨fun ns => Heap (begsW w0 (ops.take 40)) st (namesOf (ns.getD 5 Let.none).l) (bunO ns) ∧ (begsW w0 (ops.take 40)).tasks.length = Sy.num ns 6 + 1,
     fun ns => [(Sy.num ns 1, .row tTP 1 (Sy.num ns 6 + 1) (Sy.num ns 2) (ptrs (namesOf (ns.getD 5 Let.none).l))), (Sy.num ns 3, .row tI 1 (Sy.num ns 6 + 1) (Sy.num ns 4) (kindsV (begsW w0 (ops.take 40))))], bunO⟩, .exit 0, fun ns => [(3, pv), (4, .int .i64 wh), (12, .int .i64 rv), (15, sl (Sy.num ns 1) (Sy.num ns 6 + 1) (Sy.num ns 2)), (16, sl (Sy.num ns 3) (Sy.num ns 6 + 1) (Sy.num ns 4))])]⟩
theorem ctxBgA_holds (w : WorldD) (st : Nat) (tks : List Nat) (b : Bun) (thing : Nat) (R : List Blk) : (ctxBgA w st tks b thing R).holds Tryd.prog := Sy.mkU_holds (Sy.mkS_holds (fun p hp a L => by
 rcases List.mem_singleton.1 hp with rfl
 exact kdC_met _ _) (fun _ h => (by cases h)) (fun _ h => (by cases h))) (fun p hp a L => by
 rcases List.mem_singleton.1 hp with rfl
 exact begunA_met _ _ _ _ _) (fun _ h => (by cases h))
def slSA (gb o nb cb : Nat) (pv : Value) (wh rv : Int) (thing pT : Nat) (s : StBg) : List (Nat × Value) := match s.r with
 | none => slBgA (.slice (some ⟨gb, o, none⟩) nb cb) pv wh rv thing pT nil0 nil0 s.i
 | some (tr, tc, kr, kc, m) => slBgA (.slice (some ⟨gb, o, none⟩) nb cb) pv wh rv thing pT (sl tr (m + 1) tc) (sl kr (m + 1) kc) s.i
def ctxSA (w0 : WorldD) (st gb o nb : Nat) (C : Cont) (ops : List OpD) (thing pT : Nat) (va vb vc vd ve : Value) (s : StBg) : Sy.Ctx :=
 ctxBgA (begsW w0 (ops.take s.i)) st s.tks s.q thing (rowsBg (begsW w0 (ops.take s.i)) s ++ (⟨gb, .seg (spBg o nb s.i) (xBg ops nb s.i).cells, false⟩ :: ⟨gb, C, false⟩ :: ⟨pT, thB va vb vc vd ve, false⟩ :: []))
set_option maxRecDepth 10000 in
theorem bgCA_met (w0 : WorldD) (st : Nat) (b : Bun) (gb o nb cb : Nat) (C : Cont) (ops : List OpD) (pv : Value) (wh rv : Int) (thing pT : Nat) (va vb vc vd ve : Value) : Sy.MeetsL Tryd.prog (bgCA w0 st b gb o nb cb C ops pv wh rv thing pT va vb vc vd ve) := by
 intro hok0
 obtain rfl : C = opsC o ops := hok0.C
 have hpos := hok0.pos
 have hnq := hok0.nq
 refine Sy.loop_ofB (σ := StBg) (S := fun s => ctxSA w0 st gb o nb (opsC o ops) ops thing pT va vb vc vd ve s) (n := 50) (fn := fAA) (fun _ => ctxBgA_holds _ _ _ _ _ _) mixed (body := bodyBgA) rfl [2, 3, 4, 11, 12, 13, 15, 16, 17]
  (fun s => slSA gb o nb cb pv wh rv thing pT s) (fun s => memBg w0 ops gb pT o nb (opsC o ops) (thB va vb vc vd ve) s) (fun s => okBg w0 st b o nb (opsC o ops) ops thing (.agg #[va, vb, vc, vd, ve]) ∧ OkBgS w0 st ops nb 40 s) (fun s => 40 - s.i)
  ⟨none, [], 0, b⟩ (fun h => ⟨h, ⟨Nat.zero_le _, Nat.zero_le _⟩, h.heap, fun _ => rfl, fun _ _ _ _ _ h => (by cases h)⟩) (fun p hp => hp) ?_
  (o := fun s => match s.r with
   | none => bgA0_o
   | some _ => bgA1_o)
  (R := fun s f => match s.r with
   | none => bgA0_R (begsW w0 (ops.take s.i)) st s.tks s.q (s.q.map ownOf) gb o nb cb (spBg o nb s.i) (opsC o ops) (xBg ops nb s.i) pv wh rv thing pT va vb vc vd ve s.i f
   | some (tr, tc, kr, kc, m) => bgA1_R (begsW w0 (ops.take s.i)) st s.tks s.q (s.q.map ownOf) gb o nb cb (spBg o nb s.i) (opsC o ops) (xBg ops nb s.i) pv wh rv thing pT va vb vc vd ve s.i tr tc kr kc m (ptrs s.tks) (kindsV (begsW w0 (ops.take s.i))) f) ?_ ?_ hok0
 ·show Sy.Ent _ (memBg w0 ops gb pT o nb (opsC o ops) (thB va vb vc vd ve) ⟨none, [], 0, b⟩)
  refine Sy.Ent.trans (Sy.Ent.perm (List.Perm.of_eq ?_)) (bg_ent [] gb pT o (min 0 (nb - 1)) (thB va vb vc vd ve) ops b (by omega))
  show [_, _] ++ (b.map ownOf ++ []) = _
  rw [List.append_nil]
  rfl
 ·rintro ⟨r, tks, i, q⟩ f -
  cases r with
  | none => exact bgA0_run (begsW w0 (ops.take i)) st tks q (q.map ownOf) gb o nb cb (spBg o nb i) (opsC o ops) (xBg ops nb i) pv wh rv thing pT va vb vc vd ve i f
  | some x =>
    obtain ⟨tr, tc, kr, kc, m⟩ := x
    exact bgA1_run (begsW w0 (ops.take i)) st tks q (q.map ownOf) gb o nb cb (spBg o nb i) (opsC o ops) (xBg ops nb i) pv wh rv thing pT va vb vc vd ve i tr tc kr kc m (ptrs tks) (kindsV (begsW w0 (ops.take i))) f
 rintro - ⟨r, tks, i, q⟩ f ⟨hok, ⟨hi, hi2⟩, hH, hnil, hrow⟩ ns
 simp only at hi hi2 hH hnil hrow
 have hwt : (begsW w0 (ops.take i)).thing = thing := ((begs_thing _ w0).1).trans hok.hw
 have hlen := (heap_task hH).1
 have hle := (begs_len (ops.take i) w0).1
 rw [hok.tasks, List.length_nil, List.length_take] at hle
 have hwi : Ex.wrapQ .i64 (Ex.addQ (Int.ofNat i) 1) = Int.ofNat (i + 1) := stp_nat (k := i) (by omega)
 have hcs : Value.agg (Array.mk [va, vb, vc, vd, ve]) = thV4 (WorldD.thing (begsW w0 (ops.take i))) st := by rw [hwt]; exact hok.cs
 have hkd : As.kindOk (begsW w0 (ops.take i)).thing (kindW thing (xBg ops nb i).kind) := by rw [hwt]; exact kind_ok hok.ht _
 have hperm : ∀ X : List Blk, List.Perm (X ++ q.map ownOf) (List.append (List.map (fun p : Nat × Cont => (⟨p.1, p.2, true⟩ : Blk)) q) X) := fun X => List.perm_append_comm
 have hsp : i < nb → spBg o nb i = o + Int.toNat (Int.ofNat i) * 3 := fun h => by rw [sp_eq h]; rfl
 have hnext : i < nb → begsW w0 (ops.take (i + 1)) = begO (begsW w0 (ops.take i)) (xBg ops nb i) := fun h => by rw [x_eq h]; exact begs_take w0 ops (by omega)

 have h0 : i < nb → Cont.at (Cont.seg (spBg o nb i) [Value.int .i64 (xBg ops nb i).kind, Value.int .i64 (xBg ops nb i).n, Value.int .u64 (xBg ops nb i).v]) (Nat.add (o + Int.toNat (Int.ofNat i) * 3) 0) = some (Value.int .i64 (xBg ops nb i).kind) := fun h => by rw [← hsp h]; exact seg_at0 _ _ _ _
 have h1 : i < nb → Cont.at (Cont.seg (spBg o nb i) [Value.int .i64 (xBg ops nb i).kind, Value.int .i64 (xBg ops nb i).n, Value.int .u64 (xBg ops nb i).v]) (Nat.succ (o + Int.toNat (Int.ofNat i) * 3)) = some (Value.int .i64 (xBg ops nb i).n) := fun h => by rw [← hsp h]; exact seg_at1 _ _ _ _
 have h2 : i < nb → Cont.at (Cont.seg (spBg o nb i) [Value.int .i64 (xBg ops nb i).kind, Value.int .i64 (xBg ops nb i).n, Value.int .u64 (xBg ops nb i).v]) (Nat.succ (Nat.succ (o + Int.toNat (Int.ofNat i) * 3))) = some (Value.int .u64 (xBg ops nb i).v) := fun h => by rw [← hsp h]; exact seg_at2 _ _ _ _
 have hx : ∀ {v : Option Value} {k : IntKind} {a b : Int}, v = some (.int k a) → v = some (.int k b) → b = a := fun h1 h2 => by
  rw [h1] at h2
  injection h2 with h2
  injection h2 with _ h2
  exact h2.symm

 have hgo : ∀ (r' : Option (Nat × Nat × Nat × Nat × Nat)) (tks' : List Nat) (q' : Bun) (L' : List Blk) (vs : List Value), i < nb → i < 40 → Heap (begsW w0 (ops.take (i + 1))) st tks' q' → (r' = none → tks' = []) → (∀ tr tc kr kc m, r' = some (tr, tc, kr, kc, m) → tks'.length = m + 1) →
   [2, 3, 4, 11, 12, 13, 15, 16, 17].zip vs = slSA gb o nb cb pv wh rv thing pT ⟨r', tks', i + 1, q'⟩ → Sy.Ent L' (rowsBg (begsW w0 (ops.take (i + 1))) ⟨r', tks', i + 1, q'⟩ ++ (⟨gb, opsC o ops, false⟩ :: ⟨pT, thB va vb vc vd ve, false⟩ :: q'.map ownOf)) →
   Sy.leafLB (bgCA w0 st b gb o nb cb (opsC o ops) ops pv wh rv thing pT va vb vc vd ve) [2, 3, 4, 11, 12, 13, 15, 16, 17] (fun s => slSA gb o nb cb pv wh rv thing pT s) (fun s => memBg w0 ops gb pT o nb (opsC o ops) (thB va vb vc vd ve) s) (fun s => okBg w0 st b o nb (opsC o ops) ops thing (.agg #[va, vb, vc, vd, ve]) ∧ OkBgS w0 st ops nb 40 s) (fun s => 40 - s.i) ⟨r, tks, i, q⟩ (.normal, 146, vs, L') :=
  fun r' tks' q' L' vs hl hl2 hH' hn' hr' hs hE => ⟨rfl, .inl ⟨rfl, ⟨r', tks', i + 1, q'⟩, ⟨hok, ⟨hl, hl2⟩, hH', hn', hr'⟩, by show 40 - (i + 1) < 40 - i; omega, hs, Sy.Ent.trans hE (bg_ent _ gb pT o (min (i + 1) (nb - 1)) (thB va vb vc vd ve) ops q' (by omega))⟩⟩
 have hlast : ¬ (i < nb ∧ i < 40) → begsW w0 (ops.take i) = begsW w0 (ops.take 40) := fun h => by
  by_cases e : i = 40
  ·rw [e]
  ·rw [List.take_of_length_le (by omega), List.take_of_length_le (by omega)]
 have key : ∀ (w : WorldD) (kd v n : Int) (k : Nat), w = begsW w0 (ops.take i) → kd = (xBg ops nb i).kind → n = (xBg ops nb i).n → v = (xBg ops nb i).v → k = kindW thing kd → i < nb →
   (mayW w k n = true → begsW w0 (ops.take (i + 1)) = beginW w k v n) ∧ (mayW w k n = false → begsW w0 (ops.take (i + 1)) = w) := fun w kd v n k e0 e1 e2 e3 e4 hl => by
  subst e0 e1 e2 e3 e4
  rw [hnext hl]
  unfold begO
  rw [hwt]
  exact ⟨fun h => if_pos h, fun h => if_neg (by rw [h]; decide)⟩
 cases r with
 | none =>
   have ht := hnil rfl
   subst ht
   simp only [bgA0_R, Sy.Res.holds, hwi, natV_nat]
   rw [show (40 : Int) = Int.ofNat 40 from rfl, lt_and]
   have htn : (begsW w0 (ops.take i)).tasks = [] := List.eq_nil_of_length_eq_zero hlen.symm
   have hk0 : kindsV (begsW w0 (ops.take i)) = [] := by unfold kindsV; rw [htn]; rfl
   refine ⟨fun hl => ?_, fun hl => ?_⟩
   ·obtain ⟨hl, hl2⟩ := of_decide_eq_true hl
    refine ⟨⟨Int.natCast_nonneg i, by show (i : Int) < _; omega⟩, ⟨_, h0 hl⟩, fun g0 => ⟨hok.ht, fun _ => ⟨⟨Int.natCast_nonneg i, by show (i : Int) < _; omega⟩, ⟨_, h2 hl⟩, fun g2 => ⟨⟨Int.natCast_nonneg i, by show (i : Int) < _; omega⟩, ⟨_, h1 hl⟩, fun g1 => ?_⟩⟩⟩⟩
    have e0 := hx (h0 hl) g0
    have e1 := hx (h1 hl) g1
    have e2 := hx (h2 hl) g2
    obtain ⟨k1, k2⟩ := key _ _ _ _ _ rfl e0 e1 e2 rfl hl
    refine ⟨⟨congrArg (fun z => #[z, _, _, _]) hcs, hH, by rw [e0]; exact hkd⟩, hperm [_, _, _], fun hq _ _ => ?_, fun hq => ?_⟩
    ·obtain ⟨hq1, hq2⟩ := hq
     have kk := k1 hq1
     refine hgo (some ((ns 6).n, (ns 7).n, (ns 9).n, (ns 10).n, 0)) [(ns 4).n] (ns 3).q _ _ hl hl2 (by rw [kk]; exact hq2) (fun h => by cases h) (fun _ _ _ _ m h => by injection h with h; injection h with _ h; injection h with _ h; injection h with _ h; injection h with _ h; rw [← h]; rfl) rfl ?_
     show Sy.Ent _ (⟨_, .row tTP 1 1 _ (ptrs [(ns 4).n]), true⟩ :: ⟨_, .row tI 1 1 _ (kindsV (begsW w0 (ops.take (i + 1)))), true⟩ :: _)
     rw [kk, kinds_begin, hk0]
     exact Sy.Ent.trans (Sy.Ent.sub (.cons_cons _ (.cons _ (.cons_cons _ (.cons _ (.cons _ (List.Sublist.refl _))))))) (Sy.Ent.perm (List.Perm.swap _ _ _))
    ·obtain ⟨hq1, hq2⟩ := hq
     have kk := k2 hq1
     exact hgo none [] (ns 3).q _ _ hl hl2 (by rw [kk]; exact hq2) (fun _ => rfl) (fun _ _ _ _ m h => by cases h) rfl (Sy.Ent.sub (.cons _ (List.Sublist.refl _)))
   ·have hl := hlast (of_decide_eq_false hl)
    refine ⟨rfl, .inr ⟨by simp, _, Sy.mH, rfl, [⟨0, 0, false, undef, [], q⟩, Let.none, Let.none, Let.none, Let.none, Let.none, Let.none], rfl, ⟨[1, 2, 4, 6, 7], rfl⟩, Sy.Ent.sub (.cons _ (.cons _ (.cons _ (List.Sublist.refl _)))), ?_, ?_⟩⟩
    ·rw [← hl]
     exact htn
    ·rw [← hl]
     exact hH
 | some x =>
   obtain ⟨tr, tc, kr, kc, m⟩ := x
   have hm := hrow tr tc kr kc m rfl
   simp only [bgA1_R, Sy.Res.holds, hwi, natV_nat]
   rw [show (40 : Int) = Int.ofNat 40 from rfl, lt_and]
   refine ⟨fun hl => ?_, fun hl => ?_⟩
   ·obtain ⟨hl, hl2⟩ := of_decide_eq_true hl
    refine ⟨⟨Int.natCast_nonneg i, by show (i : Int) < _; omega⟩, ⟨_, h0 hl⟩, fun g0 => ⟨hok.ht, fun _ => ⟨⟨Int.natCast_nonneg i, by show (i : Int) < _; omega⟩, ⟨_, h2 hl⟩, fun g2 => ⟨⟨Int.natCast_nonneg i, by show (i : Int) < _; omega⟩, ⟨_, h1 hl⟩, fun g1 => ?_⟩⟩⟩⟩
    have e0 := hx (h0 hl) g0
    have e1 := hx (h1 hl) g1
    have e2 := hx (h2 hl) g2
    obtain ⟨k1, k2⟩ := key _ _ _ _ _ rfl e0 e1 e2 rfl hl
    refine ⟨⟨congrArg (fun z => #[z, _, _, _]) hcs, hH, by rw [e0]; exact hkd⟩, hperm [_, _, _, _, _], fun hq => ⟨by omega, by omega, fun _ => ⟨by omega, by omega, fun _ => ?_⟩⟩, fun hq => ?_⟩
    ·obtain ⟨hq1, hq2⟩ := hq
     have kk := k1 hq1
     refine hgo (some ((ns 6).n, (ns 7).n, (ns 9).n, (ns 10).n, m + 1)) (tks ++ [(ns 4).n]) (ns 3).q _ _ hl hl2 (by rw [kk]; exact hq2) (fun h => by cases h) (fun _ _ _ _ m' h => by injection h with h; injection h with _ h; injection h with _ h; injection h with _ h; injection h with _ h; rw [← h, List.length_append, hm]; rfl) rfl ?_
     show Sy.Ent _ (⟨_, .row tTP 1 (m + 1 + 1) _ (ptrs (tks ++ [(ns 4).n])), true⟩ :: ⟨_, .row tI 1 (m + 1 + 1) _ (kindsV (begsW w0 (ops.take (i + 1)))), true⟩ :: _)
     rw [kk, kinds_begin, ptrs_app]
     exact Sy.Ent.trans (Sy.Ent.sub (.cons_cons _ (.cons _ (.cons_cons _ (.cons _ (.cons _ (List.Sublist.refl _))))))) (Sy.Ent.perm (List.Perm.swap _ _ _))
    ·obtain ⟨hq1, hq2⟩ := hq
     have kk := k2 hq1
     refine hgo (some (tr, tc, kr, kc, m)) tks (ns 3).q _ _ hl hl2 (by rw [kk]; exact hq2) (fun h => by cases h) (fun _ _ _ _ m' h => by injection h with h; injection h with _ h; injection h with _ h; injection h with _ h; injection h with _ h; rw [← h]; exact hm) rfl ?_
     rw [kk]
     exact Sy.Ent.sub (.cons_cons _ (.cons_cons _ (.cons _ (List.Sublist.refl _))))
   ·have hl := hlast (of_decide_eq_false hl)
    refine ⟨rfl, .inr ⟨by simp, _, Sy.mC _ (Sy.mS _), rfl, [⟨0, 0, false, undef, [], q⟩, ⟨tr, 0, false, undef, [], []⟩, ⟨tc, 0, false, undef, [], []⟩, ⟨kr, 0, false, undef, [], []⟩, ⟨kc, 0, false, undef, [], []⟩, ⟨0, 0, false, undef, ptrs tks, []⟩, ⟨m, 0, false, undef, [], []⟩], rfl, ⟨[1, 2, 4, 6, 7], rfl⟩, ?_, ?_, ?_⟩⟩
    ·show Sy.Ent _ (⟨tr, .row tTP 1 (m + 1) tc (ptrs (namesOf (ptrs tks))), true⟩ :: ⟨kr, .row tI 1 (m + 1) kc (kindsV (begsW w0 (ops.take 40))), true⟩ :: q.map ownOf)
     rw [names_ptrs, ← hl]
     exact Sy.Ent.sub (.cons_cons _ (.cons_cons _ (.cons _ (.cons _ (.cons _ (List.Sublist.refl _))))))
    ·show Heap _ st (namesOf (ptrs tks)) q
     rw [names_ptrs, ← hl]
     exact hH
    ·show _ = m + 1
     rw [← hl]
     omega
end Go.Proofs.YtjohknpmhlildaaDoor.At
namespace Go.Proofs.YtjohknpmhlildaaDoor.Sy
open Go Go.RowKit
def dropB (n : Nat) (L : List Blk) : List Blk := @Nat.rec (fun _ => List Blk → List Blk) (fun l => l) (fun _ ih l => match l with
 | _ :: r => ih r
 | [] => []) n L
def takeB (n : Nat) (L : List Blk) : List Blk := @Nat.rec (fun _ => List Blk → List Blk) (fun _ => []) (fun _ ih l => match l with
 | b :: r => b :: ih r
 | [] => []) n L
def rowOf (e : TypeId) (L : List Blk) : Blk := @List.rec Blk (fun _ => Blk) ⟨0, .seg 0 [], false⟩ (fun b _ ih => match b with
 | ⟨n, .row e' z k c xs, o⟩ => match Nat.beq e' e with
   | true => ⟨n, .row e' z k c xs, o⟩
   | false => ih
 | _ => ih) L
def nmB (e : TypeId) (L : List Blk) : Nat := match rowOf e L with
 | ⟨n, _, _⟩ => n
def ctB (e : TypeId) (L : List Blk) : Cont := match rowOf e L with
 | ⟨_, c, _⟩ => c
def rowXs (e : TypeId) (L : List Blk) : List Value := match rowOf e L with
 | ⟨_, .row _ _ _ _ xs, _⟩ => xs
 | _ => []
def celB (n i : Nat) (L : List Blk) : Value := match nth L n with
 | some ⟨_, .obj (.cells c _ _), _⟩ => argV c i
 | _ => undef
end Go.Proofs.YtjohknpmhlildaaDoor.Sy
namespace Go.Proofs.YtjohknpmhlildaaDoor.At
open Go Go.RowKit
open Go.Proofs.YtjohknpmhlildaaDoor.Sy (Let Blk Cont Bun ptr ptr0 bx tkB tkU clo DoesB usedK ownOf rdsOf Rep does_frame does_perm does_mono does_all does_of S0_holds bunO)
open Go.Proofs.YtjohknpmhlildaaDoor.As
def stE (w : WorldD) (tks : List Nat) (b : Bun) : Nat := @Classical.epsilon Nat ⟨0⟩ fun st => Heap w st tks b
theorem stE_spec {w : WorldD} {st : Nat} {tks : List Nat} {b : Bun} (h : Heap w st tks b) : Heap w (stE w tks b) tks b := @Classical.epsilon_spec Nat (fun st => Heap w st tks b) ⟨st, h⟩
def kdA (w : WorldD) (n : Nat) : Nat := (w.tasks.map (·.kind)).getD n 0
def tkA (xs : List Value) (n : Nat) : Nat := (namesOf xs).getD n 0
def bdA (kd r : Nat) : Nat := if kd = 3 ∨ kd = 4 then 12 else if kd = 7 then 3 * r else if kd = 8 then 3 * r + 1 else 3
theorem kinds_at {w : WorldD} {n : Nat} (h : n < w.tasks.length) : (kindsV w)[n]? = some (.int .i64 (kdA w n : Int)) := by
 unfold kindsV kdA
 rw [List.getElem?_map, List.getD_eq_getElem?_getD, List.getElem?_map, List.getElem?_eq_getElem h]
 rfl
theorem kdA_of {w : WorldD} {n : Nat} {t : TaskD} (h : w.tasks[n]? = some t) : kdA w n = t.kind := by
 unfold kdA
 rw [List.getD_eq_getElem?_getD, List.getElem?_map, h]
 rfl
theorem kdA_congr {w w' : WorldD} (h : w.tasks.map (·.kind) = w'.tasks.map (·.kind)) (n : Nat) : kdA w n = kdA w' n := by
 unfold kdA
 rw [h]
end Go.Proofs.YtjohknpmhlildaaDoor.At
--@tail 00
namespace Go.Proofs.YtjohknpmhlildaaDoor.At
open Sy.O (fork nil step steps)
open Sy.Res (need hyp br leaf both)
open Go Go.RowKit
open Go.Proofs.YtjohknpmhlildaaDoor.Sy (Let Blk Cont Bun ptr ptr0 bx tkB tkU clo bunO)
open Go.Proofs.YtjohknpmhlildaaDoor.As
def bagC (W0 : WorldD) (ops : List OpD) (gb o nb cb : Nat) (C : Cont) (pv : Value) (wh t : Int) (F : Sy.F) (L : List Blk) : Sy.LoopC :=
 bgCA W0 (stV (fitN t) (.agg #[Sy.celB 0 0 L, Sy.celB 0 1 L, Sy.celB 0 2 L, Sy.celB 0 3 L, Sy.celB 0 4 L])) (allB (Sy.dropB 3 L)) gb o nb cb C ops pv wh (intV (F.get 12)) (fitN t) (Sy.ptrN (F.get 13)) (Sy.celB 0 0 L) (Sy.celB 0 1 L) (Sy.celB 0 2 L) (Sy.celB 0 3 L) (Sy.celB 0 4 L)
def opK3 (n kd slot : Nat) (F : Sy.F) (L : List Blk) : Sy.OpK :=
 ldP tI (Sy.nmB tI L) (Sy.ctB tI L) n (.int .i64 (kd : Nat)) slot F
def opT3 (n slot : Nat) (F : Sy.F) (L : List Blk) : Sy.OpK :=
 ldP tTP (Sy.nmB tTP L) (Sy.ctB tTP L) n (ptr (tkA (Sy.rowXs tTP L) n)) slot F
def ctxAA (W0 WL WP : WorldD) (ops : List OpD) (gb o nb cb : Nat) (C : Cont) (pv : Value) (P : List Int) (t room wh : Int) (n kd : Nat) : Sy.Ctx :=
 Sy.mkU (Sy.mkS [(fAwake, fun _ _ => awC), (fFit, fun _ _ => fitC t), (fMade, fun a _ => atC (madeD (fitN t) (roomN room) W0) a), (fThere, fun a _ => atC (thereC (fitN t) (stV (fitN t) (Sy.argV a 0))) a), (fDone, fun a L => okM (rdC fDone a (allB (Sy.dropB 5 L)) (.bool true)))] []
   [(fAA, 111, fun F L => opK3 n kd 110 F L), (fAA, 117, fun F L => opK3 n kd 116 F L), (fAA, 123, fun F L => opK3 n kd 122 F L), (fAA, 130, fun F L => opK3 n kd 129 F L), (fAA, 138, fun F L => opT3 n 137 F L), (fAA, 144, fun F L => opT3 n 143 F L)])
  [(fPlay, fun a L => (playC WL (stE WL (namesOf (Sy.rowXs tTP L)) (allB (Sy.dropB 5 L))) (namesOf (Sy.rowXs tTP L)) (allB (Sy.dropB 5 L)) (Sy.argV a 0) (Sy.argV a 1) P (allB (Sy.takeB 5 L))).toU [] (allB (Sy.dropB 5 L)) (Sy.takeB 5 L)),
   (fAlone, fun a L => (atC (aloneC WP (stE WP (namesOf (Sy.rowXs tTP L)) (allB (Sy.dropB 5 L))) (namesOf (Sy.rowXs tTP L)) (allB (Sy.dropB 5 L)) n (Sy.ptrN (Sy.argV a 0)) (bdA kd (roomN room))) a).toU [] (allB (Sy.dropB 5 L)) (Sy.takeB 5 L))]
  [(fAA, fun F L => (bagC W0 ops gb o nb cb C pv wh t F L).toU [] (allB (Sy.dropB 3 L)) (Sy.takeB 1 (Sy.dropB 2 L)))]
def aa_o : Sy.O := (steps [0, 0, 0, 0, 0, 0, 0, 0, 0] (fork (steps [0, 2, 0, 0, 1, 1, 0, 0, 1, 0, 0, 0, 0, 0, 0, 0, 0, 0, 1, 0, 0, 0, 1, 1, 0, 1, 0, 0] (fork (steps [1, 0, 0] nil) (steps [1, 0, 0, 0, 0, 1, 0, 1, 0] (fork (steps [0, 0, 1, 0, 1, 1, 0, 0, 1] (fork (steps [0, 0, 0, 0, 0, 0, 1, 0, 0, 1, 0, 0, 1] (fork (steps [0, 1, 0, 0, 1, 0, 0, 1] (fork (steps [0, 1, 0, 1, 1, 0, 0, 1, 0, 0, 0, 1, 0, 1, 0, 0, 1, 0, 0, 1, 0, 1, 0, 0, 1] nil) (steps [0, 1, 0, 1, 1, 0, 0, 1, 0, 0, 0, 1, 0, 1, 0, 0, 1, 0, 0, 1, 0, 1, 0, 0, 1] nil))) (steps [0, 1, 0, 0, 1, 0, 0, 1] (fork (steps [0, 1, 0, 1, 1, 0, 0, 1, 0, 0, 0, 1, 0, 1, 0, 0, 1, 0, 0, 1, 0, 1, 0, 0, 1] nil) (steps [0, 1, 0, 1, 1, 0, 0, 1, 0, 0, 0, 1, 0, 1, 0, 0, 1, 0, 0, 1, 0, 1, 0, 0, 1] nil))))) (steps [0, 0, 0, 1, 0, 0, 0, 1, 0, 0, 1, 0] (fork (steps [0, 1, 0, 0, 1, 0, 0, 1] (fork (steps [0, 1, 0, 0, 1, 0, 0, 1] (fork (steps [0, 1, 0, 1, 1, 0, 0, 1, 0, 0, 0, 1, 0, 1, 0, 0, 1, 0, 0, 1, 0, 1, 0, 0, 1] nil) (steps [0, 1, 0, 1, 1, 0, 0, 1, 0, 0, 0, 1, 0, 1, 0, 0, 1, 0, 0, 1, 0, 1, 0, 0, 1] nil))) (steps [0, 1, 0, 0, 1, 0, 0, 1] (fork (steps [0, 1, 0, 1, 1, 0, 0, 1, 0, 0, 0, 1, 0, 1, 0, 0, 1, 0, 0, 1, 0, 1, 0, 0, 1] nil) (steps [0, 1, 0, 1, 1, 0, 0, 1, 0, 0, 0, 1, 0, 1, 0, 0, 1, 0, 0, 1, 0, 1, 0, 0, 1] nil))))) (steps [0, 1, 0, 0, 1, 0, 0, 1] (fork (steps [0, 1, 0, 0, 1, 0, 0, 1] (fork (steps [0, 1, 0, 1, 1, 0, 0, 1, 0, 0, 0, 1, 0, 1, 0, 0, 1, 0, 0, 1, 0, 1, 0, 0, 1] nil) (steps [0, 1, 0, 1, 1, 0, 0, 1, 0, 0, 0, 1, 0, 1, 0, 0, 1, 0, 0, 1, 0, 1, 0, 0, 1] nil))) (steps [0, 1, 0, 0, 1, 0, 0, 1] (fork (steps [0, 1, 0, 1, 1, 0, 0, 1, 0, 0, 0, 1, 0, 1, 0, 0, 1, 0, 0, 1, 0, 1, 0, 0, 1] nil) (steps [0, 1, 0, 1, 1, 0, 0, 1, 0, 0, 0, 1, 0, 1, 0, 0, 1, 0, 0, 1, 0, 1, 0, 0, 1] nil))))))))) (steps [0, 1, 0, 1, 1, 0, 0, 1] (fork (steps [0, 0, 0, 0, 0, 0, 1, 0, 0, 1, 0, 0, 1] (fork (steps [0, 1, 0, 0, 1, 0, 0, 1] (fork (steps [0, 1, 0, 1, 1, 0, 0, 1, 0, 0, 0, 1, 0, 1, 0, 0, 1, 0, 0, 1, 0, 1, 0, 0, 1] nil) (steps [0, 1, 0, 1, 1, 0, 0, 1, 0, 0, 0, 1, 0, 1, 0, 0, 1, 0, 0, 1, 0, 1, 0, 0, 1] nil))) (steps [0, 1, 0, 0, 1, 0, 0, 1] (fork (steps [0, 1, 0, 1, 1, 0, 0, 1, 0, 0, 0, 1, 0, 1, 0, 0, 1, 0, 0, 1, 0, 1, 0, 0, 1] nil) (steps [0, 1, 0, 1, 1, 0, 0, 1, 0, 0, 0, 1, 0, 1, 0, 0, 1, 0, 0, 1, 0, 1, 0, 0, 1] nil))))) (steps [0, 0, 0, 1, 0, 0, 0, 1, 0, 0, 1, 0] (fork (steps [0, 1, 0, 0, 1, 0, 0, 1] (fork (steps [0, 1, 0, 0, 1, 0, 0, 1] (fork (steps [0, 1, 0, 1, 1, 0, 0, 1, 0, 0, 0, 1, 0, 1, 0, 0, 1, 0, 0, 1, 0, 1, 0, 0, 1] nil) (steps [0, 1, 0, 1, 1, 0, 0, 1, 0, 0, 0, 1, 0, 1, 0, 0, 1, 0, 0, 1, 0, 1, 0, 0, 1] nil))) (steps [0, 1, 0, 0, 1, 0, 0, 1] (fork (steps [0, 1, 0, 1, 1, 0, 0, 1, 0, 0, 0, 1, 0, 1, 0, 0, 1, 0, 0, 1, 0, 1, 0, 0, 1] nil) (steps [0, 1, 0, 1, 1, 0, 0, 1, 0, 0, 0, 1, 0, 1, 0, 0, 1, 0, 0, 1, 0, 1, 0, 0, 1] nil))))) (steps [0, 1, 0, 0, 1, 0, 0, 1] (fork (steps [0, 1, 0, 0, 1, 0, 0, 1] (fork (steps [0, 1, 0, 1, 1, 0, 0, 1, 0, 0, 0, 1, 0, 1, 0, 0, 1, 0, 0, 1, 0, 1, 0, 0, 1] nil) (steps [0, 1, 0, 1, 1, 0, 0, 1, 0, 0, 0, 1, 0, 1, 0, 0, 1, 0, 0, 1, 0, 1, 0, 0, 1] nil))) (steps [0, 1, 0, 0, 1, 0, 0, 1] (fork (steps [0, 1, 0, 1, 1, 0, 0, 1, 0, 0, 0, 1, 0, 1, 0, 0, 1, 0, 0, 1, 0, 1, 0, 0, 1] nil) (steps [0, 1, 0, 1, 1, 0, 0, 1, 0, 0, 0, 1, 0, 1, 0, 0, 1, 0, 0, 1, 0, 1, 0, 0, 1] nil))))))))))))) (steps [0, 2, 0, 0, 1, 1, 0, 0, 1, 0, 0, 0, 0, 0, 0, 0, 0, 0, 1, 0, 0, 0, 1, 1, 0, 1, 0, 0] (fork (steps [1, 0, 0] nil) (steps [1, 0, 0, 0, 0, 1, 0, 1, 0] (fork (steps [0, 0, 1, 0, 1, 1, 0, 0, 1] (fork (steps [0, 0, 0, 0, 0, 0, 1, 0, 0, 1, 0, 0, 1] (fork (steps [0, 1, 0, 0, 1, 0, 0, 1] (fork (steps [0, 1, 0, 1, 1, 0, 0, 1, 0, 0, 0, 1, 0, 1, 0, 0, 1, 0, 0, 1, 0, 1, 0, 0, 1] nil) (steps [0, 1, 0, 1, 1, 0, 0, 1, 0, 0, 0, 1, 0, 1, 0, 0, 1, 0, 0, 1, 0, 1, 0, 0, 1] nil))) (steps [0, 1, 0, 0, 1, 0, 0, 1] (fork (steps [0, 1, 0, 1, 1, 0, 0, 1, 0, 0, 0, 1, 0, 1, 0, 0, 1, 0, 0, 1, 0, 1, 0, 0, 1] nil) (steps [0, 1, 0, 1, 1, 0, 0, 1, 0, 0, 0, 1, 0, 1, 0, 0, 1, 0, 0, 1, 0, 1, 0, 0, 1] nil))))) (steps [0, 0, 0, 1, 0, 0, 0, 1, 0, 0, 1, 0] (fork (steps [0, 1, 0, 0, 1, 0, 0, 1] (fork (steps [0, 1, 0, 0, 1, 0, 0, 1] (fork (steps [0, 1, 0, 1, 1, 0, 0, 1, 0, 0, 0, 1, 0, 1, 0, 0, 1, 0, 0, 1, 0, 1, 0, 0, 1] nil) (steps [0, 1, 0, 1, 1, 0, 0, 1, 0, 0, 0, 1, 0, 1, 0, 0, 1, 0, 0, 1, 0, 1, 0, 0, 1] nil))) (steps [0, 1, 0, 0, 1, 0, 0, 1] (fork (steps [0, 1, 0, 1, 1, 0, 0, 1, 0, 0, 0, 1, 0, 1, 0, 0, 1, 0, 0, 1, 0, 1, 0, 0, 1] nil) (steps [0, 1, 0, 1, 1, 0, 0, 1, 0, 0, 0, 1, 0, 1, 0, 0, 1, 0, 0, 1, 0, 1, 0, 0, 1] nil))))) (steps [0, 1, 0, 0, 1, 0, 0, 1] (fork (steps [0, 1, 0, 0, 1, 0, 0, 1] (fork (steps [0, 1, 0, 1, 1, 0, 0, 1, 0, 0, 0, 1, 0, 1, 0, 0, 1, 0, 0, 1, 0, 1, 0, 0, 1] nil) (steps [0, 1, 0, 1, 1, 0, 0, 1, 0, 0, 0, 1, 0, 1, 0, 0, 1, 0, 0, 1, 0, 1, 0, 0, 1] nil))) (steps [0, 1, 0, 0, 1, 0, 0, 1] (fork (steps [0, 1, 0, 1, 1, 0, 0, 1, 0, 0, 0, 1, 0, 1, 0, 0, 1, 0, 0, 1, 0, 1, 0, 0, 1] nil) (steps [0, 1, 0, 1, 1, 0, 0, 1, 0, 0, 0, 1, 0, 1, 0, 0, 1, 0, 0, 1, 0, 1, 0, 0, 1] nil))))))))) (steps [0, 1, 0, 1, 1, 0, 0, 1] (fork (steps [0, 0, 0, 0, 0, 0, 1, 0, 0, 1, 0, 0, 1] (fork (steps [0, 1, 0, 0, 1, 0, 0, 1] (fork (steps [0, 1, 0, 1, 1, 0, 0, 1, 0, 0, 0, 1, 0, 1, 0, 0, 1, 0, 0, 1, 0, 1, 0, 0, 1] nil) (steps [0, 1, 0, 1, 1, 0, 0, 1, 0, 0, 0, 1, 0, 1, 0, 0, 1, 0, 0, 1, 0, 1, 0, 0, 1] nil))) (steps [0, 1, 0, 0, 1, 0, 0, 1] (fork (steps [0, 1, 0, 1, 1, 0, 0, 1, 0, 0, 0, 1, 0, 1, 0, 0, 1, 0, 0, 1, 0, 1, 0, 0, 1] nil) (steps [0, 1, 0, 1, 1, 0, 0, 1, 0, 0, 0, 1, 0, 1, 0, 0, 1, 0, 0, 1, 0, 1, 0, 0, 1] nil))))) (steps [0, 0, 0, 1, 0, 0, 0, 1, 0, 0, 1, 0] (fork (steps [0, 1, 0, 0, 1, 0, 0, 1] (fork (steps [0, 1, 0, 0, 1, 0, 0, 1] (fork (steps [0, 1, 0, 1, 1, 0, 0, 1, 0, 0, 0, 1, 0, 1, 0, 0, 1, 0, 0, 1, 0, 1, 0, 0, 1] nil) (steps [0, 1, 0, 1, 1, 0, 0, 1, 0, 0, 0, 1, 0, 1, 0, 0, 1, 0, 0, 1, 0, 1, 0, 0, 1] nil))) (steps [0, 1, 0, 0, 1, 0, 0, 1] (fork (steps [0, 1, 0, 1, 1, 0, 0, 1, 0, 0, 0, 1, 0, 1, 0, 0, 1, 0, 0, 1, 0, 1, 0, 0, 1] nil) (steps [0, 1, 0, 1, 1, 0, 0, 1, 0, 0, 0, 1, 0, 1, 0, 0, 1, 0, 0, 1, 0, 1, 0, 0, 1] nil))))) (steps [0, 1, 0, 0, 1, 0, 0, 1] (fork (steps [0, 1, 0, 0, 1, 0, 0, 1] (fork (steps [0, 1, 0, 1, 1, 0, 0, 1, 0, 0, 0, 1, 0, 1, 0, 0, 1, 0, 0, 1, 0, 1, 0, 0, 1] nil) (steps [0, 1, 0, 1, 1, 0, 0, 1, 0, 0, 0, 1, 0, 1, 0, 0, 1, 0, 0, 1, 0, 1, 0, 0, 1] nil))) (steps [0, 1, 0, 0, 1, 0, 0, 1] (fork (steps [0, 1, 0, 1, 1, 0, 0, 1, 0, 0, 0, 1, 0, 1, 0, 0, 1, 0, 0, 1, 0, 1, 0, 0, 1] nil) (steps [0, 1, 0, 1, 1, 0, 0, 1, 0, 0, 0, 1, 0, 1, 0, 0, 1, 0, 0, 1, 0, 1, 0, 0, 1] nil)))))))))))))))
noncomputable def aa_R (W0 WL WP : WorldD) (ops : List OpD) (gb o nb cb : Nat) (xs : List Value) (gp : Nat) (C2 : Cont) (pv : Value) (P : List Int) (t room wh : Int) (n kd : Nat) (ns : Nat → Sy.Let) : Sy.Res (Value × List Blk) :=
 let z0 := Ex.remQ room (nat_lit 16)
 let z1 := fitN t
 let z2 := Ex.wrapQ .i64 (Ex.addQ (Ex.wrapQ .i64 (Ex.subQ' 0 z0)) 1)
 let z3 := roomN room
 let z4 := [Value.int .i64 (↑z1 : Int), Value.int .i64 (↑z3 : Int)]
 let z5 := ns 1
 let z6 := Let.q (ns 0)
 let z7 := (WorldD.thing W0 = 3 ∧ HeapL W0 z5.n [] z6 ∨ ∃ (b0 : List (Nat × Cont)), List.Perm z6 (b0.append [(0, Cont.row 175 1 64 64 tabV)]) ∧ HeapX W0 z5.n [] b0)
 let z8 := Array.mk [tvI 1 z1 z5.n, tvI 2 z1 z5.n, tvI 3 z1 z5.n, tvI 4 z1 z5.n, tvI 5 z1 z5.n]
 let z9 := (5 : Nat) = 5 ∧ (5 : Nat) = 5 ∧ Array.all z8 (fun (x : Value) => Value.oneCell' x) 0 5 = true
 let z10 := stV z1 (Value.agg z8)
 let z11 := Array.mk [Value.agg z8, Value.int .i64 (↑z1 : Int)] = Array.mk [thV4 z1 z10, Value.int .i64 (↑z1 : Int)] ∧ 1 ≤ fitN t ∧ fitN t ≤ 5
 let z12 := fun (p : Nat × Cont) => Blk.mk (Prod.fst p) (Prod.snd p) true
 let z13 := allB (List.map z12 z6)
 let z14 := Cont.seg o xs
 let z15 := okBg W0 z10 z13 o nb z14 ops z1 (Value.agg z8)
 let z16 := List.Perm (Blk.mk gp C2 false :: List.map z12 z6) ((List.map z12 z13).append [Blk.mk gp C2 false])
 let z17 := begsW W0 (List.take 40 ops)
 let z18 := Let.q (ns 3)
 let z19 := ns 2
 let z20 := Cont.obj (Obj.cells z8 31)
 let z21 := hyp (WorldD.tasks z17 = [] ∧ Heap z17 z10 [] z18) (leaf (Value.bool true, Blk.mk gb z14 false :: Blk.mk z19.n z20 true :: Blk.mk gp C2 false :: List.map z12 z18))
 let z22 := Heap z17 z10 (namesOf (ns 8).l) z18 ∧ List.length (WorldD.tasks z17) = (ns 9).n + 1
 let z23 := ptrs (namesOf (ns 8).l)
 let z24 := namesOf z23
 let z25 := allB (List.map z12 z18)
 let z26 := ns 4
 let z27 := (ns 9).n + 1
 let z28 := Cont.row 48 1 z27 (ns 5).n z23
 let z29 := ns 6
 let z30 := kindsV z17
 let z31 := Cont.row 3 1 z27 (ns 7).n z30
 let z32 := [Blk.mk z26.n z28 true, Blk.mk z29.n z31 true, Blk.mk gb z14 false, Blk.mk z19.n z20 true, Blk.mk gp C2 false]
 let z33 := okPlay WL (stE WL z24 z25) z24 z25 (Value.slice (some (Addr.mk z26.n 0 none)) z27 (ns 5).n) pv P (allB z32)
 let z34 := List.Perm (Blk.mk z26.n z28 true :: Blk.mk z29.n z31 true :: Blk.mk gb z14 false :: Blk.mk z19.n z20 true :: Blk.mk gp C2 false :: List.map z12 z18) ((List.map z12 z25).append z32)
 let z35 := Sy.GotL z32 (Sy.MemC.rb (Sy.MemC.mk [] z25 2 (allB z32)))
 let z36 := Let.q (ns 11)
 let z37 := Heap (playW WL P) (stE WL z24 z25) z24 z36 ∧ sumW (playW WL P) = sumW WL + (ns 12).n
 let z38 := Ex.remQ wh z27
 let z39 := Ex.ltQ z38 0
 let z40 := Ex.addQ z38 (Int.ofNat z27)
 let z41 := 0 ≤ Ex.wrapQ .i64 z40 ∧ Ex.wrapQ .i64 z40 < (↑z27 : Int)
 let z42 := 0 + Int.toNat (Ex.wrapQ .i64 z40) * 1
 let z43 := Value.int .i64 (↑kd : Int)
 let z44 := some false = some false ∧ adrV (Value.pointer (some (Addr.mk z29.n z42 none))) = Addr.mk z29.n n none ∧ Cont.at z31 n = some z43
 let z45 := Ex.eqQ (↑kd : Int) 3
 let z46 := Ex.eqQ (↑kd : Int) 7
 let z47 := Ex.eqQ (↑kd : Int) 8
 let z48 := tkA z23 n
 let z49 := some (Addr.mk z48 0 none)
 let z50 := Value.pointer z49
 let z51 := some false = some false ∧ adrV (Value.pointer (some (Addr.mk z26.n z42 none))) = Addr.mk z26.n n none ∧ Cont.at z28 n = some z50
 let z52 := Ex.wrapQ .i64 (Ex.mulQ 3 z2)
 let z53 := Ex.wrapQ .i64 (Ex.addQ z52 1)
 let z54 := bdA kd z3
 let z55 := [Value.pointer z49, Value.int .i64 (↑z54 : Int)]
 let z56 := allB (List.map z12 z36)
 let z57 := stE WP z24 z56
 let z58 := Array.mk [Value.pointer z49, Value.int .i64 z53] = Array.mk z55 ∧ okAl WP z57 z24 z56 n z48 z54
 let z59 := List.Perm (Blk.mk z26.n z28 true :: Blk.mk z29.n z31 true :: Blk.mk gb z14 false :: Blk.mk z19.n z20 true :: Blk.mk gp C2 false :: List.map z12 z36) ((List.map z12 z56).append z32)
 let z60 := Let.q (ns 13)
 let z61 := (∃ (j : Nat), j ≤ bdA kd z3 ∧ Heap (runW WP n j) z57 z24 z60 ∧ (j = bdA kd z3 ∨ doneW (runW WP n j) n))
 let z62 := Let.n (ns 9) + 1
 let z63 := 0 + Int.toNat (Ex.wrapQ .i64 (Ex.addQ (Ex.remQ wh z62) (Int.ofNat z62))) * 1
 let z64 := ptrs (namesOf (Let.l (ns 8)))
 let z65 := some (Addr.mk (tkA z64 n) 0 none)
 let z66 := ptrs (namesOf (Let.l (ns 8)))
 let z67 := some (Addr.mk (tkA z66 n) 0 none)
 let z68 := allB (List.map z12 z60)
 let z69 := True ∧ MeetsA (rdC 19 (Array.mk [Value.pointer z67]) z68 (Value.bool true))
 let z70 := Cont.row 48 1 z27 (ns 5).n z64
 let z71 := Let.n (ns 1)
 let z72 := Cont.obj (Obj.cells (Array.mk [tvI 1 z1 z71, tvI 2 z1 z71, tvI 3 z1 z71, tvI 4 z1 z71, tvI 5 z1 z71]) 31)
 let z73 := Let.n (ns 9) + 1
 let z74 := Let.q (ns 13)
 let z75 := hyp True (need z69 (need (Sy.GotL (Blk.mk z26.n z70 true :: Blk.mk z29.n z31 true :: Blk.mk gb z14 false :: Blk.mk z19.n z72 true :: Blk.mk gp C2 false :: List.map z12 z60) (Sy.MemC.rb (Sy.MemC.mk [] [] 0 z68))) (hyp True (leaf (Value.bool true, Blk.mk z26.n z70 true :: Blk.mk z29.n (Cont.row 3 1 z73 (ns 7).n z30) true :: Blk.mk gb z14 false :: Blk.mk (Let.n z19) z72 true :: Blk.mk gp C2 false :: List.map z12 z74)))))
 let z76 := need z59 (hyp z61 (need z41 (need (some false = some false ∧ adrV (Value.pointer (some (Addr.mk z26.n z63 none))) = Addr.mk z26.n n none ∧ Cont.at z28 n = some (Value.pointer z65)) z75)))
 let z77 := need z41 (need z51 (hyp True (need z58 z76)))
 let z78 := Array.mk [Value.pointer z49, Value.int .i64 z52] = Array.mk z55 ∧ okAl WP z57 z24 z56 n z48 z54
 let z79 := Array.mk [Value.pointer z49, Value.int .i64 12] = Array.mk z55 ∧ okAl WP z57 z24 z56 n z48 z54
 let z80 := need z41 (need z51 (hyp True (need z79 z76)))
 let z81 := bif false then true else Ex.eqQ (↑kd : Int) 4
 let z82 := some false = some false ∧ adrV (Value.pointer (some (Addr.mk z26.n (0 + Int.toNat (Ex.wrapQ .i64 (Ex.addQ (Ex.remQ wh z73) (Int.ofNat z73))) * 1) none))) = Addr.mk z26.n n none ∧ Cont.at z28 n = some z50
 let z83 := [Value.pointer z65, Value.int .i64 (↑z54 : Int)]
 let z84 := Array.mk [Value.pointer z65, Value.int .i64 z53] = Array.mk z83 ∧ okAl WP z57 z24 z56 n z48 z54
 let z85 := Let.n z5
 let z86 := List.Perm (Blk.mk z26.n z28 true :: Blk.mk z29.n z31 true :: Blk.mk gb z14 false :: Blk.mk z19.n (Cont.obj (Obj.cells (Array.mk [tvI 1 z1 z85, tvI 2 z1 z85, tvI 3 z1 z85, tvI 4 z1 z85, tvI 5 z1 z71]) 31)) true :: Blk.mk gp C2 false :: List.map z12 z36) ((List.map z12 z56).append [Blk.mk z26.n z28 true, Blk.mk z29.n z31 true, Blk.mk gb z14 false, Blk.mk z19.n (Cont.obj (Obj.cells (Array.mk [tvI 1 z1 z85, tvI 2 z1 z85, tvI 3 z1 z85, tvI 4 z1 z85, tvI 5 z1 z85]) 31)) true, Blk.mk gp C2 false])
 let z87 := (∃ (j : Nat), j ≤ bdA kd z3 ∧ Heap (runW WP n j) (stE WP (namesOf z64) z56) (namesOf z64) z60 ∧ (j = bdA kd z3 ∨ doneW (runW WP n j) n))
 let z88 := Let.n z26
 let z89 := Let.n (ns 2)
 let z90 := hyp True (need z69 (need (Sy.GotL (Blk.mk z26.n (Cont.row 48 1 z73 (Let.n (ns 5)) z66) true :: Blk.mk (Let.n z29) (Cont.row 3 1 z62 (Let.n (ns 7)) z30) true :: Blk.mk gb z14 false :: Blk.mk z89 z72 true :: Blk.mk gp C2 false :: List.map z12 z74) (Sy.MemC.rb (Sy.MemC.mk [] [] 0 (allB (List.map z12 z74))))) (hyp True (leaf (Value.bool true, Blk.mk z88 (Cont.row 48 1 z62 (Let.n (ns 5)) z66) true :: Blk.mk (Let.n (ns 6)) (Cont.row 3 1 z62 (Let.n (ns 7)) z30) true :: Blk.mk gb z14 false :: Blk.mk z89 z72 true :: Blk.mk gp C2 false :: List.map z12 z74)))))
 let z91 := need z86 (hyp z87 (need z41 (need (some false = some false ∧ adrV (Value.pointer (some ⟨z88, z63, none⟩)) = Addr.mk z26.n n none ∧ Cont.at z70 n = some (Value.pointer z67)) z90)))
 let z92 := need z41 (need z82 (hyp True (need z84 z91)))
 let z93 := Array.mk [Value.pointer z65, Value.int .i64 z52] = Array.mk z83 ∧ okAl WP z57 z24 z56 n z48 z54
 let z94 := need z41 (need z44 (hyp True (br z47 z92 (need z41 (need z82 (hyp True (need z93 z91)))))))
 let z95 := Array.mk [Value.pointer z65, Value.int .i64 12] = Array.mk z83 ∧ okAl WP z57 z24 z56 n z48 z54
 let z96 := need z41 (need z82 (hyp True (need z95 z91)))
 let z97 := Array.mk [Value.pointer z65, Value.int .i64 3] = Array.mk z83 ∧ okAl WP z57 z24 z56 n z48 z54
 let z98 := need z41 (need z82 (hyp True (need z97 z91)))
 let z99 := 0 ≤ Ex.remQ wh z27 ∧ Ex.remQ wh z27 < (↑z27 : Int)
 let z100 := 0 + Int.toNat z38 * 1
 let z101 := some false = some false ∧ adrV (Value.pointer (some (Addr.mk z29.n z100 none))) = Addr.mk z29.n n none ∧ Cont.at z31 n = some z43
 let z102 := some false = some false ∧ adrV (Value.pointer (some (Addr.mk z26.n z100 none))) = Addr.mk z26.n n none ∧ Cont.at z28 n = some z50
 let z103 := need z59 (hyp z61 (need z99 (need (some false = some false ∧ adrV (Value.pointer (some (Addr.mk z26.n (0 + Int.toNat (Ex.remQ wh z73) * 1) none))) = Addr.mk z26.n n none ∧ Cont.at z28 n = some (Value.pointer z65)) z75)))
 let z104 := need z99 (need z102 (hyp True (need z58 z103)))
 let z105 := need z99 (need z102 (hyp True (need z79 z103)))
 let z106 := need z86 (hyp z87 (need z99 (need (some false = some false ∧ adrV (Value.pointer (some (Addr.mk z88 (0 + Int.toNat (Ex.remQ wh z62) * 1) none))) = Addr.mk z26.n n none ∧ Cont.at z70 n = some (Value.pointer z67)) z90)))
 let z107 := need z99 (need z102 (hyp True (need z84 z106)))
 let z108 := need z99 (need z101 (hyp True (br z47 z107 (need z99 (need z102 (hyp True (need z93 z106)))))))
 let z109 := need z99 (need z102 (hyp True (need z95 z106)))
 let z110 := need z99 (need z102 (hyp True (need z97 z106)))
 let z111 := Ex.wrapQ .i64 (Ex.addQ z0 1)
 let z112 := Ex.wrapQ .i64 (Ex.mulQ 3 z111)
 let z113 := Ex.wrapQ .i64 (Ex.addQ z112 1)
 let z114 := Array.mk [Value.pointer z49, Value.int .i64 z113] = Array.mk z55 ∧ okAl WP z57 z24 z56 n z48 z54
 let z115 := need z41 (need z51 (hyp True (need z114 z76)))
 let z116 := Array.mk [Value.pointer z49, Value.int .i64 z112] = Array.mk z55 ∧ okAl WP z57 z24 z56 n z48 z54
 let z117 := Array.mk [Value.pointer z65, Value.int .i64 z113] = Array.mk z83 ∧ okAl WP z57 z24 z56 n z48 z54
 let z118 := need z41 (need z82 (hyp True (need z117 z91)))
 let z119 := Array.mk [Value.pointer z65, Value.int .i64 z112] = Array.mk z83 ∧ okAl WP z57 z24 z56 n z48 z54
 let z120 := need z41 (need z44 (hyp True (br z47 z118 (need z41 (need z82 (hyp True (need z119 z91)))))))
 let z121 := need z99 (need z102 (hyp True (need z114 z103)))
 let z122 := need z99 (need z102 (hyp True (need z117 z106)))
 let z123 := need z99 (need z101 (hyp True (br z47 z122 (need z99 (need z102 (hyp True (need z119 z106)))))))
 need True (hyp True (need True (hyp True (br (Ex.ltQ z0 0) (need (Array.mk [Value.int .i64 (↑z1 : Int), Value.int .i64 z2] = Array.mk z4 ∧ okMade z1 z3 W0) (hyp z7 (need z9 (need z11 (hyp True (need z15 (need z16 (both z21 (hyp z22 (need z33 (need z34 (need z35 (hyp z37 (br z39 (need z41 (need z44 (hyp True (br z45 (need z41 (need z44 (hyp True (br z46 (need z41 (need z44 (hyp True (br z47 z77 (need z41 (need z51 (hyp True (need z78 z76)))))))) (need z41 (need z44 (hyp True (br z47 z77 z80)))))))) (need z41 (need z44 (hyp True (br z81 (need z41 (need z44 (hyp True (br z46 z94 (need z41 (need z44 (hyp True (br z47 z92 z96)))))))) (need z41 (need z44 (hyp True (br z46 z94 (need z41 (need z44 (hyp True (br z47 z92 z98)))))))))))))))) (need z99 (need z101 (hyp True (br z45 (need z99 (need z101 (hyp True (br z46 (need z99 (need z101 (hyp True (br z47 z104 (need z99 (need z102 (hyp True (need z78 z103)))))))) (need z99 (need z101 (hyp True (br z47 z104 z105)))))))) (need z99 (need z101 (hyp True (br z81 (need z99 (need z101 (hyp True (br z46 z108 (need z99 (need z101 (hyp True (br z47 z107 z109)))))))) (need z99 (need z101 (hyp True (br z46 z108 (need z99 (need z101 (hyp True (br z47 z107 z110)))))))))))))))))))))))))))))) (need (Array.mk [Value.int .i64 (↑z1 : Int), Value.int .i64 z111] = Array.mk z4 ∧ okMade z1 z3 W0) (hyp z7 (need z9 (need z11 (hyp True (need z15 (need z16 (both z21 (hyp z22 (need z33 (need z34 (need z35 (hyp z37 (br z39 (need z41 (need z44 (hyp True (br z45
 (need z41 (need z44 (hyp True (br z46 (need z41 (need z44 (hyp True (br z47 z115 (need z41 (need z51 (hyp True (need z116 z76)))))))) (need z41 (need z44 (hyp True (br z47 z115 z80)))))))) (need z41 (need z44 (hyp True (br z81 (need z41 (need z44 (hyp True (br z46 z120 (need z41 (need z44 (hyp True (br z47 z118 z96)))))))) (need z41 (need z44 (hyp True (br z46 z120 (need z41 (need z44 (hyp True (br z47 z118 z98)))))))))))))))) (need z99 (need z101 (hyp True (br z45 (need z99 (need z101 (hyp True (br z46 (need z99 (need z101 (hyp True (br z47 z121 (need z99 (need z102 (hyp True (need z116 z103)))))))) (need z99 (need z101 (hyp True (br z47 z121 z105)))))))) (need z99 (need z101 (hyp True (br z81 (need z99 (need z101 (hyp True (br z46 z123 (need z99 (need z101 (hyp True (br z47 z122 z109)))))))) (need z99 (need z101 (hyp True (br z46 z123 (need z99 (need z101 (hyp True (br z47 z122 z110))))))))))))))))))))))))))))))))))
theorem aa_run (W0 WL WP : WorldD) (ops : List OpD) (gb o nb cb : Nat) (xs : List Value) (gp : Nat) (C2 : Cont) (pv : Value) (P : List Int) (t room wh : Int) (n kd : Nat) : Sy.Ran (Sy.inB Tryd.prog (ctxAA W0 WL WP ops gb o nb cb (.seg o xs) pv P t room wh n kd) 50 fAA #[.int .i64 t, .int .i64 room, .slice (some ⟨gb, o, none⟩) nb cb, pv, .int .i64 wh] (⟨gb, .seg o xs, false⟩ :: ⟨gp, C2, false⟩ :: [Sy.ownOf tabB])) aa_o (aa_R W0 WL WP ops gb o nb cb xs gp C2 pv P t room wh n kd) := ⟨fun _ => by kernel_rfl, fun _ => by kernel_rfl⟩
def ctxAE (W0 : WorldD) (t room : Int) : Sy.Ctx :=
 Sy.mkS [(fAwake, fun _ _ => awC), (fFit, fun _ _ => fitC t), (fMade, fun a _ => atC (madeD (fitN t) (roomN room) W0) a), (fThere, fun a _ => atC (thereC (fitN t) (stV (fitN t) (Sy.argV a 0))) a)] [] []
def aaE_o : Sy.O := (steps [0, 0, 0, 0, 0, 0, 0, 0, 0] (fork (steps [0, 0, 0, 0, 1, 1, 0, 0, 1, 0, 0, 0, 0, 0, 0, 0, 0, 0, 1, 0, 0, 0, 0, 0, 0, 0, 0, 0, 0] nil) (steps [0, 0, 0, 0, 1, 1, 0, 0, 1, 0, 0, 0, 0, 0, 0, 0, 0, 0, 1, 0, 0, 0, 0, 0, 0, 0, 0, 0, 0] nil)))
noncomputable def aaE_R (W0 : WorldD) (p : Option Addr) (cb : Nat) (pv : Value) (t room wh : Int) (ns : Nat → Sy.Let) : Sy.Res (Value × List Blk) :=
 let z0 := Ex.remQ room (nat_lit 16)
 let z1 := fitN t
 let z2 := roomN room
 let z3 := [Value.int .i64 (↑z1 : Int), Value.int .i64 (↑z2 : Int)]
 let z4 := ns 1
 let z5 := Let.q (ns 0)
 let z6 := Array.mk [tvI 1 z1 z4.n, tvI 2 z1 z4.n, tvI 3 z1 z4.n, tvI 4 z1 z4.n, tvI 5 z1 z4.n]
 let z7 := hyp (WorldD.thing W0 = 3 ∧ HeapL W0 z4.n [] z5 ∨ ∃ (b0 : List (Nat × Cont)), List.Perm z5 (b0.append [(0, Cont.row 175 1 64 64 tabV)]) ∧ HeapX W0 z4.n [] b0) (need ((5 : Nat) = 5 ∧ (5 : Nat) = 5 ∧ Array.all z6 (fun (x : Value) => Value.oneCell' x) 0 5 = true) (need (Array.mk [Value.agg z6, Value.int .i64 (↑z1 : Int)] = Array.mk [thV4 z1 (stV z1 (Value.agg z6)), Value.int .i64 (↑z1 : Int)] ∧ 1 ≤ fitN t ∧ fitN t ≤ 5) (hyp True (leaf (Value.bool true, Blk.mk (ns 2).n (Cont.obj (Obj.cells z6 31)) true :: ([] ++ ([] ++ List.map (fun (p : Nat × Cont) => Blk.mk (Prod.fst p) (Prod.snd p) true) z5)))))))
 need True (hyp True (need True (hyp True (br (Ex.ltQ z0 0) (need (Array.mk [Value.int .i64 (↑z1 : Int), Value.int .i64 (Ex.wrapQ .i64 (Ex.addQ (Ex.wrapQ .i64 (Ex.subQ' 0 z0)) 1))] = Array.mk z3 ∧ okMade z1 z2 W0) z7) (need (Array.mk [Value.int .i64 (↑z1 : Int), Value.int .i64 (Ex.wrapQ .i64 (Ex.addQ z0 1))] = Array.mk z3 ∧ okMade z1 z2 W0) z7)))))
theorem aaE_run (W0 : WorldD) (p : Option Addr) (cb : Nat) (pv : Value) (t room wh : Int) : Sy.Ran (Sy.inB Tryd.prog (ctxAE W0 t room) 50 fAA #[.int .i64 t, .int .i64 room, .slice p 0 cb, pv, .int .i64 wh] [Sy.ownOf tabB]) aaE_o (aaE_R W0 p cb pv t room wh) := ⟨fun _ => by kernel_rfl, fun _ => by kernel_rfl⟩
end Go.Proofs.YtjohknpmhlildaaDoor.At
namespace Go.Proofs.YtjohknpmhlildaaDoor.At
open Go Go.RowKit
open Go.Proofs.YtjohknpmhlildaaDoor.Sy (Let Blk Cont Bun ptr ptr0 bx tkB tkU clo DoesB usedK ownOf rdsOf Rep does_frame does_perm does_mono does_all does_of S0_holds bunO)
open Go.Proofs.YtjohknpmhlildaaDoor.As
theorem new_all {thing room : Nat} (ht : 1 ≤ thing ∧ thing ≤ 5) (hr : 1 ≤ room ∧ room ≤ 16) : ∃ w, newW (thing : Int) (room : Int) = some w ∧ OkW w ∧ w.thing = thing ∧ w.room = room ∧ w.tasks = [] := by
 have hn : ¬ (((thing : Int) = 3 ∧ ((room : Int) < 1 ∨ 64 < (room : Int))) ∨ ((thing : Int) = 4 ∧ ((room : Int) < 1 ∨ 16 < (room : Int)))) := by omega
 obtain ⟨w, hw⟩ : ∃ w, newW (thing : Int) (room : Int) = some w := by
  unfold newW
  rw [if_neg hn]
  exact ⟨_, rfl⟩
 obtain ⟨h1, h2, h3⟩ := new_thing hw
 exact ⟨w, hw, ok_new (by omega) hw, by rw [h1]; rfl, by rw [h2]; rfl, h3⟩
theorem stepP_kinds (w : WorldD) (p : Int) : (stepP w p).tasks.map (·.kind) = w.tasks.map (·.kind) := by
 unfold stepP
 split
 ·rfl
 ·exact step_kinds _ _
theorem stepP_room (w : WorldD) (p : Int) : (stepP w p).thing = w.thing ∧ (stepP w p).room = w.room := by
 unfold stepP
 split
 ·exact ⟨rfl, rfl⟩
 ·exact step_thing _ _
theorem stepP_ok {w : WorldD} (h : OkW w) (p : Int) : OkW (stepP w p) := by
 unfold stepP
 split
 ·exact h
 ·exact ok_step h _
theorem play_kinds (P : List Int) : ∀ w : WorldD, (playW w P).tasks.map (·.kind) = w.tasks.map (·.kind) := by
 induction P with
 | nil => exact fun w => rfl
 | cons p P ih => exact fun w => (ih (stepP w p)).trans (stepP_kinds w p)
theorem play_room (P : List Int) : ∀ w : WorldD, (playW w P).thing = w.thing ∧ (playW w P).room = w.room := by
 induction P with
 | nil => exact fun w => ⟨rfl, rfl⟩
 | cons p P ih => exact fun w => ⟨(ih (stepP w p)).1.trans (stepP_room w p).1, (ih (stepP w p)).2.trans (stepP_room w p).2⟩
theorem play_ok (P : List Int) : ∀ {w : WorldD}, OkW w → OkW (playW w P) := by
 induction P with
 | nil => exact fun h => h
 | cons p P ih => exact fun h => ih (stepP_ok h p)
theorem alone_done {w : WorldD} (h : OkW w) {n : Nat} {t : TaskD} (ht : w.tasks[n]? = some t) {j : Nat} (hj : j = bdA t.kind w.room ∨ doneW (runW w n j) n) : ∃ t', (runW w n j).tasks[n]? = some t' ∧ t'.pc = 0 := by
 rcases hj with rfl | hj
 ·exact alone_law h ht
 ·exact hj
theorem picks_any {pv : Value} {P : List Int} {B : Bun} (h : PicksV pv P B) {gb : Nat} {C : Cont} (hd : (gb, C) ∈ B) : ∃ gp C2, (gp, C2) ∈ B ∧ ∀ B', (gp, C2) ∈ B' → PicksV pv P B' := by
 rcases h with ⟨h1, h2⟩ | ⟨gp, o, pc, C2, h1, h2, h3⟩
 ·exact ⟨gb, C, hd, fun B' _ => .inl ⟨h1, h2⟩⟩
 ·exact ⟨gp, C2, h2, fun B' h' => .inr ⟨gp, o, pc, C2, h1, h', h3⟩⟩
def OpsV (bv : Value) (ops : List OpD) (B : Bun) : Prop := (ops = [] ∧ ∃ p c, bv = .slice p 0 c) ∨ ∃ gb o cb, bv = .slice (some ⟨gb, o, none⟩) ops.length cb ∧ 0 < ops.length ∧ (gb, opsC o ops) ∈ B
theorem eqq_lit (a b : Nat) : Ex.eqQ (a : Int) (b : Int) = decide (a = b) := by
 show Nat.beq a b = _
 by_cases h : a = b
 ·rw [decide_eq_true h, h]
  exact Nat.beq_refl b
 ·rw [decide_eq_false h]
  cases e : Nat.beq a b
  ·rfl
  ·exact absurd (Nat.eq_of_beq_eq_true e) h
theorem room_neg {room : Int} (h : Ex.ltQ (Ex.remQ room 16) 0 = true) : Ex.wrapQ .i64 (Ex.addQ (Ex.wrapQ .i64 (Ex.subQ' 0 (Ex.remQ room 16))) 1) = (roomN room : Int) := by
 have hr : Ex.remQ room 16 = room.tmod 16 := Ex.remQ_eq room 16
 have hle := roomN_le room
 unfold roomN at hle ⊢
 rw [hr, Ex.ltQ_eq] at h
 have h := of_decide_eq_true h
 rw [hr, Ex.subQ_eq, Ex.addQ_eq, Ex.wrapQ_eq, Ex.wrapQ_eq, IntKind.wrap_i64, IntKind.wrap_i64]
 generalize room.tmod 16 = z at h hle
 omega
theorem room_pos {room : Int} (h : Ex.ltQ (Ex.remQ room 16) 0 = false) : Ex.wrapQ .i64 (Ex.addQ (Ex.remQ room 16) 1) = (roomN room : Int) := by
 have hr : Ex.remQ room 16 = room.tmod 16 := Ex.remQ_eq room 16
 have hle := roomN_le room
 unfold roomN at hle ⊢
 rw [hr, Ex.ltQ_eq] at h
 have h := of_decide_eq_false h
 rw [hr, Ex.addQ_eq, Ex.wrapQ_eq, IntKind.wrap_i64]
 generalize room.tmod 16 = z at h hle
 omega
theorem mul3 {r : Nat} (h : r ≤ 16) : Ex.wrapQ .i64 (Ex.mulQ 3 (r : Int)) = ((3 * r : Nat) : Int) := by
 rw [Ex.mulQ_eq, Ex.wrapQ_eq, IntKind.wrap_i64]
 omega
theorem add1 {r : Nat} (h : r ≤ 1000) : Ex.wrapQ .i64 (Ex.addQ ((r : Nat) : Int) 1) = ((r + 1 : Nat) : Int) := by
 rw [Ex.addQ_eq, Ex.wrapQ_eq, IntKind.wrap_i64]
 omega
open Go.Proofs.YtjohknpmhlildaaDoor.Sy (Let Blk Cont Bun ptr ptr0 bx tkB tkU clo DoesB usedK ownOf rdsOf Rep does_frame does_perm does_mono does_all does_of S0_holds bunO)
open Go.Proofs.YtjohknpmhlildaaDoor.As
structure okLaw (bv pv : Value) (ops : List OpD) (P : List Int) (B : Bun) : Prop where
 bv : OpsV bv ops B
 pv : PicksV pv P B
 lt : P.length < 1152921504606846976
def aaC (t room : Int) (bv pv : Value) (wh : Int) (ops : List OpD) (P : List Int) (B : Bun) : Sy.CallC :=
 ⟨fAA, #[.int .i64 t, .int .i64 room, bv, pv, .int .i64 wh], okLaw bv pv ops P B, ⟨[], [tabB], 1, B⟩, [(⟨fun ns => tabB ∈ bunO ns, fun _ => [], bunO⟩, fun _ => .bool true)]⟩
theorem ctxAE_holds (W0 : WorldD) (t room : Int) : (ctxAE W0 t room).holds Tryd.prog := Sy.mkS_holds (fun p hp a L => by
 rcases List.mem_cons.1 hp with rfl | hp
 ·exact awC_met
 rcases List.mem_cons.1 hp with rfl | hp
 ·exact fitC_met _
 rcases List.mem_cons.1 hp with rfl | hp
 ·exact atC_met (madeD_met _ _ _) _
 rcases List.mem_singleton.1 hp with rfl
 exact atC_met (thereC_met _ _) _) (fun _ h => (by cases h)) (fun _ h => (by cases h))
theorem ctxAA_holds (W0 WL WP : WorldD) (ops : List OpD) (gb o nb cb : Nat) (C : Cont) (pv : Value) (P : List Int) (t room wh : Int) (n kd : Nat) : (ctxAA W0 WL WP ops gb o nb cb C pv P t room wh n kd).holds Tryd.prog := Sy.mkU_holds (Sy.mkS_holds (fun p hp a L => by
 rcases List.mem_cons.1 hp with rfl | hp
 ·exact awC_met
 rcases List.mem_cons.1 hp with rfl | hp
 ·exact fitC_met _
 rcases List.mem_cons.1 hp with rfl | hp
 ·exact atC_met (madeD_met _ _ _) _
 rcases List.mem_cons.1 hp with rfl | hp
 ·exact atC_met (thereC_met _ _) _
 rcases List.mem_singleton.1 hp with rfl
 exact okM_met _) (fun _ h => (by cases h)) (fun p hp a L => by
 rcases List.mem_cons.1 hp with rfl | hp
 ·exact ldP_met _ _ _ _ _ _ _
 rcases List.mem_cons.1 hp with rfl | hp
 ·exact ldP_met _ _ _ _ _ _ _
 rcases List.mem_cons.1 hp with rfl | hp
 ·exact ldP_met _ _ _ _ _ _ _
 rcases List.mem_cons.1 hp with rfl | hp
 ·exact ldP_met _ _ _ _ _ _ _
 rcases List.mem_cons.1 hp with rfl | hp
 ·exact ldP_met _ _ _ _ _ _ _
 rcases List.mem_singleton.1 hp with rfl
 exact ldP_met _ _ _ _ _ _ _)) (fun p hp a L => by
 rcases List.mem_cons.1 hp with rfl | hp
 ·exact playC_met _ _ _ _ _ _ _ _
 rcases List.mem_singleton.1 hp with rfl
 exact atC_met (aloneC_met _ _ _ _ _ _ _) _) (fun p hp a L => by
 rcases List.mem_singleton.1 hp with rfl
 exact bgCA_met _ _ _ _ _ _ _ _ _ _ _ _ _ _ _ _ _ _ _)
theorem tv_one (i thing st : Nat) : (tvI i thing st).oneCell' = true := by
 unfold tvI
 split <;> rfl
theorem hB (q : Bun) : allB (List.map (fun p : Nat × Cont => (⟨p.1, p.2, true⟩ : Blk)) q) = q := allB_own q
theorem got_allB (L : List Blk) : Sy.GotL L (allB L) := fun p hp => by
 rw [allB_eq] at hp
 obtain ⟨b, hb, rfl⟩ := List.mem_map.1 hp
 exact ⟨b, hb, rfl, fun _ h => h⟩
theorem got5 (a b c d e : Blk) (q : Bun) : Sy.GotL (a :: b :: c :: d :: e :: List.map (fun p : Nat × Cont => (⟨p.1, p.2, true⟩ : Blk)) q) q := fun p hp =>
 ⟨ownOf p, Sy.mC _ (Sy.mC _ (Sy.mC _ (Sy.mC _ (Sy.mC _ (List.mem_map.2 ⟨p, hp, rfl⟩))))), rfl, fun _ h => h⟩
set_option maxRecDepth 10000 in
theorem aaC_met (t room : Int) (bv pv : Value) (wh : Int) (ops : List OpD) (P : List Int) (B : Bun) : Sy.Meets Tryd.prog (aaC t room bv pv wh ops P B) := by
 intro hok
 have hfit := fitN_le t
 have hrm := roomN_le room
 obtain ⟨W0, hW, hO, hth, hro, htk0⟩ := new_all hfit hrm
 have hmade : okMade (fitN t) (roomN room) W0 := ⟨hfit, hrm.1, hrm.2, hW⟩
 have hend : ∀ {L : List Blk} {q : Bun} {w : WorldD} {st : Nat} {tks : List Nat}, Heap w st tks q → Sy.Ent L (q.map ownOf) → Sy.leafB (aaC t room bv pv wh ops P B) (.bool true, L) := fun hH hE =>
  ⟨_, Sy.mS _, [⟨0, 0, false, undef, [], _⟩], rfl, rfl, hE, heap_tab hH⟩
 rcases hok.bv with ⟨h0, p, c, rfl⟩ | ⟨gb, o, cb, rfl, hpos, hgb⟩
 ·refine Sy.meets_ofB (L := [ownOf tabB]) (ctxAE_holds W0 t room) mixed (Sy.Ent.sub ?_) (aaE_run W0 p c pv t room wh) (fun _ ns => ?_) hok
  ·show List.Sublist _ ([] ++ ([ownOf tabB] ++ rdsOf B))
   exact List.sublist_append_left _ _
  simp only [aaE_R, Sy.Res.holds]
  refine ⟨trivial, fun _ => ⟨trivial, fun _ => ⟨fun hr => ?_, fun hr => ?_⟩⟩⟩
  all_goals
   first | simp only [room_neg hr] | simp only [room_pos hr]
   refine ⟨⟨trivial, hmade⟩, fun hH => ⟨⟨trivial, trivial, by simp [tv_one]⟩, ⟨congrArg (fun s => #[thV4 (fitN t) s, .int .i64 (fitN t : Int)]) (stV_eq hfit (ns 1).n).symm, hfit⟩, fun _ => ?_⟩⟩
   have hH : Heap W0 (ns 1).n [] (ns 0).q := hH
   exact hend hH (Sy.Ent.sub (.cons _ (List.Sublist.refl _)))
 ·obtain ⟨gp, C2, hgp, hpv⟩ := picks_any hok.pv hgb
  refine Sy.meets_ofB (L := ⟨gb, opsC o ops, false⟩ :: ⟨gp, C2, false⟩ :: [ownOf tabB]) (ctxAA_holds W0 (begsW W0 (ops.take 40)) (playW (begsW W0 (ops.take 40)) P) ops gb o ops.length cb (opsC o ops) pv P t room wh (pickW wh (begsW W0 (ops.take 40)).tasks.length) (kdA (begsW W0 (ops.take 40)) (pickW wh (begsW W0 (ops.take 40)).tasks.length))) mixed ?_
   (aa_run W0 (begsW W0 (ops.take 40)) (playW (begsW W0 (ops.take 40)) P) ops gb o ops.length cb (ops.flatMap OpD.cells) gp C2 pv P t room wh (pickW wh (begsW W0 (ops.take 40)).tasks.length) (kdA (begsW W0 (ops.take 40)) (pickW wh (begsW W0 (ops.take 40)).tasks.length))) (fun _ ns => ?_) hok
  ·exact rds_own (b := [tabB]) (X := [⟨gb, opsC o ops, false⟩, ⟨gp, C2, false⟩]) fun r hr => by
    rcases List.mem_cons.1 hr with rfl | hr
    ·exact ⟨rfl, hgb⟩
    ·rw [List.mem_singleton.1 hr]
     exact ⟨rfl, hgp⟩
  simp only [aa_R, Sy.Res.holds]
  refine ⟨trivial, fun _ => ⟨trivial, fun _ => ⟨fun hr => ?_, fun hr => ?_⟩⟩⟩
  all_goals
   first | simp only [room_neg hr] | simp only [room_pos hr]
   refine ⟨⟨trivial, hmade⟩, fun hH => ?_⟩
   have hH : Heap W0 (ns 1).n [] (ns 0).q := hH
   have hst : stV (fitN t) (Value.agg (Array.mk [tvI 1 (fitN t) (ns 1).n, tvI 2 (fitN t) (ns 1).n, tvI 3 (fitN t) (ns 1).n, tvI 4 (fitN t) (ns 1).n, tvI 5 (fitN t) (ns 1).n])) = (ns 1).n := stV_eq hfit _
   simp only [hst, hB, names_ptrs]
   refine ⟨⟨trivial, trivial, by simp [tv_one]⟩, ⟨rfl, hfit⟩, fun _ => ⟨⟨hH, htk0, hfit, hth, rfl, rfl, hpos, rfl⟩, List.perm_append_comm (l₁ := [_]), fun h1 => ?_, fun h2 => ?_⟩⟩
   ·exact hend h1.2 (Sy.Ent.sub (.cons _ (.cons _ (.cons _ (List.Sublist.refl _)))))
   ·obtain ⟨h2, hlen⟩ := h2
    have h2 := stE_spec h2
    have htl := (heap_task h2).1
    have hW40 := (begs_len (ops.take 40) W0).1
    rw [htk0, List.length_nil, List.length_take] at hW40
    refine ⟨⟨h2, .inr ⟨_, _, _, htl.trans hlen, by omega, rfl, by rw [allB_eq]; exact Sy.mH⟩, hpv _ (by rw [allB_eq]; simp), ?_⟩, List.perm_append_comm (l₁ := [_, _, _, _, _]), ?_, fun h3 => ?_⟩
    ·have hs := (begs_len (ops.take 40) W0).2
     have hs0 : sumW W0 = 0 := by unfold sumW; rw [htk0]; rfl
     rw [hs, hs0]
     have := hok.lt
     omega
    ·exact got_allB _
    ·obtain ⟨h3, -⟩ := h3
     obtain ⟨hr1, hr2⟩ := rem_pick wh (ns 9).n (by omega)
     simp only [hlen]
     have hnl : pickW wh ((ns 9).n + 1) < (ns 9).n + 1 := by
      unfold pickW
      have := Int.emod_lt_of_pos wh (show (0 : Int) < (((ns 9).n + 1 : Nat) : Int) by omega)
      omega
     generalize pickW wh ((ns 9).n + 1) = n at hr1 hr2 hnl ⊢
     have hi0 : (0 : Int) ≤ (n : Int) := by omega
     have hi1 : (n : Int) < (((ns 9).n + 1 : Nat) : Int) := by omega
     have hadr : ∀ g, adrV (.pointer (some ⟨g, 0 + ((n : Nat) : Int).toNat * 1, none⟩)) = ⟨g, n, none⟩ := fun g => by simp [adrV]
     have hk3 : (Cont.row 3 1 ((ns 9).n + 1) (ns 7).n (kindsV (begsW W0 (List.take 40 ops)))).at n = some (.int .i64 (kdA (begsW W0 (List.take 40 ops)) n : Nat)) := kinds_at (by omega)
     have hT : (Cont.row 48 1 ((ns 9).n + 1) (ns 5).n (ptrs (namesOf (ns 8).l))).at n = some (ptr (tkA (ptrs (namesOf (ns 8).l)) n)) := by
      unfold tkA
      rw [names_ptrs]
      exact ptrs_at (by omega)

     have hlP : (playW (begsW W0 (List.take 40 ops)) P).tasks.length = (ns 9).n + 1 := by rw [play_len, hlen]
     obtain ⟨tn, htn⟩ : ∃ tn, (playW (begsW W0 (List.take 40 ops)) P).tasks[n]? = some tn := ⟨_, List.getElem?_eq_getElem (by omega)⟩
     have hkd : kdA (begsW W0 (List.take 40 ops)) n = tn.kind := (kdA_congr (play_kinds P _).symm n).trans (kdA_of htn)
     have hokP : OkW (playW (begsW W0 (List.take 40 ops)) P) := play_ok P (ok_begs _ hO (by rw [hth]; exact hfit))
     have hroom : (playW (begsW W0 (List.take 40 ops)) P).room = roomN room := by rw [(play_room P _).2, (begs_thing _ _).2, hro]
     have htkn : (namesOf (ns 8).l)[n]? = some (tkA (ptrs (namesOf (ns 8).l)) n) := by
      unfold tkA
      rw [names_ptrs, List.getD_eq_getElem?_getD, List.getElem?_eq_getElem (by omega)]
      rfl
     have hsum : sumW (playW (begsW W0 (List.take 40 ops)) P) ≤ P.length := by
      have h5 := play_sum (begsW W0 (List.take 40 ops)) P
      have hs := (begs_len (ops.take 40) W0).2
      have hs0 : sumW W0 = 0 := by unfold sumW; rw [htk0]; rfl
      omega
     have h3' := stE_spec h3
     have hbd : bdA (kdA (begsW W0 (List.take 40 ops)) n) (roomN room) ≤ 49 := by unfold bdA; split <;> (try split) <;> (try split) <;> omega
     have hal : okAl (playW (begsW W0 (List.take 40 ops)) P) (stE (playW (begsW W0 (List.take 40 ops)) P) (namesOf (ns 8).l) (ns 11).q) (namesOf (ns 8).l) (ns 11).q n (tkA (ptrs (namesOf (ns 8).l)) n) (bdA (kdA (begsW W0 (List.take 40 ops)) n) (roomN room)) :=
      ⟨h3', by omega, htkn, by have := hok.lt; omega⟩
     have hfin : ∀ (j : Nat) (q : Bun), Heap (runW (playW (begsW W0 (List.take 40 ops)) P) n j) (stE (playW (begsW W0 (List.take 40 ops)) P) (namesOf (ns 8).l) (ns 11).q) (namesOf (ns 8).l) q → (j = bdA (kdA (begsW W0 (List.take 40 ops)) n) (roomN room) ∨ doneW (runW (playW (begsW W0 (List.take 40 ops)) P) n j) n) →
       MeetsA (rdC fDone #[ptr (tkA (ptrs (namesOf (ns 8).l)) n)] q (.bool true)) := fun j q hq hd => by
      rw [hkd, ← hroom] at hd
      obtain ⟨t', ht', hp⟩ := alone_done hokP htn hd
      have := look_read hq ht' htkn (V := fun d => .bool (d.pc == 0)) done_read
      simp only [hp, beq_self_eq_true] at this
      exact this
     generalize kdA (begsW W0 (List.take 40 ops)) n = kd at hk3 hbd hal hfin ⊢
     clear hkd
     have hm3 := mul3 hrm.2
     have hm4 := add1 (r := 3 * roomN room) (by omega)
     refine ⟨fun hneg => ?_, fun hneg => ?_⟩
     all_goals
      first | simp only [hr1 hneg] | simp only [hr2 hneg]
      have hcs : (kd = 3 ∨ kd = 4 ∨ kd = 7 ∨ kd = 8) ∨ (kd ≠ 3 ∧ kd ≠ 4 ∧ kd ≠ 7 ∧ kd ≠ 8) := by omega
      have hall : ∀ (b3 b4 b7 b8 : Bool), decide (kd = 3) = b3 → decide (kd = 4) = b4 → decide (kd = 7) = b7 → decide (kd = 8) = b8 → Ex.eqQ ((kd : Nat) : Int) 3 = b3 ∧ Ex.eqQ ((kd : Nat) : Int) 4 = b4 ∧ Ex.eqQ ((kd : Nat) : Int) 7 = b7 ∧ Ex.eqQ ((kd : Nat) : Int) 8 = b8 := fun _ _ _ _ h1 h2 h3 h4 => ⟨(eqq_lit kd 3).trans h1, (eqq_lit kd 4).trans h2, (eqq_lit kd 7).trans h3, (eqq_lit kd 8).trans h4⟩
      rcases hcs with (e | e | e | e) | ⟨e3, e4, e7, e8⟩
      ·obtain ⟨f3, f4, f7, f8⟩ := hall true false false false (by rw [e]; rfl) (by rw [e]; rfl) (by rw [e]; rfl) (by rw [e]; rfl)
       have hb : bdA kd (roomN room) = 12 := by rw [e]; rfl
       simp only [hadr, hk3, hT, hi0, hi1, f3, f4, f7, f8, hm3, hm4, true_and, and_true, and_self, true_implies, Bool.true_eq_false, Bool.false_eq_true, reduceCtorEq, false_implies, cond_false, cond_true]
       exact ⟨⟨by rw [hb] <;> rfl, hal⟩, List.perm_append_comm (l₁ := [_, _, _, _, _]), fun ⟨j, hj, hq, hd⟩ => ⟨hfin j _ hq hd, got5 _ _ _ _ _ _, hend hq (Sy.Ent.sub (.cons _ (.cons _ (.cons _ (.cons _ (.cons _ (List.Sublist.refl _)))))))⟩⟩
      ·obtain ⟨f3, f4, f7, f8⟩ := hall false true false false (by rw [e]; rfl) (by rw [e]; rfl) (by rw [e]; rfl) (by rw [e]; rfl)
       have hb : bdA kd (roomN room) = 12 := by rw [e]; rfl
       simp only [hadr, hk3, hT, hi0, hi1, f3, f4, f7, f8, hm3, hm4, true_and, and_true, and_self, true_implies, Bool.true_eq_false, Bool.false_eq_true, reduceCtorEq, false_implies, cond_false, cond_true]
       exact ⟨⟨by rw [hb] <;> rfl, hal⟩, List.perm_append_comm (l₁ := [_, _, _, _, _]), fun ⟨j, hj, hq, hd⟩ => ⟨hfin j _ hq hd, got5 _ _ _ _ _ _, hend hq (Sy.Ent.sub (.cons _ (.cons _ (.cons _ (.cons _ (.cons _ (List.Sublist.refl _)))))))⟩⟩
      ·obtain ⟨f3, f4, f7, f8⟩ := hall false false true false (by rw [e]; rfl) (by rw [e]; rfl) (by rw [e]; rfl) (by rw [e]; rfl)
       have hb : bdA kd (roomN room) = 3 * roomN room := by rw [e]; rfl
       simp only [hadr, hk3, hT, hi0, hi1, f3, f4, f7, f8, hm3, hm4, true_and, and_true, and_self, true_implies, Bool.true_eq_false, Bool.false_eq_true, reduceCtorEq, false_implies, cond_false, cond_true]
       exact ⟨⟨by rw [hb] <;> rfl, hal⟩, List.perm_append_comm (l₁ := [_, _, _, _, _]), fun ⟨j, hj, hq, hd⟩ => ⟨hfin j _ hq hd, got5 _ _ _ _ _ _, hend hq (Sy.Ent.sub (.cons _ (.cons _ (.cons _ (.cons _ (.cons _ (List.Sublist.refl _)))))))⟩⟩
      ·obtain ⟨f3, f4, f7, f8⟩ := hall false false false true (by rw [e]; rfl) (by rw [e]; rfl) (by rw [e]; rfl) (by rw [e]; rfl)
       have hb : bdA kd (roomN room) = 3 * roomN room + 1 := by rw [e]; rfl
       simp only [hadr, hk3, hT, hi0, hi1, f3, f4, f7, f8, hm3, hm4, true_and, and_true, and_self, true_implies, Bool.true_eq_false, Bool.false_eq_true, reduceCtorEq, false_implies, cond_false, cond_true]
       exact ⟨⟨by rw [hb] <;> rfl, hal⟩, List.perm_append_comm (l₁ := [_, _, _, _, _]), fun ⟨j, hj, hq, hd⟩ => ⟨hfin j _ hq hd, got5 _ _ _ _ _ _, hend hq (Sy.Ent.sub (.cons _ (.cons _ (.cons _ (.cons _ (.cons _ (List.Sublist.refl _)))))))⟩⟩
      ·obtain ⟨f3, f4, f7, f8⟩ := hall false false false false (decide_eq_false e3) (decide_eq_false e4) (decide_eq_false e7) (decide_eq_false e8)
       have hb : bdA kd (roomN room) = 3 := by unfold bdA; rw [if_neg (by omega), if_neg e7, if_neg e8]
       simp only [hadr, hk3, hT, hi0, hi1, f3, f4, f7, f8, hm3, hm4, true_and, and_true, and_self, true_implies, Bool.true_eq_false, Bool.false_eq_true, reduceCtorEq, false_implies, cond_false, cond_true]
       exact ⟨⟨by rw [hb] <;> rfl, hal⟩, List.perm_append_comm (l₁ := [_, _, _, _, _]), fun ⟨j, hj, hq, hd⟩ => ⟨hfin j _ hq hd, got5 _ _ _ _ _ _, hend hq (Sy.Ent.sub (.cons _ (.cons _ (.cons _ (.cons _ (.cons _ (List.Sublist.refl _)))))))⟩⟩
end Go.Proofs.YtjohknpmhlildaaDoor.At
namespace Go.Proofs.YtjohknpmhlildaaDoor
open Go.RowKit Go.WideShapes Go.ChangeShapes
section
variable {H : Type} {enc : TypeId × Value → H} {P : Program}
theorem post_of_below {f : Func} {s : ChangeSpec} {apart fresh handsOn again : Bool} {W W' : World} {args : Array Value} {v : Value} {ds gs : List (DataW H)} {before pa pv : List MemPlace}
  (hW : DataW.Whole enc P f.params.toList s.vars apart W args.toList ds gs before)
  (hres : ∀ (b : Nat) (sp : Nat → Bool) (hd : Bool), DataW.TrodAll enc P W' b sp hd f.resultTypes.toList (v.resultList f.resultTypes.size) (s.fn H (ds ++ gs)).results [])
  (hargs : ∀ sp : Nat → Bool, (∀ p ∈ before, sp p.block = true) → DataW.TrodAll enc P W' 0 sp true f.params.toList args.toList (s.fn H (ds ++ gs)).args pa)
  (hvars : ∀ sp : Nat → Bool, (∀ p ∈ before, sp p.block = true) → DataW.TrodVars enc P W' sp s.vars (s.fn H (ds ++ gs)).vars pv)
  (hps : before = pa ++ pv) (hb : Below W.heap.size W W')
  (hok : ∀ (j : Nat) (t : TypeId) (r : Value), f.resultTypes[j]? = some t → (v.resultList f.resultTypes.size)[j]? = some r → Value.okWide P W' .any 0 t r) :
  s.post enc P f apart fresh handsOn again W args v W' := by
 have hlt : ∀ p ∈ before, p.block < W.heap.size := fun p hp => hW.lt p hp
 have hold : ∀ p ∈ before, (fun b => decide (b < W.heap.size)) p.block = true := fun p hp => by simpa using hlt p hp
 refine ⟨ds, gs, before, [], pa, pv, hW, hres _ _ _, hargs _ hold, hvars _ hold, World.keptBut_mono (fun p hp => ⟨hp, ?_⟩) (hb.frame (· ∈ before)), fun _ => ?_⟩
 ·rw [hps, List.mem_append] at hp
  exact Or.inr hp
 ·obtain ⟨_, _, _, _, _, hz, hn⟩ := hW
  refine ⟨hok, _, _, ([] ++ pa) ++ pv, ⟨[] ++ pa, pv, trodAll_append (hargs _ (fun _ _ => rfl)) (hres _ _ _), hvars _ (fun _ _ => rfl), rfl, ?_, ?_⟩, ?_⟩
  ·intro b off hp
   have hin : MemPlace.cell b off ∈ before := by rw [hps]; simpa using hp
   rw [hb.frozen (hlt _ hin)]
   exact hz b off hin
  ·intro ha
   have := hn ha
   rw [hps] at this
   simpa using this
  ·intro p hp _
   rw [hps]
   simpa using hp
end
end Go.Proofs.YtjohknpmhlildaaDoor
namespace Go.Proofs.YtjohknpmhlildaaDoor
open Go Go.Joins Go.ChangeShapes Go.WideShapes Go.RowKit Go.Deep
open Sy (Cont)
theorem own : ownKnob Tryd.prog.godebug = none := by kernel_rfl
theorem laidOut : laidOutB Tryd.prog = true := by kernel_rfl
theorem spot_of {w : World} {a : Addr} {u : Value} (h : w.cell? a = some u) : a.spot = none ∧ ∃ c t f, w.heap[a.block]? = some (.cells c t f) ∧ c[a.off]? = some u := by
 unfold World.cell? at h
 split at h
 ·rename_i c t f hh
  split at h
  ·cases h
  ·rename_i hs
   exact ⟨by simpa using hs, c, t, f, hh, h⟩
 ·cases h
theorem seg_of {w : World} {a : Addr} {xs : List Value} (h0 : 0 < xs.length) (hc : ∀ j u, xs[j]? = some u → w.cell? (a.add j) = some u) : a.spot = none ∧ (Cont.seg a.off xs).sat w.heap[a.block]? := by
 have h1 := hc 0 _ (List.getElem?_eq_getElem h0)
 obtain ⟨hs, c, t, f, hh, -⟩ := spot_of (by simpa [Addr.add] using h1)
 refine ⟨hs, c, t, f, hh, fun j u hu => ?_⟩
 obtain ⟨b, o, s⟩ := a
 simp only at hs hh
 subst hs
 have h2 := hc j u hu
 rw [Sy.addr_add] at h2
 obtain ⟨-, c', t', f', hh', hc'⟩ := spot_of h2
 simp only at hh' hc'
 rw [hh] at hh'
 injection hh' with hh'
 injection hh' with e1 e2 e3
 subst e1
 simpa using hc'
theorem open_rows {H : Type} {enc : TypeId × Value → H} {P : Program} {w : World} {base : Nat} {spare : Nat → Bool} {held : Bool} {r : Reach} {b0 : Nat} {v : Value} {d : DataW H} {p : List MemPlace} {t e : TypeId} {sz : Nat} (ht : P.underlying t = some (.slice e)) (hC : P.cellsOf e = sz) (hsz : 0 < sz)
  {α : Type} (good : α → Prop) (f : α → List Value) (hf : ∀ a, (f a).length = sz)
  (hel : ∀ (cs : List Value) (n : Nat) (D : DataW H) (Pl : List MemPlace), cs.length = sz → DataW.trod enc P w base spare held n e cs = some (D, Pl) → ∃ a, good a ∧ cs = f a)
  (hv : Value.okWide P w r b0 t v) (h : DataW.Trod enc P w base spare held t v d p) :
  (∃ A c, v = .slice A 0 c) ∨ ∃ (b o c : Nat) (l : List α), 0 < l.length ∧ v = .slice (some ⟨b, o, none⟩) l.length c ∧ (∀ x ∈ l, good x) ∧ (Cont.seg o (l.flatMap f)).sat w.heap[b]? ∧ l.length ≤ maxLen ∧ ∃ D E, d = .slice D E ∧ D.length = l.length := by
 obtain ⟨A, n, c, rfl⟩ := okWide_slice ht hv
 obtain ⟨fuel, hfu⟩ := h
 rcases Go.Deep.open_slice ht hfu with ⟨h0, -⟩ | ⟨a, len, cap, m, k, D, Pl, hcs, -, hle, hcap, hm, hx, hi⟩
 ·left
  injection h0 with h0
  injection h0 with h1 h2 h3
  subst h1 h2 h3
  exact ⟨_, _, rfl⟩
 ·injection hcs with hcs
  injection hcs with h1 h2 h3
  subst h1 h2 h3
  rcases Nat.eq_zero_or_pos n with hn | hn
  ·subst hn
   exact .inl ⟨_, _, rfl⟩
  right
  have hmn : n ≤ m := by rw [hm]; split <;> omega
  have key : ∀ q, q ≤ n → ∃ l : List α, l.length = q ∧ (∀ x ∈ l, good x) ∧ ∀ j u, (l.flatMap f)[j]? = some u → w.cell? (a.add j) = some u := by
   intro q
   induction q with
   | zero => exact fun _ => ⟨[], rfl, fun _ h => (by cases h), fun j u h => (by simp at h)⟩
   | succ q ih =>
     intro hq
     obtain ⟨l, hl, hg, hc⟩ := ih (by omega)
     obtain ⟨cs', hcc, htr⟩ := hi q (by omega)
     rw [hC] at hcc
     obtain ⟨_, hcl, hat⟩ := World.cells?_some hcc
     obtain ⟨x, hx, rfl⟩ := hel cs' _ _ _ hcl htr
     have hfl : (l.flatMap f).length = q * sz := by
      rw [← hl]
      clear hl hg hc
      induction l with
      | nil => simp
      | cons y l ih => rw [List.flatMap_cons, List.length_append, hf, ih, List.length_cons, Nat.add_mul]; omega
     refine ⟨l ++ [x], by simp [hl], fun y hy => ?_, fun j u hu => ?_⟩
     ·rcases List.mem_append.1 hy with hy | hy
      ·exact hg y hy
      ·rcases List.mem_singleton.1 hy with rfl
       exact hx
     ·rw [List.flatMap_append] at hu
      rcases Nat.lt_or_ge j (q * sz) with hj | hj
      ·rw [List.getElem?_append_left (by omega)] at hu
       exact hc j u hu
      ·rw [List.getElem?_append_right (by omega), hfl] at hu
       have hu' : (f x)[j - q * sz]? = some u := by simpa using hu
       have hlt : j - q * sz < sz := by
        have := (List.getElem?_eq_some_iff.1 hu').1
        rw [hf] at this
        exact this
       have h5 := hat (j - q * sz) hlt
       rw [Go.Deep.add_add, show q * sz + (j - q * sz) = j by omega, hu'] at h5
       exact h5
  obtain ⟨l, hl, hg, hc⟩ := key n (Nat.le_refl _)
  have hpos : 0 < (l.flatMap f).length := by
   cases l with
   | nil => simp at hl; omega
   | cons y l => rw [List.flatMap_cons, List.length_append, hf]; omega
  obtain ⟨hs, hseg⟩ := seg_of hpos hc
  obtain ⟨b, o, s⟩ := a
  simp only at hs
  subst hs
  injection hx with hx hx2
  exact ⟨b, o, c, l, by omega, by rw [hl], hg, hseg, by omega, _, _, hx, by simp [hl]⟩
theorem cell_int {H : Type} {enc : TypeId × Value → H} {w : World} {base : Nat} {spare : Nat → Bool} {held : Bool} {n : Nat} {t : TypeId} {k : IntKind} {c : Value} {y : Option (DataW H × List MemPlace)} (ht : Tryd.prog.underlying t = some (.int k))
  (h : DataW.trod enc Tryd.prog w base spare held n t [c] = y) (hy : y.isSome = true) : ∃ x : Int, c = .int k x ∧ (Lit.int k x).wf = true := by
 cases y with
 | none => cases hy
 | some y =>
   obtain ⟨m, e, -, hw⟩ := DataW.trod_int ht h
   injection e with e
   exact ⟨m, e, hw⟩
theorem cell_field {H : Type} {enc : TypeId × Value → H} {w : World} {base : Nat} {spare : Nat → Bool} {held : Bool} {n : Nat} {t : TypeId} {fs : Array Field} {cs : List Value} {y : DataW H × List MemPlace} (hu : Tryd.prog.underlying t = some (.struct fs)) (hone : oneCellFields Tryd.prog fs = true)
  (hl : cs.length = fs.size) (h : DataW.trod enc Tryd.prog w base spare held n t cs = some y) : ∃ n', ∀ (j : Nat) (f : Field) (c : Value), fs[j]? = some f → cs[j]? = some c → ∃ y, DataW.trod enc Tryd.prog w base spare held n' f.type [c] = some y := by
 obtain ⟨ys, n', -, -, -, hyl, hf⟩ := DataW.trod_struct hu h
 refine ⟨n', fun j f c hj hc => ?_⟩
 obtain ⟨ho, hk⟩ := hone_of hone j f hj
 have h1 := hf j f hj
 rw [ho, hk] at h1
 have hjl : j < cs.length := (List.getElem?_eq_some_iff.1 hc).1
 have he : (cs.drop j).take 1 = [c] := by
  rw [List.drop_eq_getElem_cons hjl]
  simp only [List.take_succ_cons, List.take_zero, List.cons.injEq, and_true]
  exact (List.getElem?_eq_some_iff.1 hc).2
 rw [he] at h1
 rw [h1, List.getElem?_eq_getElem (by rw [hyl, ← hl]; exact hjl)]
 exact ⟨_, rfl⟩
theorem again_any {H : Type} {enc : TypeId × Value → H} {W W' : World} {t : TypeId} {v : Value} {d : DataW H} {p : List MemPlace} {sp : Nat → Bool} (hr : Tryd.prog.readableRec t = true) (hrow : t < Tryd.prog.types.size)
  (h : DataW.Trod enc Tryd.prog W 0 (fun _ => true) true t v d p) (hb : Below W.heap.size W W') (hlt : ∀ x ∈ p, x.block < W.heap.size) (hsp : ∀ x ∈ p, sp x.block = true) :
  DataW.Trod enc Tryd.prog W' 0 sp true t v d p :=
 WideElems.Trod_stays laidOut hr hrow h (fun x hx => hb.same (hlt x hx)) hsp
end Go.Proofs.YtjohknpmhlildaaDoor
namespace Go.Proofs.YtjohknpmhlildaaDoor.At
open Go Go.RowKit Go.ChangeShapes Go.WideShapes Go.ChangeAt
open Go.Proofs.YtjohknpmhlildaaDoor.Sy (Let Blk Cont Bun ptr ptr0 bx tkB tkU clo DoesB usedK ownOf rdsOf Rep does_frame does_perm does_mono does_all does_of S0_holds bunO)
open Go.Proofs.YtjohknpmhlildaaDoor.As
theorem wrap_laid {H : Type} {enc : TypeId × Value → H} {a : Assume} {C : Checked} {os : Os} {f : FuncId} {fn : Func} {s : ChangeSpec} {conds : List PathCond} {apart fresh handsOn again : Bool} {X : World → Array Value → Prop}
  (hX : ∀ (w w' : World) (args : Array Value), w.heap = w'.heap → X w args → X w' args)
  (own : ownKnob C.prog.godebug = none) (started : os.Started) (noInit : C.prog.inits.idxOf? f = none) (hfn : C.prog.funcs[f]? = some fn)
  (witness : ∃ (w : World) (tape : Tape) (i : Input), w.os = os ∧ (w.forCall tape i).Shaped C.prog ∧ i.vars = [] ∧ Input.okWide C.prog (w.forCall tape i) .any w.heap.size f i ∧
   ((s.pre enc C.prog fn conds apart (w.forCall tape i).memory i.args ∧ X (w.forCall tape i).memory i.args) ∧ sizedMet enc C.prog fn (OpenSpec.ofChange s) apart (w.forCall tape i).memory i.args) ∧ a.holds C.prog (lone (Frame.enter C.prog f i.args .normal) [] (w.forCall tape i)))
  (contract : ∀ (W : World) (base : Nat) (args : Array Value) (ds gs : List (DataW H)) (before : List MemPlace),
   (∀ (j : Nat) t v, fn.params[j]? = some t → args[j]? = some v → Value.okWide C.prog W .any base t v) →
   DataW.Whole enc C.prog fn.params.toList s.vars apart W args.toList ds gs before →
   (DataW.weightsEach C.prog (fn.params.toList ++ s.plain.varTypes C.prog) (ds ++ gs)).all (· ≤ reachBytes) = true → X W args → W.ShapedOpen C.prog →
   Calls C.prog f args W fun e W' => ∃ v, e = .returned v ∧ s.post enc C.prog fn apart fresh handsOn again W args v W') :
  ReturnsInHanded a C os f .any (fun w args => (s.pre enc C.prog fn conds apart w args ∧ X w args) ∧ sizedMet enc C.prog fn (OpenSpec.ofChange s) apart w args) (s.post enc C.prog fn apart fresh handsOn again) := by
 refine returnsInHanded_of_calls own started noInit witness fun w tape i _ hsh _ hok hpre _ => ?_
 obtain ⟨_, _, _, fn', hfn', _, _, _, _, hval⟩ := hok
 obtain rfl : fn' = fn := Option.some.inj (hfn'.symm.trans hfn)
 obtain ⟨⟨⟨ds, gs, before, hw, -⟩, hx⟩, hz⟩ := hpre
 refine (contract (w.forCall tape i) w.heap.size i.args ds gs before hval (DataW.Whole.of_heap (w' := w.forCall tape i) (by rfl) hw) (hz.weights hw) (hX _ _ _ (by rfl) hx) hsh).mono fun e W' h => ?_
 obtain ⟨v, rfl, hp⟩ := h
 exact ChangeSpec.post_blind hp
abbrev laidL : List (String × DataW Unit) := [("math/bits.deBruijn64tab", Rows.laid_math_bits_deBruijn64tab)]
theorem gTab : Tryd.prog.globalNamed "math/bits.deBruijn64tab" = some 0 := by kernel_rfl
theorem tTab_is : (Tryd.prog.globals[0]?).map (·.type) = some tTab := by kernel_rfl
theorem tab_len : tabV.length = 64 := by decide +kernel
theorem tab_row {h : Option Obj} : tabB.2.sat h ↔ h = some (.cells tabV.toArray tTab (0, 0)) := by
 refine ⟨fun hs => ?_, fun hs => ?_⟩
 ·obtain ⟨cur, rfl, -, -, -, hc, ht⟩ := hs
  have hc : cur.size = 64 := hc
  have ht : cur.toList.take 64 = tabV := ht
  rw [List.take_of_length_le (by rw [Array.length_toList, hc]; exact Nat.le_refl _)] at ht
  rw [← ht]
 ·subst hs
  exact ⟨_, rfl, tab_len, Nat.le_refl _, by decide, by rw [List.size_toArray]; exact tab_len, by rw [List.toList_toArray]; exact List.take_of_length_le (by rw [tab_len]; exact Nat.le_refl _)⟩
theorem tab_u8 {o : Nat} {v : Value} {xs : List Value} {h : Option Obj} (ht : tabB.2.sat h) (hs : (Cont.seg o (v :: xs)).sat h) : ∃ n : Int, v = .int .u8 n := by
 rw [tab_row] at ht
 subst ht
 obtain ⟨c, t, f, hc, hx⟩ := hs
 injection hc with hc
 injection hc with hc
 have h0 := hx 0 v rfl
 rw [← hc] at h0
 have h0 : tabV[o + 0]? = some v := h0
 unfold tabV at h0
 rw [List.getElem?_map] at h0
 cases hb : Lib.deBruijn64tab[o + 0]? with
 | none => rw [hb] at h0; cases h0
 | some n =>
   rw [hb] at h0
   injection h0 with h0
   exact ⟨_, h0.symm⟩
set_option maxRecDepth 100000 in
theorem tab_of {W : World} (h : laidMetH Tryd.prog laidL W) (hsh : W.ShapedOpen Tryd.prog) : tabB.2.sat W.heap[0]? := by
 have hz : ((((begin Tryd.prog (fun _ _ => 0) default).world.heap[0]?).bind Obj.row?).map fun x => x.2) = some tTab := by kernel_rfl
 obtain ⟨zero, hb⟩ : ∃ zero, ((begin Tryd.prog (fun _ _ => 0) default).world.heap[0]?).bind Obj.row? = some (zero, tTab) := by
  generalize ((begin Tryd.prog (fun _ _ => 0) default).world.heap[0]?).bind Obj.row? = x at hz
  cases x with
  | none => cases hz
  | some x =>
    obtain ⟨a, b⟩ := x
    injection hz with hz
    have hz : b = tTab := hz
    exact ⟨a, by rw [hz]⟩
 obtain ⟨cs, hh, -, -⟩ := hsh.1 0 zero tTab (by decide +kernel) hb
 rw [MakeChecks.laidMetH_plain _ _ _ (by kernel_rfl)] at h
 obtain ⟨ps, ⟨g0, t0, cs0, f0, p0, q0, hg0, ht0, hv0, hd0, -, -⟩, -, -⟩ := h
 obtain rfl := Option.some.inj (gTab.symm.trans hg0)
 obtain rfl := Option.some.inj (tTab_is.symm.trans ht0)
 have e : cs = cs0 := by
  simp only [World.var?, gTab, Option.bind_some, hh] at hv0
  exact Option.some.inj hv0
 subst e
 obtain ⟨xs, m1, rfl, hx1, hlen, hn, hel⟩ := DataW.trod_array Tryd.underlying175 hd0
 have c1 : Tryd.prog.cellsOf 5 = 1 := by kernel_rfl
 have c64 : Tryd.prog.cellsOf tTab = 64 := by kernel_rfl
 rw [c64] at hlen
 simp only [Prod.mk.injEq] at hx1
 rw [tab_row, hh]
 have key : cs.toList = tabV := by
  apply List.ext_getElem?
  intro i
  by_cases hi : i < 64
  ·have h0 := hel i hi
   rw [c1, Nat.mul_one] at h0
   have hxi : i < xs.length := by omega
   rw [List.getElem?_eq_getElem hxi] at h0
   obtain ⟨k, e1, e2, -⟩ := DataW.trod_int Tryd.underlying5 h0
   have e3 : cs.toList[i]? = some (.int .u8 k) := by
    have : ((cs.toList.drop i).take 1)[0]? = some (.int .u8 k) := by rw [e1]; rfl
    rw [List.getElem?_take] at this
    simpa using this
   rw [e3]
   have e4 : (xs.map (·.1))[i]? = some (.lit (.int .u8 k)) := by
    rw [List.getElem?_map, List.getElem?_eq_getElem hxi]
    show some (xs[i]).1 = _
    rw [e2]
   have e5 : (Lib.deBruijn64tab.map fun (n : Nat) => (DataW.lit (.int .u8 (n : Int)) : DataW Unit)) = xs.map (·.1) := by
    have := hx1.1
    have e6 : Rows.laid_math_bits_deBruijn64tab = (DataW.agg (Lib.deBruijn64tab.map fun (n : Nat) => (DataW.lit (.int .u8 (n : Int)) : DataW Unit))) := by rfl
    rw [e6] at this
    injection this
   rw [← e5, List.getElem?_map] at e4
   unfold tabV
   rw [List.getElem?_map]
   cases hb : Lib.deBruijn64tab[i]? with
   | none => rw [hb] at e4; cases e4
   | some n =>
     rw [hb] at e4
     have e4 : some (DataW.lit (H := Unit) (.int .u8 (n : Int))) = some (.lit (.int .u8 k)) := e4
     simp only [Option.some.injEq, DataW.lit.injEq, Lit.int.injEq, true_and] at e4
     rw [← e4]
     rfl
  ·rw [List.getElem?_eq_none (by omega), List.getElem?_eq_none (by rw [tab_len]; omega)]
 have hcs : cs = tabV.toArray := by rw [← key, Array.toArray_toList]
 rw [hcs]
section
variable {H : Type} {enc : TypeId × Value → H} {w : World} {base : Nat} {spare : Nat → Bool} {held : Bool} {r : Reach} {b0 : Nat} {v : Value} {d : DataW H} {p : List MemPlace}
def FarB (B : Bun) (w : World) : Prop := ∀ q ∈ B, q.2.sat w.heap[q.1]? ∧ (tabB.2.sat w.heap[0]? → q.1 ≠ 0)
theorem far_seg {b o : Nat} {k : IntKind} {x : Int} {xs : List Value} (hk : k ≠ .u8) (hs : (Cont.seg o (.int k x :: xs)).sat w.heap[b]?) : FarB [(b, .seg o (.int k x :: xs))] w := fun q hq => by
 rw [List.mem_singleton.1 hq]
 refine ⟨hs, fun ht e => ?_⟩
 have e : b = 0 := e
 subst e
 obtain ⟨n, hn⟩ := tab_u8 ht hs
 injection hn with hn
 exact hk hn
set_option maxRecDepth 100000 in
theorem open_begins (hv : Value.okWide Tryd.prog w r b0 22 v) (h : DataW.Trod enc Tryd.prog w base spare held 22 v d p) :
  ∃ (B : Bun) (ops : List OpD), OpsV v ops B ∧ FarB B w := by
 rcases open_rows (sz := 3) Tryd.underlying22 (by kernel_rfl) (by omega) (fun _ : OpD => True) OpD.cells (fun _ => rfl) (fun cs n D Pl hl ht => by
  match cs, hl with
  | [c0, c1, c2], _ =>
    obtain ⟨n', hf⟩ := cell_field (cs := [c0, c1, c2]) Tryd.underlying46 (by kernel_rfl) (by rfl) ht
    obtain ⟨y0, h0⟩ := hf 0 _ c0 rfl rfl
    obtain ⟨y1, h1⟩ := hf 1 _ c1 rfl rfl
    obtain ⟨y2, h2⟩ := hf 2 _ c2 rfl rfl
    obtain ⟨x0, rfl, -⟩ := cell_int Tryd.underlying3 h0 rfl
    obtain ⟨x1, rfl, -⟩ := cell_int Tryd.underlying3 h1 rfl
    obtain ⟨x2, rfl, -⟩ := cell_int Tryd.underlying36 h2 rfl
    exact ⟨⟨x0, x1, x2⟩, trivial, rfl⟩) hv h with ⟨A, c, rfl⟩ | ⟨b, o, c, l, hpos, rfl, -, hs, -⟩
 ·exact ⟨[], [], .inl ⟨rfl, A, c, rfl⟩, fun q hq => nomatch hq⟩
 ·refine ⟨[(b, opsC o l)], l, .inr ⟨b, o, c, rfl, hpos, Sy.mS _⟩, ?_⟩
  obtain ⟨x, l', rfl⟩ : ∃ x l', l = x :: l' := by
   cases l with
   | nil => exact absurd hpos (Nat.lt_irrefl _)
   | cons x l' => exact ⟨x, l', rfl⟩
  exact far_seg (by decide) hs
theorem weights_at {P : Program} : ∀ {ts : List TypeId} {l : List (DataW H)} {j : Nat} {t : TypeId} {d : DataW H}, ts[j]? = some t → l[j]? = some d → (∀ x ∈ DataW.weightsEach P ts l, x ≤ reachBytes) → ∀ x ∈ d.weights P t, x ≤ reachBytes
 | [], _, _, _, _, h, _, _ => by simp at h
 | _ :: _, [], _, _, _, _, h, _ => by simp at h
 | t :: ts, d :: l, j, t', d', ht, hd, hw => by
   unfold DataW.weightsEach at hw
   cases j with
   | zero =>
     simp only [List.getElem?_cons_zero, Option.some.injEq] at ht hd
     subst ht hd
     exact fun x hx => hw x (Sy.mL _ hx)
   | succ j => exact weights_at (j := j) (by simpa using ht) (by simpa using hd) fun x hx => hw x (Sy.mR _ hx)
set_option maxRecDepth 100000 in
theorem open_picks (hv : Value.okWide Tryd.prog w r b0 35 v) (h : DataW.Trod enc Tryd.prog w base spare held 35 v d p) (hw : ∀ x ∈ d.weights Tryd.prog 35, x ≤ reachBytes) :
  ∃ (B : Bun) (P : List Int), PicksV v P B ∧ FarB B w ∧ P.length < 1152921504606846976 := by
 rcases open_rows (sz := 1) Tryd.underlying35 (by kernel_rfl) (by omega) (fun _ : Int => True) (fun x => [.int .i64 x]) (fun _ => rfl) (fun cs n D Pl hl ht => by
  match cs, hl with
  | [c0], _ =>
    obtain ⟨x0, rfl, -⟩ := cell_int Tryd.underlying3 ht rfl
    exact ⟨x0, trivial, rfl⟩) hv h with ⟨A, c, rfl⟩ | ⟨b, o, c, l, hpos, rfl, -, hs, -, D, E, rfl, hD⟩
 ·exact ⟨[], [], .inl ⟨rfl, A, c, rfl⟩, (fun q hq => nomatch hq), by decide⟩
 ·have e : ∀ l : List Int, l.flatMap (fun x => [Value.int .i64 x]) = l.map fun x => Value.int .i64 x := fun l => by
   induction l with
   | nil => rfl
   | cons x l ih => rw [List.flatMap_cons, ih]; rfl
  have hb : l.length < 1152921504606846976 := by
   simp only [DataW.weights, Tryd.underlying35] at hw
   have h1 := hw _ Sy.mH
   have h2 : Tryd.prog.bytesOf 3 = 8 := by kernel_rfl
   rw [h2] at h1
   simp only [reachBytes] at h1
   omega
  refine ⟨[(b, .seg o (l.flatMap fun x => [Value.int .i64 x]))], l, .inr ⟨b, o, c, _, rfl, Sy.mS _, fun i hi => ?_⟩, ?_, hb⟩
  ·rw [e]
   show (if o ≤ o + i then (l.map fun x => Value.int .i64 x)[o + i - o]? else none) = _
   rw [if_pos (Nat.le_add_right _ _), Nat.add_sub_cancel_left, List.getElem?_map, List.getD_eq_getElem?_getD, List.getElem?_eq_getElem hi]
   rfl
  ·obtain ⟨x, l', rfl⟩ : ∃ x l', l = x :: l' := by
    cases l with
    | nil => exact absurd hpos (Nat.lt_irrefl _)
    | cons x l' => exact ⟨x, l', rfl⟩
   exact far_seg (by decide) hs
end
theorem opsV_mono {bv : Value} {ops : List OpD} {B B' : Bun} (h : OpsV bv ops B) (hs : ∀ p ∈ B, p ∈ B') : OpsV bv ops B' := by
 rcases h with h | ⟨gb, o, cb, h1, h2, h3⟩
 ·exact .inl h
 ·exact .inr ⟨gb, o, cb, h1, h2, hs _ h3⟩
theorem picksV_mono {pv : Value} {P : List Int} {B B' : Bun} (h : PicksV pv P B) (hs : ∀ p ∈ B, p ∈ B') : PicksV pv P B' := by
 rcases h with h | ⟨gp, o, pc, C, h1, h2, h3⟩
 ·exact .inl h
 ·exact .inr ⟨gp, o, pc, C, h1, hs _ h2, h3⟩
theorem farB_app {A B : Bun} {w : World} (ha : FarB A w) (hb : FarB B w) : FarB (A ++ B) w := fun q hq => by
 rcases List.mem_append.1 hq with hq | hq
 ·exact ha q hq
 ·exact hb q hq
theorem trodAll_five {H : Type} {enc : TypeId × Value → H} {P : Program} {w : World} {base : Nat} {spare : Nat → Bool} {held : Bool} {t0 t1 t2 t3 t4 : TypeId} {args : Array Value} {ds : List (DataW H)} {ps : List MemPlace} (h : DataW.TrodAll enc P w base spare held [t0, t1, t2, t3, t4] args.toList ds ps) :
  ∃ v0 v1 v2 v3 v4 d0 d1 d2 d3 d4 p0 p1 p2 p3 p4, args = #[v0, v1, v2, v3, v4] ∧ ds = [d0, d1, d2, d3, d4] ∧ ps = p0 ++ (p1 ++ (p2 ++ (p3 ++ p4))) ∧ DataW.Trod enc P w base spare held t0 v0 d0 p0 ∧ DataW.Trod enc P w base spare held t1 v1 d1 p1 ∧ DataW.Trod enc P w base spare held t2 v2 d2 p2 ∧ DataW.Trod enc P w base spare held t3 v3 d3 p3 ∧ DataW.Trod enc P w base spare held t4 v4 d4 p4 := by
 obtain ⟨v0, l0, d0, e0, p0, q0, hargs, rfl, rfl, h0, hr⟩ := trodAll_cons h
 obtain ⟨v1, l1, d1, e1, p1, q1, rfl, rfl, rfl, h1, hr⟩ := trodAll_cons hr
 obtain ⟨v2, l2, d2, e2, p2, q2, rfl, rfl, rfl, h2, hr⟩ := trodAll_cons hr
 obtain ⟨v3, l3, d3, e3, p3, q3, rfl, rfl, rfl, h3, hr⟩ := trodAll_cons hr
 obtain ⟨v4, l4, d4, e4, p4, q4, rfl, rfl, rfl, h4, hr⟩ := trodAll_cons hr
 obtain ⟨rfl, rfl, rfl⟩ := trodAll_nil hr
 exact ⟨v0, v1, v2, v3, v4, d0, d1, d2, d3, d4, p0, p1, p2, p3, p4, by cases args; simp_all, rfl, by simp, h0, h1, h2, h3, h4⟩
theorem law_any {f : FuncId} {args : Array Value} {ok : Prop} {B : Bun} (hc : Sy.Meets Tryd.prog ⟨f, args, ok, ⟨[], [tabB], 1, B⟩, [(⟨fun ns => tabB ∈ bunO ns, fun _ => [], bunO⟩, fun _ => .bool true)]⟩) (hok : ok) (W : World) (hB : FarB B W) (ht : tabB.2.sat W.heap[0]?) :
  Calls Tryd.prog f args W fun e W' => e = .returned (.bool true) ∧ Below W.heap.size W W' := by
 refine (hc hok W ⟨fun p hp => (by cases hp), fun p hp => ?_, by simp, fun p hp => (by cases hp), fun p hp => (hB p hp).1, fun p hp q hq => ?_⟩).mono ?_
 ·rw [List.mem_singleton.1 hp]
  exact ht
 ·rw [List.mem_singleton.1 hq]
  exact (hB p hp).2 ht
 ·rintro e W' ⟨o, ho, ns, rfl, hpost⟩
  rcases List.mem_singleton.1 ho with rfl
  refine ⟨rfl, hpost.os, hpost.tape, hpost.output, hpost.size, fun k hk => ?_⟩
  by_cases h0 : k = 0
  ·subst h0
   have h1 := (hpost.nb tabB hpost.hyp).2
   rw [tab_row] at ht
   have h1 := tab_row.1 h1
   exact h1.trans ht.symm
  ·exact hpost.old k hk fun p hp => by
    rw [List.mem_singleton.1 hp]
    exact fun e => h0 e.symm
end Go.Proofs.YtjohknpmhlildaaDoor.At
end
