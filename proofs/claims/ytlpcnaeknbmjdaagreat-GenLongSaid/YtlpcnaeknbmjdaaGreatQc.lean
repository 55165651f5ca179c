/-
  The program's look at a program: the acts of a thread (and what follows it).
-/
import Derived.Test.YtlpcnaeknbmjdaaGreatQb
import Derived.Below
import Derived.ChangeSame
import Derived.Test.YtlpcnaeknbmjdaaGreatRows
import Derived.SizedLaws
import Derived.Lib.SmallJoins
import Derived.Carry
import Derived.ProofKit
import Derived.OpenShut
import Derived.Deep.Slices
import Derived.Deep.Fields
import Derived.HandedShaped

noncomputable section
set_option linter.unusedVariables false
set_option linter.unusedSimpArgs false
namespace Go.Proofs.YtlpcnaeknbmjdaaGreat
open Sy.O (bz fork nil pack step steps)
open Sy.Res (need hyp br leaf both)
open Go Go.RowKit
open Sy (Let Blk HasL)
abbrev fWhole : FuncId := 34
def bodyT : Code := Sy.loopBody Tryz.f34 0
def bodyA : Code := Sy.loopBody Tryz.f34 1
structure ActAt (B : List (Nat × Sy.Cont)) (b o : Nat) (a : ActD) (iv ev fv : Value) : Prop where
 op : HasL (rdOf B) b o (.int .i64 a.op)
 dst : HasL (rdOf B) b (o + 1) (.int .i64 a.dst)
 base : HasL (rdOf B) b (o + 1 + 1) (.int .i64 a.base)
 size : HasL (rdOf B) b (o + 1 + 1 + 1) (.int .i64 a.size)
 ivc : HasL (rdOf B) b (o + 1 + 1 + 1 + 1) iv
 evc : HasL (rdOf B) b (o + 1 + 1 + 1 + 1 + 1) ev
 fvc : HasL (rdOf B) b (o + 1 + 1 + 1 + 1 + 1 + 1) fv
 mode : HasL (rdOf B) b (o + 1 + 1 + 1 + 1 + 1 + 1 + 1) (.int .i64 a.mode)
 to : HasL (rdOf B) b (o + 1 + 1 + 1 + 1 + 1 + 1 + 1 + 1) (.int .i64 a.to)
 line : HasL (rdOf B) b (o + 1 + 1 + 1 + 1 + 1 + 1 + 1 + 1 + 1) (.int .i64 a.line)
 col : HasL (rdOf B) b (o + 1 + 1 + 1 + 1 + 1 + 1 + 1 + 1 + 1 + 1) (.int .i64 a.col)
 i : OkX B iv a.ix
 e : OkX B ev a.e
 f : OkX B fv a.f
structure ActsR (B : List (Nat × Sy.Cont)) (v : Value) (l : List ActD) : Prop where
 sl : ∃ p n c, v = .slice p n c
 len : Sy.lenS v = l.length
 at_ : l ≠ [] → ∃ n c, v = .slice (some ⟨Sy.ptrS v, Sy.offS v, none⟩) n c
 act : ∀ i a, l[i]? = some a → ∃ iv ev fv, ActAt B (Sy.ptrS v) (Sy.offS v + i * 11) a iv ev fv
 lt : l.length < 1034834473200
def actBy (B : List (Nat × Sy.Cont)) (a : ActD) (cells loc : Int) (na : Nat) (args : Array Value) : Sy.CallC :=
 ⟨fAct, args, ∃ iv ev fv tv av, args = #[actV a iv ev fv, progV cells tv, thrV loc av] ∧ OkW B iv ev fv av a na, ⟨[], [], 0, B⟩, [Sy.plainO (.bool (actF cells loc na a))]⟩
theorem actBy_met (B : List (Nat × Sy.Cont)) (a : ActD) (cells loc : Int) (na : Nat) (args : Array Value) : Sy.Meets Tryz.prog (actBy B a cells loc na args) := fun ⟨iv, ev, fv, tv, av, h, hok⟩ => by
 subst h
 exact actC_met B a iv ev fv tv av cells loc na hok
def ctxA2 (B : List (Nat × Sy.Cont)) (a : ActD) (cells loc : Int) (na : Nat) : Sy.Ctx := Sy.mkS [(fAct, fun args _ => actBy B a cells loc na args)] [] []
theorem ctxA2_holds (B : List (Nat × Sy.Cont)) (a : ActD) (cells loc : Int) (na : Nat) : (ctxA2 B a cells loc na).holds Tryz.prog := Sy.mkS_holds (fun p hp args L => by
 rcases List.mem_singleton.1 hp with rfl
 exact actBy_met _ _ _ _ _ _) (fun _ h => (by cases h)) (fun _ h => (by cases h))
def slA2 (p1 p4 : Nat) (tv av : Value) (n i k : Nat) : List (Nat × Value) := [(1, .pointer (some ⟨p1, 0, none⟩)), (2, .bool false), (4, .pointer (some ⟨p4, 0, none⟩)), (22, tv), (23, .int .i64 (Int.ofNat n)), (24, .int .i64 (Int.ofNat i)), (43, av), (44, .int .i64 (Int.ofNat (Sy.lenS av))), (45, .int .i64 (Int.ofNat k))]
def memA2 (p1 p4 : Nat) (cells loc : Int) (tv av : Value) : List (Nat × Sy.Cont) := [(p1, .obj (.cells #[.int .i64 cells, tv] 24 (0, 0))), (p4, .obj (.cells #[.int .i64 loc, av] 40 (0, 0)))]
def wi_o : Sy.O := (fork (bz 33 0x162e77dca (fork nil nil)) nil)
noncomputable def wi_R (B : List (Nat × Sy.Cont)) (a : ActD) (p1 p4 : Nat) (tv av : Value) (n i k : Nat) (cells loc : Int) (f : Nat → Value) (ns : Nat → Sy.Let) : Sy.Res (Exit × Nat × List Value × List Blk) :=
 let z0 := Int.ofNat k
 let z1 := Sy.lenS av
 let z2 := Int.ofNat z1
 let z3 := Sy.ptrS av
 let z4 := rdOf B
 let z5 := Sy.offS av + Int.toNat z0 * 11
 let z6 := Sy.offS av + Int.toNat z0 * 11 + 1
 let z7 := Sy.offS av + Int.toNat z0 * 11 + 1 + 1
 let z8 := Sy.offS av + Int.toNat z0 * 11 + 1 + 1 + 1
 let z9 := Sy.offS av + Int.toNat z0 * 11 + 1 + 1 + 1 + 1
 let z10 := Sy.offS av + Int.toNat z0 * 11 + 1 + 1 + 1 + 1 + 1
 let z11 := Sy.offS av + Int.toNat z0 * 11 + 1 + 1 + 1 + 1 + 1 + 1
 let z12 := Sy.offS av + Int.toNat z0 * 11 + 1 + 1 + 1 + 1 + 1 + 1 + 1
 let z13 := Sy.offS av + Int.toNat z0 * 11 + 1 + 1 + 1 + 1 + 1 + 1 + 1 + 1
 let z14 := Sy.offS av + Int.toNat z0 * 11 + 1 + 1 + 1 + 1 + 1 + 1 + 1 + 1 + 1
 let z15 := Sy.offS av + Int.toNat z0 * 11 + 1 + 1 + 1 + 1 + 1 + 1 + 1 + 1 + 1 + 1
 let z16 := Array.mk [Value.int .i64 (ns 0).i, Value.int .i64 (ns 1).i, Value.int .i64 (ns 2).i, Value.int .i64 (ns 3).i, (ns 4).v, (ns 5).v, (ns 6).v, Value.int .i64 (ns 7).i, Value.int .i64 (ns 8).i, Value.int .i64 (ns 9).i, Value.int .i64 (ns 10).i]
 let z17 := Array.mk [Value.int .i64 cells, tv]
 let z18 := Array.mk [Value.int .i64 loc, av]
 let z19 := some (Addr.mk p1 0 none)
 let z20 := some (Addr.mk p4 0 none)
 let z21 := Sy.Cont.obj (Obj.cells z16 46)
 let z22 := Sy.Cont.obj (Obj.cells z17 24)
 let z23 := Sy.Cont.obj (Obj.cells z18 40)
 br (Ex.ltQ z0 z2) (need ((∃ (n : Nat), ∃ (c : Nat), av = Value.slice (some (Addr.mk z3 (Sy.offS av) none)) n c) ∧ 0 ≤ Int.ofNat k ∧ Int.ofNat k < (↑z1 : Int)) (need (∃ (i : Int), HasL z4 z3 z5 (Value.int .i64 i)) (hyp (∀ (u : Value), HasL z4 z3 z5 u → u = Value.int .i64 (ns 0).i) (need (∃ (i : Int), HasL z4 z3 z6 (Value.int .i64 i)) (hyp (∀ (u : Value), HasL z4 z3 z6 u → u = Value.int .i64 (ns 1).i) (need (∃ (i : Int), HasL z4 z3 z7 (Value.int .i64 i)) (hyp (∀ (u : Value), HasL z4 z3 z7 u → u = Value.int .i64 (ns 2).i) (need (∃ (i : Int), HasL z4 z3 z8 (Value.int .i64 i)) (hyp (∀ (u : Value), HasL z4 z3 z8 u → u = Value.int .i64 (ns 3).i) (need (∃ (v : Value), HasL z4 z3 z9 v) (hyp (∀ (u : Value), HasL z4 z3 z9 u → u = (ns 4).v) (need (∃ (v : Value), HasL z4 z3 z10 v) (hyp (∀ (u : Value), HasL z4 z3 z10 u → u = (ns 5).v) (need (∃ (v : Value), HasL z4 z3 z11 v) (hyp (∀ (u : Value), HasL z4 z3 z11 u → u = (ns 6).v) (need (∃ (i : Int), HasL z4 z3 z12 (Value.int .i64 i)) (hyp (∀ (u : Value), HasL z4 z3 z12 u → u = Value.int .i64 (ns 7).i) (need (∃ (i : Int), HasL z4 z3 z13 (Value.int .i64 i)) (hyp (∀ (u : Value), HasL z4 z3 z13 u → u = Value.int .i64 (ns 8).i) (need (∃ (i : Int), HasL z4 z3 z14 (Value.int .i64 i)) (hyp (∀ (u : Value), HasL z4 z3 z14 u → u = Value.int .i64 (ns 9).i) (need (∃ (i : Int), HasL z4 z3 z15 (Value.int .i64 i)) (hyp (∀ (u : Value), HasL z4 z3 z15 u → u = Value.int .i64 (ns 10).i) (need ((11 : Nat) = 11 ∧ (11 : Nat) = 11 ∧ Array.all z16 (fun (x : Value) =>
 Value.oneCell' x) 0 11 = true) (need (∃ (iv : Value), ∃ (ev : Value), ∃ (fv : Value), ∃ (tv_1 : Value), ∃ (av_1 : Value), Array.mk [Value.agg z16, Value.agg z17, Value.agg z18] = Array.mk [actV a iv ev fv, progV cells tv_1, thrV loc av_1] ∧ OkW B iv ev fv av_1 a z1) (need (Sy.GotL z4 B) (hyp True (br (!actF cells loc z1 a) (leaf (Exit.ret, 56, [Value.pointer z19, Value.bool false, Value.pointer z20, tv, Value.int .i64 (Int.ofNat n), Value.int .i64 (Int.ofNat i), av, Value.int .i64 z2, Value.int .i64 z0], Blk.mk (ns 11).n z21 true :: Blk.mk p1 z22 true :: Blk.mk p4 z23 true :: rdOf B)) (leaf (Exit.normal, 56, [Value.pointer z19, Value.bool false, Value.pointer z20, tv, Value.int .i64 (Int.ofNat n), Value.int .i64 (Int.ofNat i), av, Value.int .i64 z2, Value.int .i64 (Ex.wrapQ .i64 (Ex.addQ z0 1))], Blk.mk (ns 11).n z21 true :: Blk.mk p1 z22 true :: Blk.mk p4 z23 true :: rdOf B)))))))))))))))))))))))))))))) (leaf (Exit.exit 2, 56, [Value.pointer z19, Value.bool false, Value.pointer z20, tv, Value.int .i64 (Int.ofNat n), Value.int .i64 (Int.ofNat i), av, Value.int .i64 z2, Value.int .i64 z0], Blk.mk p1 z22 true :: Blk.mk p4 z23 true :: rdOf B))
theorem wi_run (B : List (Nat × Sy.Cont)) (a : ActD) (p1 p4 : Nat) (tv av : Value) (n i k : Nat) (cells loc : Int) (f : Nat → Value) : Sy.Ran (Sy.pieceT Tryz.prog (ctxA2 B a cells loc (Sy.lenS av)) 50 fWhole bodyA 56 (slA2 p1 p4 tv av n i k) ((List.range 56).map f) ((memA2 p1 p4 cells loc tv av).map Sy.ownOf ++ rdOf B) [1, 2, 4, 22, 23, 24, 43, 44, 45]) wi_o (wi_R B a p1 p4 tv av n i k cells loc f) := ⟨fun _ => by kernel_rfl, fun _ => by kernel_rfl⟩
open Go Go.RowKit
open Sy (Let Blk HasL)
def badAct (cells loc : Int) (l : List ActD) : Prop := ∃ (i : Nat) (a : ActD), l[i]? = some a ∧ actF cells loc l.length a = false
def loopAC (B : List (Nat × Sy.Cont)) (l : List ActD) (p1 p4 : Nat) (tv av : Value) (n i : Nat) (cells loc : Int) : Sy.LoopC :=
 ⟨.loop bodyA, 56, slA2 p1 p4 tv av n i 0, ActsR B av l, ⟨[], memA2 p1 p4 cells loc tv av, 0, B⟩,
  [(⟨fun _ => badAct cells loc l, fun _ => [], fun _ => []⟩, .ret, fun _ => [(2, .bool false)]),
   (⟨fun _ => ¬ badAct cells loc l, fun _ => memA2 p1 p4 cells loc tv av, fun _ => []⟩, .exit 2, fun _ => [(1, .pointer (some ⟨p1, 0, none⟩)), (2, .bool false), (4, .pointer (some ⟨p4, 0, none⟩)), (22, tv), (23, .int .i64 (Int.ofNat n)), (24, .int .i64 (Int.ofNat i))])]⟩
theorem loopAC_met (B : List (Nat × Sy.Cont)) (l : List ActD) (p1 p4 : Nat) (tv av : Value) (n i : Nat) (cells loc : Int) : Sy.MeetsL Tryz.prog (loopAC B l p1 p4 tv av n i cells loc) := by
 refine Sy.loop_ofB (σ := Nat × ActD) (S := fun s => ctxA2 B s.2 cells loc (Sy.lenS av)) (n := 50) (fn := fWhole) (fun _ => ctxA2_holds _ _ _ _ _) mixed (body := bodyA) rfl [1, 2, 4, 22, 23, 24, 43, 44, 45] (fun s => slA2 p1 p4 tv av n i s.1)
  (fun _ => (memA2 p1 p4 cells loc tv av).map Sy.ownOf ++ rdOf B) (fun s => s.1 ≤ l.length ∧ ActsR B av l ∧ (∀ j a, j < s.1 → l[j]? = some a → actF cells loc l.length a = true) ∧ ∀ a, l[s.1]? = some a → s.2 = a) (fun s => l.length - s.1)
  (0, l.headD ⟨0, 0, 0, 0, [], [], [], 0, 0, 0, 0⟩) (fun h => ⟨Nat.zero_le _, h, fun i x hi => by simp at hi, fun a ha => by cases l <;> simp_all⟩) (fun p hp => hp) (Sy.Ent.refl _) (o := fun _ => wi_o) (R := fun s f => wi_R B s.2 p1 p4 tv av n i s.1 cells loc f) (fun s f _ => wi_run B s.2 p1 p4 tv av n i s.1 cells loc f) ?_
 rintro - ⟨k, a⟩ f ⟨hk, hR, hinv, ha⟩ ns
 simp only at hk hinv ha
 simp only [wi_R, Sy.Res.holds]
 refine ⟨fun hlt => ?_, fun hge => ?_⟩
 ·have hlt : k < l.length := by rw [Ex.ltQ_eq, hR.len] at hlt; simpa using hlt
  obtain ⟨a', hn⟩ : ∃ n, l[k]? = some n := ⟨_, List.getElem?_eq_getElem hlt⟩
  obtain rfl : a = a' := ha a' hn
  obtain ⟨iv, ev, fv, hA⟩ := hR.act k a hn
  refine ⟨⟨hR.at_ (fun h => by rw [h] at hlt; simp at hlt), by simp, by rw [hR.len]; simpa using hlt⟩, ⟨_, hA.op⟩, fun e0 => ⟨⟨_, hA.dst⟩, fun e1 => ⟨⟨_, hA.base⟩, fun e2 => ⟨⟨_, hA.size⟩, fun e3 => ⟨⟨_, hA.ivc⟩, fun e4 => ⟨⟨_, hA.evc⟩, fun e5 => ⟨⟨_, hA.fvc⟩, fun e6 => ⟨⟨_, hA.mode⟩, fun e7 => ⟨⟨_, hA.to⟩, fun e8 => ⟨⟨_, hA.line⟩, fun e9 => ⟨⟨_, hA.col⟩, fun e10 => ?_⟩⟩⟩⟩⟩⟩⟩⟩⟩⟩⟩
  have e0 := e0 _ hA.op
  have e1 := e1 _ hA.dst
  have e2 := e2 _ hA.base
  have e3 := e3 _ hA.size
  have e4 := e4 _ hA.ivc
  have e5 := e5 _ hA.evc
  have e6 := e6 _ hA.fvc
  have e7 := e7 _ hA.mode
  have e8 := e8 _ hA.to
  have e9 := e9 _ hA.line
  have e10 := e10 _ hA.col
  simp only [Value.int.injEq, true_and] at e0 e1 e2 e3 e7 e8 e9 e10
  rw [← e0, ← e1, ← e2, ← e3, ← e4, ← e5, ← e6, ← e7, ← e8, ← e9, ← e10]
  refine ⟨?_, ⟨iv, ev, fv, tv, av, rfl, hA.i, hA.e, hA.f, hR.sl, rfl⟩, gotL_of (fun p hp => hp), fun _ => ⟨fun hb => ?_, fun hb => ?_⟩⟩
  ·obtain ⟨_, _, _, h1⟩ := hA.i.1.sl
   obtain ⟨_, _, _, h2⟩ := hA.e.1.sl
   obtain ⟨_, _, _, h3⟩ := hA.f.1.sl
   simp [h1, h2, h3, Value.oneCell']
  ·refine ⟨rfl, .inr ⟨by simp, _, Sy.mH, rfl, [], rfl, ⟨[1], rfl⟩, Sy.Ent.sub (List.nil_sublist _), k, a, hn, ?_⟩⟩
   rw [hR.len] at hb
   simpa using hb
  ·rw [hR.len] at hb
   refine ⟨rfl, .inl ⟨rfl, (k + 1, l.getD (k + 1) a), ⟨by show k + 1 ≤ l.length; omega, hR, fun j x hj hx => ?_, fun x hx => ?_⟩, by show l.length - (k + 1) < l.length - k; omega, ?_, Sy.Ent.sub (List.sublist_cons_self _ _)⟩⟩
   ·by_cases he : j = k
    ·subst he
     rw [hn] at hx
     injection hx with hx
     rw [← hx]
     simpa using hb
    ·exact hinv j x (by simp only at hj; omega) hx
   ·simp only at hx
    show l.getD (k + 1) a = x
    rw [List.getD_eq_getElem?_getD, hx]
    rfl
   ·rw [w_succ (by have := hR.lt; omega)]
    rfl
 ·have hge : k = l.length := by rw [Ex.ltQ_eq, hR.len] at hge; simp at hge; omega
  subst hge
  refine ⟨rfl, .inr ⟨by simp, _, Sy.mC _ (Sy.mS _), rfl, [], rfl, ⟨[0, 1, 2, 3, 4, 5], rfl⟩, ?_, ?_⟩⟩
  ·exact Sy.Ent.sub (by simp only [List.append_nil]; exact List.sublist_append_left _ _)
  ·rintro ⟨j, x, hx, hp⟩
   rw [hinv j x (List.getElem?_eq_some_iff.1 hx).1 hx] at hp
   cases hp
open Go Go.RowKit
open Sy (Let Blk HasL)
structure ThreadD where
 locals : Int
 acts : List ActD
structure ThreadsR (B : List (Nat × Sy.Cont)) (v : Value) (l : List ThreadD) : Prop where
 sl : ∃ p n c, v = .slice p n c
 len : Sy.lenS v = l.length
 at_ : l ≠ [] → ∃ n c, v = .slice (some ⟨Sy.ptrS v, Sy.offS v, none⟩) n c
 thr : ∀ i t, l[i]? = some t → ∃ av, HasL (rdOf B) (Sy.ptrS v) (Sy.offS v + i * 2) (.int .i64 t.locals) ∧ HasL (rdOf B) (Sy.ptrS v) (Sy.offS v + i * 2 + 1) av ∧ ActsR B av t.acts
 lt : l.length < 4398046511104
def Sy.locL (L : List Blk) : Int := match L with
 | ⟨_, .obj (.cells cs _ _), _⟩ :: _ => Sy.argI cs 0
 | _ => 0
def ctxT (B : List (Nat × Sy.Cont)) (l : List ActD) (p1 : Nat) (tv : Value) (n i : Nat) (cells : Int) : Sy.Ctx := Sy.mkS [] [(fWhole, fun a L => loopAC B l p1 (Sy.ptrN (a.get 4)) tv (a.get 43) n i cells (Sy.locL L))] []
theorem ctxT_holds (B : List (Nat × Sy.Cont)) (l : List ActD) (p1 : Nat) (tv : Value) (n i : Nat) (cells : Int) : (ctxT B l p1 tv n i cells).holds Tryz.prog := Sy.mkS_holds (fun _ h => (by cases h)) (fun p hp a L => by
 rcases List.mem_singleton.1 hp with rfl
 exact loopAC_met _ _ _ _ _ _ _ _ _ _) (fun _ h => (by cases h))
def slT (p1 : Nat) (tv : Value) (n i : Nat) : List (Nat × Value) := [(1, .pointer (some ⟨p1, 0, none⟩)), (2, .bool false), (22, tv), (23, .int .i64 (Int.ofNat n)), (24, .int .i64 (Int.ofNat i))]
def memT (p1 : Nat) (cells : Int) (tv : Value) : List (Nat × Sy.Cont) := [(p1, .obj (.cells #[.int .i64 cells, tv] 24 (0, 0)))]
def wt_o : Sy.O := (fork (bz 25 0x17bdeea (fork nil (bz 16 0xd6b7 (fork (steps [0, 1] nil) (steps [0, 1] nil))))) nil)
noncomputable def wt_R (B : List (Nat × Sy.Cont)) (l : List ActD) (p1 : Nat) (tv : Value) (n i : Nat) (cells : Int) (f : Nat → Value) (ns : Nat → Sy.Let) : Sy.Res (Exit × Nat × List Value × List Blk) :=
 let z0 := Sy.ptrS tv
 let z1 := ns 0
 let z2 := Array.mk [Value.int .i64 z1.i, (ns 1).v]
 let z3 := (∃ (p : Option Addr), ∃ (n : Nat), ∃ (c : Nat), (ns 1).v = Value.slice p n c)
 let z4 := some (Addr.mk p1 0 none)
 let z5 := Sy.Cont.obj (Obj.cells z2 40)
 let z6 := Sy.Cont.obj (Obj.cells (Array.mk [.int .i64 cells, tv]) 24)
 let z7 := [] ++ List.eraseIdx (Blk.mk p1 z6 true :: rdOf B) (nat_lit 0)
 let z8 := Value.tuple (Array.mk [])
 let z9 := Sy.argsW 0 (ns 3).l
 br (Ex.ltQ (Int.ofNat i) (Int.ofNat n)) (need ((∃ (n : Nat), ∃ (c : Nat), tv = Value.slice (some (Addr.mk z0 (Sy.offS tv) none)) n c) ∧ 0 ≤ Int.ofNat i ∧ Int.ofNat i < (↑(Sy.lenS tv) : Int)) (need (∃ (i_1 : Int), HasL (rdOf B) z0 (Sy.offS tv + Int.toNat (Int.ofNat i) * 2) (Value.int .i64 i_1)) (hyp (∀ (u : Value), HasL (rdOf B) z0 (Sy.offS tv + Int.toNat (Int.ofNat i) * 2) u → u = Value.int .i64 z1.i) (need (∃ (v : Value), HasL (rdOf B) z0 (Sy.offS tv + Int.toNat (Int.ofNat i) * 2 + 1) v) (hyp (∀ (u : Value), HasL (rdOf B) z0 (Sy.offS tv + Int.toNat (Int.ofNat i) * 2 + 1) u → u = (ns 1).v) (need ((2 : Nat) = 2 ∧ (2 : Nat) = 2 ∧ Array.all z2 (fun (x : Value) => Value.oneCell' x) 0 2 = true) (need z3 (br (bif bif Ex.ltQ z1.i 0 then true else Ex.ltQ 24 z1.i then true else Ex.ltQ 65536 (Int.ofNat (Sy.lenS (ns 1).v))) (leaf (Exit.ret, 56, [Value.pointer z4, Value.bool false, tv, Value.int .i64 (Int.ofNat n), Value.int .i64 (Int.ofNat i)], Blk.mk (ns 2).n z5 true :: Blk.mk p1 z6 true :: rdOf B)) (need z3 (need (ActsR B (ns 1).v l) (need (Sy.GotL z7 B) (both (hyp (∃ (i : Nat), ∃ (a : ActD), l[i]? = some a ∧ actF cells z1.i (List.length l) a = false) (leaf (Exit.ret, 56, [List.rec z8 (fun (p : Nat × Value) (x : List (Nat × Value)) (ih : Value) => Bool.rec ih (Prod.snd p) (Nat.beq (Prod.fst p) 1)) z9, Value.bool false, List.rec z8 (fun (p : Nat × Value) (x : List (Nat × Value)) (ih : Value) => Bool.rec ih (Prod.snd p) (Nat.beq (Prod.fst p) 22)) z9, List.rec z8 (fun (p : Nat × Value)
 (x : List (Nat × Value)) (ih : Value) => Bool.rec ih (Prod.snd p) (Nat.beq (Prod.fst p) 23)) z9, List.rec z8 (fun (p : Nat × Value) (x : List (Nat × Value)) (ih : Value) => Bool.rec ih (Prod.snd p) (Nat.beq (Prod.fst p) 24)) z9], [] ++ z7))) (hyp (badAct cells z1.i l → False) (leaf (Exit.normal, 56, [Value.pointer z4, Value.bool false, tv, Value.int .i64 (Int.ofNat n), Value.int .i64 (Ex.wrapQ .i64 (Ex.addQ (Int.ofNat i) 1))], Blk.mk p1 z6 true :: Blk.mk (ns 2).n z5 true :: z7))))))))))))))) (leaf (Exit.exit 0, 56, [Value.pointer z4, Value.bool false, tv, Value.int .i64 (Int.ofNat n), Value.int .i64 (Int.ofNat i)], Blk.mk p1 z6 true :: rdOf B))
theorem wt_run (B : List (Nat × Sy.Cont)) (l : List ActD) (p1 : Nat) (tv : Value) (n i : Nat) (cells : Int) (f : Nat → Value) : Sy.Ran (Sy.pieceT Tryz.prog (ctxT B l p1 tv n i cells) 50 fWhole bodyT 56 (slT p1 tv n i) ((List.range 56).map f) ((memT p1 cells tv).map Sy.ownOf ++ rdOf B) [1, 2, 22, 23, 24]) wt_o (wt_R B l p1 tv n i cells f) := ⟨fun _ => by kernel_rfl, fun _ => by kernel_rfl⟩
def out1 (t : ThreadD) : Bool := bif bif Ex.ltQ t.locals 0 then true else Ex.ltQ 24 t.locals then true else Ex.ltQ 65536 (Int.ofNat t.acts.length)
def badThr (cells : Int) (t : ThreadD) : Prop := out1 t = true ∨ badAct cells t.locals t.acts
def badThrs (cells : Int) (l : List ThreadD) : Prop := ∃ (i : Nat) (t : ThreadD), l[i]? = some t ∧ badThr cells t
def loopTC (B : List (Nat × Sy.Cont)) (l : List ThreadD) (p1 : Nat) (tv : Value) (cells : Int) : Sy.LoopC :=
 ⟨.loop bodyT, 56, slT p1 tv (Sy.lenS tv) 0, ThreadsR B tv l, ⟨[], memT p1 cells tv, 0, B⟩,
  [(⟨fun _ => badThrs cells l, fun _ => [], fun _ => []⟩, .ret, fun _ => [(2, .bool false)]),
   (⟨fun _ => ¬ badThrs cells l, fun _ => [], fun _ => []⟩, .exit 0, fun _ => [(2, .bool false)])]⟩
theorem loopTC_met (B : List (Nat × Sy.Cont)) (l : List ThreadD) (p1 : Nat) (tv : Value) (cells : Int) : Sy.MeetsL Tryz.prog (loopTC B l p1 tv cells) := by
 refine Sy.loop_ofB (σ := Nat × ThreadD) (S := fun s => ctxT B s.2.acts p1 tv (Sy.lenS tv) s.1 cells) (n := 50) (fn := fWhole) (fun _ => ctxT_holds _ _ _ _ _ _ _) mixed (body := bodyT) rfl [1, 2, 22, 23, 24] (fun s => slT p1 tv (Sy.lenS tv) s.1)
  (fun _ => (memT p1 cells tv).map Sy.ownOf ++ rdOf B) (fun s => s.1 ≤ l.length ∧ ThreadsR B tv l ∧ (∀ j t, j < s.1 → l[j]? = some t → ¬ badThr cells t) ∧ ∀ t, l[s.1]? = some t → s.2 = t) (fun s => l.length - s.1)
  (0, l.headD ⟨0, []⟩) (fun h => ⟨Nat.zero_le _, h, fun i x hi => by simp at hi, fun a ha => by cases l <;> simp_all⟩) (fun p hp => hp) (Sy.Ent.refl _) (o := fun _ => wt_o) (R := fun s f => wt_R B s.2.acts p1 tv (Sy.lenS tv) s.1 cells f) (fun s f _ => wt_run B s.2.acts p1 tv (Sy.lenS tv) s.1 cells f) ?_
 rintro - ⟨k, t⟩ f ⟨hk, hR, hinv, ha⟩ ns
 simp only at hk hinv ha
 simp only [wt_R, Sy.Res.holds]
 refine ⟨fun hlt => ?_, fun hge => ?_⟩
 ·have hlt : k < l.length := by rw [Ex.ltQ_eq, hR.len] at hlt; simpa using hlt
  obtain ⟨t', hn⟩ : ∃ n, l[k]? = some n := ⟨_, List.getElem?_eq_getElem hlt⟩
  obtain rfl : t = t' := ha t' hn
  obtain ⟨av, h0, h1, hA⟩ := hR.thr k t hn
  refine ⟨⟨hR.at_ (fun h => by rw [h] at hlt; simp at hlt), by simp, by rw [hR.len]; simpa using hlt⟩, ⟨_, h0⟩, fun e0 => ⟨⟨_, h1⟩, fun e1 => ?_⟩⟩
  have e0 := e0 _ h0
  have e1 := e1 _ h1
  simp only [Value.int.injEq, true_and] at e0
  rw [← e0, ← e1]
  obtain ⟨p, n, c, hav⟩ := hA.sl
  refine ⟨?_, hA.sl, fun hb => ?_, fun hb => ⟨hA.sl, hA, gotL_of (fun p hp => hp), fun hbad => ?_, fun hgood => ?_⟩⟩
  ·simp [hav, Value.oneCell']
  ·refine ⟨rfl, .inr ⟨by simp, _, Sy.mH, rfl, [], rfl, ⟨[1], rfl⟩, Sy.Ent.sub (List.nil_sublist _), k, t, hn, .inl ?_⟩⟩
   rw [hA.len] at hb
   exact hb
  ·exact ⟨rfl, .inr ⟨by simp, _, Sy.mH, rfl, [], rfl, ⟨[1], rfl⟩, Sy.Ent.sub (List.nil_sublist _), k, t, hn, .inr hbad⟩⟩
  ·refine ⟨rfl, .inl ⟨rfl, (k + 1, l.getD (k + 1) t), ⟨by show k + 1 ≤ l.length; omega, hR, fun j x hj hx => ?_, fun x hx => ?_⟩, by show l.length - (k + 1) < l.length - k; omega, ?_, Sy.Ent.sub ((List.sublist_cons_self _ _).cons_cons _)⟩⟩
   ·by_cases he : j = k
    ·subst he
     rw [hn] at hx
     injection hx with hx
     subst hx
     rw [hA.len] at hb
     rintro (h | h)
     ·exact absurd h (by unfold out1; rw [hb]; exact Bool.false_ne_true)
     ·exact hgood h
    ·exact hinv j x (by simp only at hj; omega) hx
   ·simp only at hx
    show l.getD (k + 1) t = x
    rw [List.getD_eq_getElem?_getD, hx]
    rfl
   ·rw [w_succ (by have := hR.lt; omega)]
    rfl
 ·have hge : k = l.length := by rw [Ex.ltQ_eq, hR.len] at hge; simp at hge; omega
  subst hge
  refine ⟨rfl, .inr ⟨by simp, _, Sy.mC _ (Sy.mS _), rfl, [], rfl, ⟨[1], rfl⟩, Sy.Ent.sub (List.nil_sublist _), ?_⟩⟩
  rintro ⟨j, x, hx, hp⟩
  exact hinv j x (List.getElem?_eq_some_iff.1 hx).1 hx hp
def ctxG (B : List (Nat × Sy.Cont)) (l : List ThreadD) (tv : Value) (cells : Int) : Sy.Ctx := Sy.mkS [] [(fWhole, fun a _ => loopTC B l (Sy.ptrN (a.get 1)) tv cells)] []
theorem ctxG_holds (B : List (Nat × Sy.Cont)) (l : List ThreadD) (tv : Value) (cells : Int) : (ctxG B l tv cells).holds Tryz.prog := Sy.mkS_holds (fun _ h => (by cases h)) (fun p hp a L => by
 rcases List.mem_singleton.1 hp with rfl
 exact loopTC_met _ _ _ _ _) (fun _ h => (by cases h))
open Go Go.RowKit
open Sy (Let Blk HasL)
def wg_o : Sy.O := (bz 15 0x5ef7 (fork nil (bz 12 0xd77 (fork (steps [0, 1] nil) (steps [0, 1] nil)))))
noncomputable def wg_R (B : List (Nat × Sy.Cont)) (l : List ThreadD) (tv : Value) (cells : Int) (ns : Nat → Sy.Let) : Sy.Res (Value × List Blk) :=
 let z0 := (∃ (p : Option Addr), ∃ (n : Nat), ∃ (c : Nat), tv = Value.slice p n c)
 let z1 := [] ++ rdOf B
 need z0 (br (bif bif Ex.ltQ cells 0 then true else Ex.ltQ 4096 cells then true else Ex.ltQ 64 (Int.ofNat (Sy.lenS tv))) (leaf (Value.bool false, Blk.mk (ns 0).n (.obj (.cells (Array.mk [.int .i64 cells, tv]) 24)) true :: rdOf B)) (need z0 (need (ThreadsR B tv l) (need (Sy.GotL z1 B) (both (hyp (∃ (i : Nat), ∃ (t : ThreadD), l[i]? = some t ∧ badThr cells t) (leaf (Value.bool false, [] ++ z1))) (hyp (badThrs cells l → False) (leaf (Value.bool true, [] ++ z1))))))))
theorem wg_run (B : List (Nat × Sy.Cont)) (l : List ThreadD) (tv : Value) (cells : Int) : Sy.Ran (Sy.inB Tryz.prog (ctxG B l tv cells) 50 fWhole #[progV cells tv] (rdOf B)) wg_o (wg_R B l tv cells) := ⟨fun _ => by kernel_rfl, fun _ => by kernel_rfl⟩
def out0 (cells : Int) (l : List ThreadD) : Bool := bif bif Ex.ltQ cells 0 then true else Ex.ltQ 4096 cells then true else Ex.ltQ 64 (Int.ofNat l.length)
open Classical in

def wholeF (cells : Int) (l : List ThreadD) : Bool := decide (¬ (out0 cells l = true ∨ badThrs cells l))
def wholeC (B : List (Nat × Sy.Cont)) (tv : Value) (l : List ThreadD) (cells : Int) : Sy.CallC := ⟨fWhole, #[progV cells tv], ThreadsR B tv l, ⟨[], [], 0, B⟩, [Sy.plainO (.bool (wholeF cells l))]⟩
open Classical in
theorem wholeC_met (B : List (Nat × Sy.Cont)) (tv : Value) (l : List ThreadD) (cells : Int) : Sy.Meets Tryz.prog (wholeC B tv l cells) := by
 refine Sy.meets_ofB (ctxG_holds B l tv cells) mixed (L := rdOf B) (Sy.Ent.refl _) (wg_run B l tv cells) fun hR ns => ?_
 have leaf : ∀ (b : Bool) (L : List Blk), b = wholeF cells l → Sy.leafB (wholeC B tv l cells) (.bool b, L) := fun b L h => plainB_leaf (Sy.mS _) rfl (by rw [h])
 replace hR : ThreadsR B tv l := hR
 simp only [wg_R, Sy.Res.holds]
 refine ⟨hR.sl, fun hb => leaf _ _ ?_, fun hb => ⟨hR.sl, hR, gotL_of (fun p hp => by simpa using hp), fun h => leaf _ _ ?_, fun h => leaf _ _ ?_⟩⟩
 ·rw [hR.len] at hb
  exact (decide_eq_false (fun h => h (.inl hb))).symm
 ·exact (decide_eq_false (fun h' => h' (.inr h))).symm
 ·rw [hR.len] at hb
  refine (decide_eq_true ?_).symm
  rintro (h' | h')
  ·exact absurd h' (by unfold out0; rw [hb]; exact Bool.false_ne_true)
  ·exact h h'
def LeB (B C : List (Nat × Sy.Cont)) : Prop := ∀ b o v, HasL (rdOf B) b o v → HasL (rdOf C) b o v
theorem nodesR_mono {B C : List (Nat × Sy.Cont)} (h : LeB B C) {v : Value} {l : List NodeD} (hR : NodesR B v l) : NodesR C v l :=
 ⟨hR.sl, hR.len, hR.at_, fun i n hi => h _ _ _ (hR.op i n hi), fun i n hi => h _ _ _ (hR.val i n hi), fun i n hi => h _ _ _ (hR.a i n hi), fun i n hi => h _ _ _ (hR.b i n hi)⟩
theorem okX_mono {B C : List (Nat × Sy.Cont)} (h : LeB B C) {v : Value} {l : List NodeD} (hR : OkX B v l) : OkX C v l := ⟨nodesR_mono h hR.1, hR.2⟩
open Go.RowKit Go.WideShapes Go.ChangeShapes
section
variable {H : Type} {enc : TypeId × Value → H} {P : Program}
theorem post_of_below {f : Func} {s : ChangeSpec} {apart fresh handsOn again : Bool} {W W' : World} {args : Array Value} {v : Value} {ds gs : List (DataW H)} {before pa pv : List MemPlace}
  (hW : DataW.Whole enc P f.params.toList s.vars apart W args.toList ds gs before)
  (hres : ∀ (b : Nat) (sp : Nat → Bool) (hd : Bool), DataW.TrodAll enc P W' b sp hd f.resultTypes.toList (v.resultList f.resultTypes.size) (s.fn H (ds ++ gs)).results [])
  (hargs : ∀ sp : Nat → Bool, (∀ p ∈ before, sp p.block = true) → DataW.TrodAll enc P W' 0 sp true f.params.toList args.toList (s.fn H (ds ++ gs)).args pa)
  (hvars : ∀ sp : Nat → Bool, (∀ p ∈ before, sp p.block = true) → DataW.TrodVars enc P W' sp s.vars (s.fn H (ds ++ gs)).vars pv)
  (hps : before = pa ++ pv) (hb : Below W.heap.size W W')
  (hok : ∀ (j : Nat) (t : TypeId) (r : Value), f.resultTypes[j]? = some t → (v.resultList f.resultTypes.size)[j]? = some r → Value.okWide P W' .any 0 t r) :
  s.post enc P f apart fresh handsOn again W args v W' := by
 have hlt : ∀ p ∈ before, p.block < W.heap.size := fun p hp => hW.lt p hp
 have hold : ∀ p ∈ before, (fun b => decide (b < W.heap.size)) p.block = true := fun p hp => by simpa using hlt p hp
 refine ⟨ds, gs, before, [], pa, pv, hW, hres _ _ _, hargs _ hold, hvars _ hold, World.keptBut_mono (fun p hp => ⟨hp, ?_⟩) (hb.frame (· ∈ before)), fun _ => ?_⟩
 ·rw [hps, List.mem_append] at hp
  exact Or.inr hp
 ·obtain ⟨_, _, _, _, _, hz, hn⟩ := hW
  refine ⟨hok, _, _, ([] ++ pa) ++ pv, ⟨[] ++ pa, pv, trodAll_append (hargs _ (fun _ _ => rfl)) (hres _ _ _), hvars _ (fun _ _ => rfl), rfl, ?_, ?_⟩, ?_⟩
  ·intro b off hp
   have hin : MemPlace.cell b off ∈ before := by rw [hps]; simpa using hp
   rw [hb.frozen (hlt _ hin)]
   exact hz b off hin
  ·intro ha
   have := hn ha
   rw [hps] at this
   simpa using this
  ·intro p hp _
   rw [hps]
   simpa using hp
end
end Go.Proofs.YtlpcnaeknbmjdaaGreat
namespace Go.Proofs.YtlpcnaeknbmjdaaGreat
open Go Go.Joins Go.ChangeShapes Go.WideShapes Go.RowKit Go.Deep
open Sy (Cont)
theorem own : ownKnob Tryz.prog.godebug = none := by kernel_rfl
theorem laidOut : laidOutB Tryz.prog = true := by kernel_rfl
theorem spot_of {w : World} {a : Addr} {u : Value} (h : w.cell? a = some u) : a.spot = none ∧ ∃ c t f, w.heap[a.block]? = some (.cells c t f) ∧ c[a.off]? = some u := by
 unfold World.cell? at h
 split at h
 ·rename_i c t f hh
  split at h
  ·cases h
  ·rename_i hs
   exact ⟨by simpa using hs, c, t, f, hh, h⟩
 ·cases h
theorem again_any {H : Type} {enc : TypeId × Value → H} {W W' : World} {t : TypeId} {v : Value} {d : DataW H} {p : List MemPlace} {sp : Nat → Bool} (hr : Tryz.prog.readableRec t = true) (hrow : t < Tryz.prog.types.size)
  (h : DataW.Trod enc Tryz.prog W 0 (fun _ => true) true t v d p) (hb : Below W.heap.size W W') (hlt : ∀ x ∈ p, x.block < W.heap.size) (hsp : ∀ x ∈ p, sp x.block = true) :
  DataW.Trod enc Tryz.prog W' 0 sp true t v d p :=
 WideElems.Trod_stays laidOut hr hrow h (fun x hx => hb.same (hlt x hx)) hsp
open Sy (Let Blk HasL Cont)
def heapB (w : World) : List (Nat × Sy.Cont) := (List.range w.heap.size).filterMap fun k => (w.heap[k]?).map fun o => (k, Sy.Cont.obj o)
theorem heapB_mem {w : World} {k : Nat} {o : Obj} (h : w.heap[k]? = some o) : (k, Sy.Cont.obj o) ∈ heapB w :=
 List.mem_filterMap.2 ⟨k, List.mem_range.2 (Array.getElem?_eq_some_iff.1 h).1, by rw [h]; rfl⟩
theorem heapB_sat {w : World} : ∀ p ∈ heapB w, p.2.sat w.heap[p.1]? := fun p hp => by
 obtain ⟨k, -, hk⟩ := List.mem_filterMap.1 hp
 cases hh : w.heap[k]? with
 | none => rw [hh] at hk; cases hk
 | some o =>
   rw [hh] at hk
   simp only [Option.map_some, Option.some.injEq] at hk
   subst hk
   exact hh
theorem hasL_heap {w : World} {b o : Nat} {v : Value} (h : w.cell? ⟨b, o, none⟩ = some v) : HasL (rdOf (heapB w)) b o v := by
 obtain ⟨-, c, t, f, hh, hc⟩ := spot_of h
 refine ⟨⟨b, .obj (.cells c t f), false⟩, List.mem_map.2 ⟨_, heapB_mem hh, rfl⟩, rfl, ?_⟩
 show c.toList[o]? = some v
 simpa using hc
section
variable {H : Type} {enc : TypeId × Value → H} {P : Program} {w : World} {base : Nat} {spare : Nat → Bool} {held : Bool}
def Small (P : Program) (t : TypeId) (d : DataW H) : Prop := ∀ x ∈ d.weights P t, x ≤ reachBytes
theorem small_all {e : TypeId} : ∀ {l : List (DataW H)} {d : DataW H}, d ∈ l → (∀ x ∈ DataW.weightsAll P e l, x ≤ reachBytes) → Small P e d
 | [], _, h, _ => by cases h
 | a :: l, d, h, hw => by
   unfold DataW.weightsAll at hw
   rcases List.mem_cons.1 h with rfl | h
   ·exact fun x hx => hw x (Sy.mL _ hx)
   ·exact small_all h fun x hx => hw x (Sy.mR _ hx)
theorem small_each : ∀ {ts : List TypeId} {l : List (DataW H)} {j : Nat} {t : TypeId} {d : DataW H}, ts[j]? = some t → l[j]? = some d → (∀ x ∈ DataW.weightsEach P ts l, x ≤ reachBytes) → Small P t d
 | [], _, _, _, _, h, _, _ => by simp at h
 | _ :: _, [], _, _, _, _, h, _ => by simp at h
 | t :: ts, d :: l, j, t', d', ht, hd, hw => by
   unfold DataW.weightsEach at hw
   cases j with
   | zero =>
     simp only [List.getElem?_cons_zero, Option.some.injEq] at ht hd
     subst ht hd
     exact fun x hx => hw x (Sy.mL _ hx)
   | succ j => exact small_each (j := j) (by simpa using ht) (by simpa using hd) fun x hx => hw x (Sy.mR _ hx)
theorem open_sl {t e : TypeId} {sz n : Nat} {c : Value} {x : DataW H × List MemPlace} (ht : P.underlying t = some (.slice e)) (hC : P.cellsOf e = sz) (hsz : 0 < sz)
  (h : DataW.trod enc P w base spare held n t [c] = some x) (hw : Small P t x.1) :
  ∃ len, (∃ p cap, c = .slice p len cap) ∧ len * P.bytesOf e ≤ reachBytes ∧ (0 < len → ∃ cap, c = .slice (some ⟨Sy.ptrS c, Sy.offS c, none⟩) len cap) ∧
   ∀ i, i < len → ∃ cs n' y, cs.length = sz ∧ (∀ j u, cs[j]? = some u → w.cell? ⟨Sy.ptrS c, Sy.offS c + i * sz + j, none⟩ = some u) ∧ DataW.trod enc P w base spare held n' e cs = some y ∧ Small P e y.1 := by
 rcases Go.Deep.open_slice ht h with ⟨h0, hx⟩ | ⟨a, len, cap, m, k, D, Pl, hcs, -, hle, hcap, hm, hx, hi⟩
 ·injection h0 with h0
  subst h0
  exact ⟨0, ⟨_, _, rfl⟩, by simp, fun h => absurd h (Nat.lt_irrefl _), fun i hi => absurd hi (Nat.not_lt_zero _)⟩
 ·injection hcs with hcs
  subst hcs
  have hmn : len ≤ m := by rw [hm]; split <;> omega
  subst hx
  unfold Small at hw
  simp only [DataW.weights, ht] at hw
  have hb := hw _ Sy.mH
  have hs : 0 < len → a.spot = none := fun hp => by
   obtain ⟨cs', hcc, -⟩ := hi 0 (by omega)
   rw [hC] at hcc
   obtain ⟨_, hcl, hat⟩ := World.cells?_some hcc
   have h1 := hat 0 hsz
   rw [List.getElem?_eq_getElem (by omega)] at h1
   have := (spot_of h1).1
   simpa [Addr.add] using this
  refine ⟨len, ⟨_, _, rfl⟩, ?_, fun hp => ⟨cap, ?_⟩, fun i hil => ?_⟩
  ·have : (((List.range len).map D).length + ((List.range (m - len)).map fun j => D (len + j)).length) * P.bytesOf e ≥ len * P.bytesOf e := Nat.mul_le_mul_right _ (by simp)
   omega
  ·have hs := hs hp
   obtain ⟨b, o, s⟩ := a
   simp only at hs
   subst hs
   rfl
  ·obtain ⟨cs', hcc, htr⟩ := hi i (by omega)
   rw [hC] at hcc
   obtain ⟨_, hcl, hat⟩ := World.cells?_some hcc
   have hs := hs (by omega)
   obtain ⟨b, o, s⟩ := a
   simp only at hs
   subst hs
   refine ⟨cs', k, (D i, Pl i), hcl, fun j u hu => ?_, htr, small_all (l := (List.range len).map D) (List.mem_map.2 ⟨i, List.mem_range.2 hil, rfl⟩) fun x hx => hw x (Sy.mC _ (Sy.mL _ hx))⟩
   have hj : j < sz := by rw [← hcl]; exact (List.getElem?_eq_some_iff.1 hu).1
   have h5 := hat j hj
   rw [Go.Deep.add_add, hu, Sy.addr_add] at h5
   rw [Nat.add_assoc]
   exact h5
theorem open_fl {n : Nat} {t : TypeId} {fs : Array Field} {cs : List Value} {y : DataW H × List MemPlace} (hu : P.underlying t = some (.struct fs)) (hone : oneCellFields P fs = true)
  (hl : cs.length = fs.size) (h : DataW.trod enc P w base spare held n t cs = some y) (hw : Small P t y.1) : ∃ n', ∀ (j : Nat) (f : Field) (c : Value), fs[j]? = some f → cs[j]? = some c → ∃ y, DataW.trod enc P w base spare held n' f.type [c] = some y ∧ Small P f.type y.1 := by
 obtain ⟨ys, n', -, rfl, -, hyl, hf⟩ := DataW.trod_struct hu h
 refine ⟨n', fun j f c hj hc => ?_⟩
 obtain ⟨ho, hk⟩ := hone_of hone j f hj
 have h1 := hf j f hj
 rw [ho, hk] at h1
 have hjl : j < cs.length := (List.getElem?_eq_some_iff.1 hc).1
 have he : (cs.drop j).take 1 = [c] := by
  rw [List.drop_eq_getElem_cons hjl]
  simp only [List.take_succ_cons, List.take_zero, List.cons.injEq, and_true]
  exact (List.getElem?_eq_some_iff.1 hc).2
 rw [he] at h1
 have hy : ys[j]? = some ys[j] := List.getElem?_eq_getElem (by rw [hyl, ← hl]; exact hjl)
 refine ⟨ys[j], h1.trans hy, ?_⟩
 unfold Small at hw
 simp only [DataW.weights, hu] at hw
 exact small_each (j := j) (by rw [List.getElem?_map]; simp [hj]) (by rw [List.getElem?_map, hy]; rfl) hw
theorem cell_num {n : Nat} {t : TypeId} {k : IntKind} {c : Value} {y : DataW H × List MemPlace} (ht : P.underlying t = some (.int k))
  (h : DataW.trod enc P w base spare held n t [c] = some y) : ∃ x : Int, c = .int k x := by
 obtain ⟨m, e, -, -⟩ := DataW.trod_int ht h
 injection e with e
 exact ⟨m, e⟩
theorem list_of {α : Type} {n : Nat} {p : Nat → α → Prop} (h : ∀ i, i < n → ∃ x, p i x) : ∃ l : List α, l.length = n ∧ ∀ i x, l[i]? = some x → p i x := by
 induction n with
 | zero => exact ⟨[], rfl, fun i x hx => by simp at hx⟩
 | succ n ih =>
   obtain ⟨l, hl, hp⟩ := ih fun i hi => h i (by omega)
   obtain ⟨x, hx⟩ := h n (by omega)
   refine ⟨l ++ [x], by simp [hl], fun i y hy => ?_⟩
   rcases Nat.lt_or_ge i n with hi | hi
   ·rw [List.getElem?_append_left (by omega)] at hy
    exact hp i y hy
   ·rw [List.getElem?_append_right (by omega), hl] at hy
    have : i - n = 0 := by
     have := (List.getElem?_eq_some_iff.1 hy).1
     simp at this
     omega
    rw [this] at hy
    simp only [List.getElem?_cons_zero, Option.some.injEq] at hy
    subst hy
    obtain rfl : i = n := by omega
    exact hx
end
section
variable {H : Type} {enc : TypeId × Value → H} {w : World} {base : Nat} {spare : Nat → Bool} {held : Bool}
end
end Go.Proofs.YtlpcnaeknbmjdaaGreat
namespace Go.Proofs.YtlpcnaeknbmjdaaGreat.Lw
open Sy.O (fork nil step steps)
open Sy.Res (need hyp br leaf both)
open Go Go.RowKit
open Go.Proofs.YtlpcnaeknbmjdaaGreat.Sy (Let Blk)
structure I where
 op : Int
 rd : Int
 rn : Int
 rm : Int
 imm : Int
 cond : Int
 deriving DecidableEq
def I.cells (i : I) : List Value := [.int .i64 i.op, .int .i64 i.rd, .int .i64 i.rn, .int .i64 i.rm, .int .i64 i.imm, .int .i64 i.cond]
def insCells (l : List I) : List Value := l.flatMap I.cells
def movk (r x : Int) (i : Int) : List I := if x = 0 then [] else [⟨2, r, 0, 0, x, i⟩]
def numL (r v : Int) : List I := ⟨1, r, 0, 0, v % 65536, 0⟩ :: (movk r (v / 65536 % 65536) 1 ++ (movk r (v / 4294967296 % 65536) 2 ++ movk r (v / 281474976710656 % 65536) 3))
def goodU (v : Int) : Prop := 0 ≤ v ∧ v < 18446744073709551616
abbrev tI : TypeId := 49
def numC (r v : Int) : Sy.CallC := ⟨159, #[.int .i64 r, .int .u64 v], goodU v, ⟨[], [], 2, []⟩, [Sy.rowO tI 6 (numL r v).length (insCells (numL r v)) id]⟩
def rnum0 (r v : Int) : Sy.CallC := ⟨138, #[.slice none 0 0, .int .i64 r, .int .u64 v], goodU v, ⟨[], [], 2, []⟩, [Sy.rowO tI 6 (numL r v).length (insCells (numL r v)) id]⟩
def rnumA (g n cap : Nat) (xs : List Value) (r v : Int) : Sy.CallC := ⟨138, #[.slice (some ⟨g, 0, none⟩) n cap, .int .i64 r, .int .u64 v], goodU v ∧ n ≤ 1000000, ⟨[], [(g, .row tI 6 n cap xs)], 2, []⟩,
 [Sy.rowO tI 6 (n + (numL r v).length) (xs ++ insCells (numL r v)) id]⟩
def rnum0_o : Sy.O := (steps [0, 0, 0, 0, 0, 0, 0, 0, 0, 0, 0, 0] (fork (steps [0, 0, 0, 1, 0, 0, 0, 0, 0, 0, 0, 0, 0, 0, 0] (fork (steps [0, 0, 0, 1, 0, 0, 0, 0, 0, 0, 0, 0, 0, 0, 0] (fork (steps [0, 0, 0, 1, 0, 0, 0, 0, 0, 0, 0, 0, 0, 0, 0] nil) (steps [0] nil))) (steps [0] (fork (steps [0, 0, 0, 1, 0, 0, 0, 0, 0, 0, 0, 0, 0, 0, 0] nil) (steps [0] nil))))) (steps [0] (fork (steps [0, 0, 0, 1, 0, 0, 0, 0, 0, 0, 0, 0, 0, 0, 0] (fork (steps [0, 0, 0, 1, 0, 0, 0, 0, 0, 0, 0, 0, 0, 0, 0] nil) (steps [0] nil))) (steps [0] (fork (steps [0, 0, 0, 1, 0, 0, 0, 0, 0, 0, 0, 0, 0, 0, 0] nil) (steps [0] nil)))))))
noncomputable def rnum0_R (r v : Int) (ns : Nat → Sy.Let) : Sy.Res (Value × List Blk) :=
 let z0 := nat_lit 65536
 let z1 := Ex.wrapQ .u64 (Ex.quoQ v z0)
 let z2 := ns 5
 let z3 := Nat.le 2 z2.n
 let z4 := Ex.wrapQ .u64 (Ex.quoQ z1 z0)
 let z5 := !Ex.eqQ (Ex.remQ z4 z0) 0
 let z6 := ns 8
 let z7 := Nat.le 3 z6.n
 let z8 := Ex.remQ (Ex.wrapQ .u64 (Ex.quoQ z4 z0)) z0
 let z9 := !Ex.eqQ z8 0
 let z10 := Ex.wrapQ .i64 (Ex.remQ v z0)
 let z11 := Ex.wrapQ .i64 (Ex.remQ z1 z0)
 let z12 := Ex.wrapQ .i64 (Ex.remQ z4 z0)
 let z13 := Ex.wrapQ .i64 z8
 let z14 := Sy.Cont.obj (Obj.cells (Array.mk [.int .i64 2, .int .i64 r, .int .i64 0, .int .i64 0, .int .i64 z13, .int .i64 3]) 49)
 let z15 := Sy.Cont.obj (Obj.cells (Array.mk [.int .i64 2, .int .i64 r, .int .i64 0, .int .i64 0, .int .i64 z12, .int .i64 2]) 49)
 let z16 := ns 3
 let z17 := Sy.Cont.obj (Obj.cells (Array.mk [.int .i64 2, .int .i64 r, .int .i64 0, .int .i64 0, .int .i64 z11, .int .i64 1]) 49)
 let z18 := ns 0
 let z19 := [Value.int .i64 1, Value.int .i64 r, Value.int .i64 0, Value.int .i64 0, Value.int .i64 z10, Value.int .i64 0]
 let z20 := Sy.Cont.obj (Obj.cells (Array.mk z19) 49)
 let z21 := some (Addr.mk (ns 7).n 0 none)
 let z22 := some (Addr.mk (ns 4).n 0 none)
 hyp (Nat.le 1 (ns 2).n) (br (!Ex.eqQ (Ex.remQ z1 z0) 0) (hyp z3 (br z5 (hyp z7 (br z9 (hyp (Nat.le 4 (ns 11).n) (leaf (Value.slice (some ⟨(ns 10).n, 0, none⟩) 4 (ns 11).n, [Blk.mk (ns 10).n (Sy.Cont.row 49 6 4 (ns 11).n [Value.int .i64 1, Value.int .i64 r, Value.int .i64 0, Value.int .i64 0, Value.int .i64 z10, Value.int .i64 0, Value.int .i64 2, Value.int .i64 r, Value.int .i64 0, Value.int .i64 0, Value.int .i64 z11, Value.int .i64 1, Value.int .i64 2, Value.int .i64 r, Value.int .i64 0, Value.int .i64 0, Value.int .i64 z12, Value.int .i64 2, Value.int .i64 2, Value.int .i64 r, Value.int .i64 0, Value.int .i64 0, Value.int .i64 z13, Value.int .i64 3]) true, Blk.mk (ns 9).n z14 true, Blk.mk (ns 6).n z15 true, Blk.mk z16.n z17 true, Blk.mk z18.n z20 true]))) (leaf (Value.slice z21 3 z6.n, [Blk.mk (ns 7).n (Sy.Cont.row 49 6 3 z6.n [Value.int .i64 1, Value.int .i64 r, Value.int .i64 0, Value.int .i64 0, Value.int .i64 z10, Value.int .i64 0, Value.int .i64 2, Value.int .i64 r, Value.int .i64 0, Value.int .i64 0, Value.int .i64 z11, Value.int .i64 1, Value.int .i64 2, Value.int .i64 r, Value.int .i64 0, Value.int .i64 0, Value.int .i64 z12, Value.int .i64 2]) true, Blk.mk (ns 6).n z15 true, Blk.mk z16.n z17 true, Blk.mk z18.n z20 true])))) (br z9 (hyp z7 (leaf (Value.slice z21 3 z6.n, [Blk.mk (ns 7).n (Sy.Cont.row 49 6 3 z6.n [Value.int .i64 1, Value.int .i64 r, Value.int .i64 0, Value.int .i64 0, Value.int .i64 z10, Value.int .i64 0, Value.int .i64 2, Value.int .i64 r, Value.int
 .i64 0, Value.int .i64 0, Value.int .i64 z11, Value.int .i64 1, Value.int .i64 2, Value.int .i64 r, Value.int .i64 0, Value.int .i64 0, Value.int .i64 z13, Value.int .i64 3]) true, Blk.mk (ns 6).n z14 true, Blk.mk z16.n z17 true, Blk.mk z18.n z20 true]))) (leaf (Value.slice z22 2 z2.n, [Blk.mk (ns 4).n (Sy.Cont.row 49 6 2 z2.n [Value.int .i64 1, Value.int .i64 r, Value.int .i64 0, Value.int .i64 0, Value.int .i64 z10, Value.int .i64 0, Value.int .i64 2, Value.int .i64 r, Value.int .i64 0, Value.int .i64 0, Value.int .i64 z11, Value.int .i64 1]) true, Blk.mk z16.n z17 true, Blk.mk z18.n z20 true]))))) (br z5 (hyp z3 (br z9 (hyp z7 (leaf (Value.slice z21 3 z6.n, [Blk.mk (ns 7).n (Sy.Cont.row 49 6 3 z6.n [Value.int .i64 1, Value.int .i64 r, Value.int .i64 0, Value.int .i64 0, Value.int .i64 z10, Value.int .i64 0, Value.int .i64 2, Value.int .i64 r, Value.int .i64 0, Value.int .i64 0, Value.int .i64 z12, Value.int .i64 2, Value.int .i64 2, Value.int .i64 r, Value.int .i64 0, Value.int .i64 0, Value.int .i64 z13, Value.int .i64 3]) true, Blk.mk (ns 6).n z14 true, Blk.mk z16.n z15 true, Blk.mk z18.n z20 true]))) (leaf (Value.slice z22 2 z2.n, [Blk.mk (ns 4).n (Sy.Cont.row 49 6 2 z2.n [Value.int .i64 1, Value.int .i64 r, Value.int .i64 0, Value.int .i64 0, Value.int .i64 z10, Value.int .i64 0, Value.int .i64 2, Value.int .i64 r, Value.int .i64 0, Value.int .i64 0, Value.int .i64 z12, Value.int .i64 2]) true, Blk.mk z16.n z15 true, Blk.mk z18.n z20 true])))) (br z9 (hyp z3 (leaf
 (Value.slice z22 2 z2.n, [Blk.mk (ns 4).n (Sy.Cont.row 49 6 2 z2.n [Value.int .i64 1, Value.int .i64 r, Value.int .i64 0, Value.int .i64 0, Value.int .i64 z10, Value.int .i64 0, Value.int .i64 2, Value.int .i64 r, Value.int .i64 0, Value.int .i64 0, Value.int .i64 z13, Value.int .i64 3]) true, Blk.mk z16.n z14 true, Blk.mk z18.n z20 true]))) (leaf (Value.slice (some ⟨(ns 1).n, 0, none⟩) 1 (ns 2).n, [Blk.mk (ns 1).n (Sy.Cont.row 49 6 1 (ns 2).n z19) true, Blk.mk z18.n z20 true])))))
theorem rnum0_run (r v : Int) : Sy.Ran (Sy.inT Tryz.prog Sy.S0 100 138 #[.slice none 0 0, .int .i64 r, .int .u64 v] [] (Sy.rowT tI)) rnum0_o (rnum0_R r v) := ⟨fun _ => by kernel_rfl, fun _ => by kernel_rfl⟩
def rnumA_o : Sy.O := (steps [0, 0, 0, 1, 0, 1, 1, 0, 0, 0, 0, 0, 0, 0, 0] (fork (steps [0, 0, 0, 1, 0, 1, 1, 0, 0, 0, 0, 0, 0, 0, 0] (fork (steps [0, 0, 0, 1, 0, 1, 1, 0, 0, 0, 0, 0, 0, 0, 0] (fork (steps [0, 0, 0, 1, 0, 1, 1, 0, 0, 0, 0, 0, 0, 0, 0] nil) (steps [0] nil))) (steps [0] (fork (steps [0, 0, 0, 1, 0, 1, 1, 0, 0, 0, 0, 0, 0, 0, 0] nil) (steps [0] nil))))) (steps [0] (fork (steps [0, 0, 0, 1, 0, 1, 1, 0, 0, 0, 0, 0, 0, 0, 0] (fork (steps [0, 0, 0, 1, 0, 1, 1, 0, 0, 0, 0, 0, 0, 0, 0] nil) (steps [0] nil))) (steps [0] (fork (steps [0, 0, 0, 1, 0, 1, 1, 0, 0, 0, 0, 0, 0, 0, 0] nil) (steps [0] nil)))))))
noncomputable def rnumA_R (g n cap : Nat) (xs : List Value) (r v : Int) (ns : Nat → Sy.Let) : Sy.Res (Value × List Blk) :=
 let z0 := n + 1
 let z1 := nat_lit 65536
 let z2 := Ex.wrapQ .u64 (Ex.quoQ v z1)
 let z3 := n + 1 + (1 : Nat) ≤ 9223372036854775807
 let z4 := n + 1 + 1
 let z5 := z4 * (48 : Nat) ≤ 140737488355328
 let z6 := ns 5
 let z7 := Nat.le z4 z6.n
 let z8 := Ex.wrapQ .u64 (Ex.quoQ z2 z1)
 let z9 := !Ex.eqQ (Ex.remQ z8 z1) 0
 let z10 := n + 1 + 1 + (1 : Nat) ≤ 9223372036854775807
 let z11 := n + 1 + 1 + 1
 let z12 := z11 * (48 : Nat) ≤ 140737488355328
 let z13 := ns 8
 let z14 := Nat.le z11 z13.n
 let z15 := Ex.remQ (Ex.wrapQ .u64 (Ex.quoQ z8 z1)) z1
 let z16 := !Ex.eqQ z15 0
 let z17 := n + 1 + 1 + 1 + 1
 let z18 := [Value.int .i64 1, Value.int .i64 r, Value.int .i64 0, Value.int .i64 0, Value.int .i64 (Ex.wrapQ .i64 (Ex.remQ v z1)), Value.int .i64 0]
 let z19 := xs.append z18
 let z20 := [Value.int .i64 2, Value.int .i64 r, Value.int .i64 0, Value.int .i64 0, Value.int .i64 (Ex.wrapQ .i64 (Ex.remQ z2 z1)), Value.int .i64 1]
 let z21 := z19.append z20
 let z22 := [Value.int .i64 2, Value.int .i64 r, Value.int .i64 0, Value.int .i64 0, Value.int .i64 (Ex.wrapQ .i64 (Ex.remQ z8 z1)), Value.int .i64 2]
 let z23 := z21.append z22
 let z24 := [Value.int .i64 2, Value.int .i64 r, Value.int .i64 0, Value.int .i64 0, Value.int .i64 (Ex.wrapQ .i64 z15), Value.int .i64 3]
 let z25 := Sy.Cont.obj (Obj.cells (Array.mk z24) 49)
 let z26 := Sy.Cont.obj (Obj.cells (Array.mk z22) 49)
 let z27 := ns 3
 let z28 := Sy.Cont.obj (Obj.cells (Array.mk z20) 49)
 let z29 := ns 0
 let z30 := Sy.Cont.obj (Obj.cells (Array.mk z18) 49)
 let z31 := some (Addr.mk (ns 7).n 0 none)
 let z32 := some (Addr.mk (ns 4).n 0 none)
 let z33 := z19.append z22
 need (n + (1 : Nat) ≤ 9223372036854775807) (need (z0 * (48 : Nat) ≤ 140737488355328) (hyp (Nat.le z0 (ns 2).n) (br (!Ex.eqQ (Ex.remQ z2 z1) 0) (need z3 (need z5 (hyp z7 (br z9 (need z10 (need z12 (hyp z14 (br z16 (need (n + 1 + 1 + 1 + (1 : Nat) ≤ 9223372036854775807) (need (z17 * (48 : Nat) ≤ 140737488355328) (hyp (Nat.le z17 (ns 11).n) (leaf (Value.slice (some ⟨(ns 10).n, 0, none⟩) z17 (ns 11).n, [Blk.mk (ns 10).n (Sy.Cont.row 49 6 z17 (ns 11).n (z23.append z24)) true, Blk.mk (ns 9).n z25 true, Blk.mk (ns 6).n z26 true, Blk.mk z27.n z28 true, Blk.mk z29.n z30 true]))))) (leaf (Value.slice z31 z11 z13.n, [Blk.mk (ns 7).n (Sy.Cont.row 49 6 z11 z13.n z23) true, Blk.mk (ns 6).n z26 true, Blk.mk z27.n z28 true, Blk.mk z29.n z30 true])))))) (br z16 (need z10 (need z12 (hyp z14 (leaf (Value.slice z31 z11 z13.n, [Blk.mk (ns 7).n (Sy.Cont.row 49 6 z11 z13.n (z21.append z24)) true, Blk.mk (ns 6).n z25 true, Blk.mk z27.n z28 true, Blk.mk z29.n z30 true]))))) (leaf (Value.slice z32 z4 z6.n, [Blk.mk (ns 4).n (Sy.Cont.row 49 6 z4 z6.n z21) true, Blk.mk z27.n z28 true, Blk.mk z29.n z30 true]))))))) (br z9 (need z3 (need z5 (hyp z7 (br z16 (need z10 (need z12 (hyp z14 (leaf (Value.slice z31 z11 z13.n, [Blk.mk (ns 7).n (Sy.Cont.row 49 6 z11 z13.n (z33.append z24)) true, Blk.mk (ns 6).n z25 true, Blk.mk z27.n z26 true, Blk.mk z29.n z30 true]))))) (leaf (Value.slice z32 z4 z6.n, [Blk.mk (ns 4).n (Sy.Cont.row 49 6 z4 z6.n z33) true, Blk.mk z27.n z26 true, Blk.mk z29.n z30 true])))))) (br z16
 (need z3 (need z5 (hyp z7 (leaf (Value.slice z32 z4 z6.n, [Blk.mk (ns 4).n (Sy.Cont.row 49 6 z4 z6.n (z19.append z24)) true, Blk.mk z27.n z25 true, Blk.mk z29.n z30 true]))))) (leaf (Value.slice (some ⟨(ns 1).n, 0, none⟩) z0 (ns 2).n, [Blk.mk (ns 1).n (Sy.Cont.row 49 6 z0 (ns 2).n z19) true, Blk.mk z29.n z30 true])))))))
theorem rnumA_run (g n cap : Nat) (xs : List Value) (r v : Int) : Sy.Ran (Sy.inT Tryz.prog Sy.S0 100 138 #[.slice (some ⟨g, 0, none⟩) n cap, .int .i64 r, .int .u64 v] [⟨g, .row tI 6 n cap xs, true⟩] (Sy.rowT tI)) rnumA_o (rnumA_R g n cap xs r v) := ⟨fun _ => by kernel_rfl, fun _ => by kernel_rfl⟩
def num_o : Sy.O := (steps [0, 0] (fork (steps [0, 0, 0, 1, 0, 0, 0, 0, 0, 0, 0, 0, 0, 0, 0, 0] (fork (steps [0, 0, 0, 1, 0, 0, 0, 0, 0, 0, 0, 0, 0, 0, 0, 0] (fork (steps [0, 0, 0, 1, 0, 0, 0, 0, 0, 0, 0, 0, 0, 0, 0] nil) (steps [0] nil))) (steps [0, 0] (fork (steps [0, 0, 0, 1, 0, 0, 0, 0, 0, 0, 0, 0, 0, 0, 0] nil) (steps [0] nil))))) (steps [0, 0] (fork (steps [0, 0, 0, 1, 0, 0, 0, 0, 0, 0, 0, 0, 0, 0, 0, 0] (fork (steps [0, 0, 0, 1, 0, 0, 0, 0, 0, 0, 0, 0, 0, 0, 0] nil) (steps [0] nil))) (steps [0, 0] (fork (steps [0, 0, 0, 1, 0, 0, 0, 0, 0, 0, 0, 0, 0, 0, 0] nil) (steps [0] nil)))))))
noncomputable def num_R (r v : Int) (ns : Nat → Sy.Let) : Sy.Res (Value × List Blk) :=
 let z0 := Ex.andQ .u64 (Ex.shrQ .u64 v 16) 65535
 let z1 := ns 3
 let z2 := Nat.le 2 z1.n
 let z3 := Ex.andQ .u64 (Ex.shrQ .u64 v 32) 65535
 let z4 := !Ex.eqQ z3 0
 let z5 := ns 6
 let z6 := Nat.le 3 z5.n
 let z7 := Ex.andQ .u64 (Ex.shrQ .u64 v 48) 65535
 let z8 := !Ex.eqQ z7 0
 let z9 := Ex.wrapQ .i64 (Ex.andQ .u64 v 65535)
 let z10 := Ex.wrapQ .i64 z0
 let z11 := Ex.wrapQ .i64 z3
 let z12 := Ex.wrapQ .i64 z7
 let z13 := Sy.Cont.obj (Obj.cells (Array.mk [.int .i64 2, .int .i64 r, .int .i64 0, .int .i64 0, .int .i64 z12, .int .i64 3]) 49)
 let z14 := Sy.Cont.obj (Obj.cells (Array.mk [.int .i64 2, .int .i64 r, .int .i64 0, .int .i64 0, .int .i64 z11, .int .i64 2]) 49)
 let z15 := ns 1
 let z16 := Sy.Cont.obj (Obj.cells (Array.mk [.int .i64 2, .int .i64 r, .int .i64 0, .int .i64 0, .int .i64 z10, .int .i64 1]) 49)
 let z17 := some (Addr.mk (ns 5).n 0 none)
 let z18 := some (Addr.mk (ns 2).n 0 none)
 br (!Ex.eqQ z0 0) (hyp z2 (br z4 (hyp z6 (br z8 (hyp (Nat.le 4 (ns 9).n) (leaf (Value.slice (some ⟨(ns 8).n, 0, none⟩) 4 (ns 9).n, [Blk.mk (ns 8).n (Sy.Cont.row 49 6 4 (ns 9).n [Value.int .i64 1, Value.int .i64 r, Value.int .i64 0, Value.int .i64 0, Value.int .i64 z9, Value.int .i64 0, Value.int .i64 2, Value.int .i64 r, Value.int .i64 0, Value.int .i64 0, Value.int .i64 z10, Value.int .i64 1, Value.int .i64 2, Value.int .i64 r, Value.int .i64 0, Value.int .i64 0, Value.int .i64 z11, Value.int .i64 2, Value.int .i64 2, Value.int .i64 r, Value.int .i64 0, Value.int .i64 0, Value.int .i64 z12, Value.int .i64 3]) true, Blk.mk (ns 7).n z13 true, Blk.mk (ns 4).n z14 true, Blk.mk z15.n z16 true]))) (leaf (Value.slice z17 3 z5.n, [Blk.mk (ns 5).n (Sy.Cont.row 49 6 3 z5.n [Value.int .i64 1, Value.int .i64 r, Value.int .i64 0, Value.int .i64 0, Value.int .i64 z9, Value.int .i64 0, Value.int .i64 2, Value.int .i64 r, Value.int .i64 0, Value.int .i64 0, Value.int .i64 z10, Value.int .i64 1, Value.int .i64 2, Value.int .i64 r, Value.int .i64 0, Value.int .i64 0, Value.int .i64 z11, Value.int .i64 2]) true, Blk.mk (ns 4).n z14 true, Blk.mk z15.n z16 true])))) (br z8 (hyp z6 (leaf (Value.slice z17 3 z5.n, [Blk.mk (ns 5).n (Sy.Cont.row 49 6 3 z5.n [Value.int .i64 1, Value.int .i64 r, Value.int .i64 0, Value.int .i64 0, Value.int .i64 z9, Value.int .i64 0, Value.int .i64 2, Value.int .i64 r, Value.int .i64 0, Value.int .i64 0, Value.int .i64 z10, Value.int .i64 1, Value.int .i64 2, Value.int
 .i64 r, Value.int .i64 0, Value.int .i64 0, Value.int .i64 z12, Value.int .i64 3]) true, Blk.mk (ns 4).n z13 true, Blk.mk z15.n z16 true]))) (leaf (Value.slice z18 2 z1.n, [Blk.mk (ns 2).n (Sy.Cont.row 49 6 2 z1.n [Value.int .i64 1, Value.int .i64 r, Value.int .i64 0, Value.int .i64 0, Value.int .i64 z9, Value.int .i64 0, Value.int .i64 2, Value.int .i64 r, Value.int .i64 0, Value.int .i64 0, Value.int .i64 z10, Value.int .i64 1]) true, Blk.mk z15.n z16 true]))))) (br z4 (hyp z2 (br z8 (hyp z6 (leaf (Value.slice z17 3 z5.n, [Blk.mk (ns 5).n (Sy.Cont.row 49 6 3 z5.n [Value.int .i64 1, Value.int .i64 r, Value.int .i64 0, Value.int .i64 0, Value.int .i64 z9, Value.int .i64 0, Value.int .i64 2, Value.int .i64 r, Value.int .i64 0, Value.int .i64 0, Value.int .i64 z11, Value.int .i64 2, Value.int .i64 2, Value.int .i64 r, Value.int .i64 0, Value.int .i64 0, Value.int .i64 z12, Value.int .i64 3]) true, Blk.mk (ns 4).n z13 true, Blk.mk z15.n z14 true]))) (leaf (Value.slice z18 2 z1.n, [Blk.mk (ns 2).n (Sy.Cont.row 49 6 2 z1.n [Value.int .i64 1, Value.int .i64 r, Value.int .i64 0, Value.int .i64 0, Value.int .i64 z9, Value.int .i64 0, Value.int .i64 2, Value.int .i64 r, Value.int .i64 0, Value.int .i64 0, Value.int .i64 z11, Value.int .i64 2]) true, Blk.mk z15.n z14 true])))) (br z8 (hyp z2 (leaf (Value.slice z18 2 z1.n, [Blk.mk (ns 2).n (Sy.Cont.row 49 6 2 z1.n [Value.int .i64 1, Value.int .i64 r, Value.int .i64 0, Value.int .i64 0, Value.int .i64 z9, Value.int .i64 0, Value.int .i64
 2, Value.int .i64 r, Value.int .i64 0, Value.int .i64 0, Value.int .i64 z12, Value.int .i64 3]) true, Blk.mk z15.n z13 true]))) (leaf (Value.slice (some ⟨(ns 0).n, 0, none⟩) 1 1, [Blk.mk (ns 0).n (.obj (.cells (Array.mk [.int .i64 1, .int .i64 r, .int .i64 0, .int .i64 0, .int .i64 z9, .int .i64 0]) 49)) true]))))
theorem num_run (r v : Int) : Sy.Ran (Sy.inT Tryz.prog Sy.S0 100 159 #[.int .i64 r, .int .u64 v] [] (Sy.rowT tI)) num_o (num_R r v) := ⟨fun _ => by kernel_rfl, fun _ => by kernel_rfl⟩
theorem and16 {v : Int} (h : goodU v) : Ex.wrapQ .i64 (Ex.andQ .u64 v 65535) = v % 65536 := by
 unfold goodU at h
 obtain ⟨n, rfl⟩ : ∃ n : Nat, v = n := ⟨v.toNat, by omega⟩
 rw [Ex.andQ_eq, Ex.wrapQ_eq]
 have : ((BitVec.ofInt 64 (n : Int) &&& BitVec.ofInt 64 65535).toNat : Int) = (n : Int) % 65536 := by
  have e : (BitVec.ofInt 64 (n : Int) &&& BitVec.ofInt 64 65535).toNat = n % 65536 := by
   have h1 : (BitVec.ofInt 64 (n : Int)).toNat = n := by
    rw [BitVec.toNat_ofInt]; omega
   rw [BitVec.toNat_and, h1]
   exact Nat.and_two_pow_sub_one_eq_mod n 16
  rw [e]; omega
 show IntKind.i64.wrap (IntKind.u64.wrap ((BitVec.ofInt 64 (n : Int) &&& BitVec.ofInt 64 65535).toNat : Int)) = _
 rw [this]
 simp [IntKind.wrap, IntKind.signed, IntKind.bits]
 omega
theorem shand {v : Int} (h : goodU v) (k : Nat) (hk : k < 64) : Ex.andQ .u64 (Ex.shrQ .u64 v k) 65535 = v / (2 ^ k : Nat) % 65536 := by
 unfold goodU at h
 obtain ⟨n, rfl⟩ : ∃ n : Nat, v = n := ⟨v.toNat, by omega⟩
 have hs : Ex.shrQ .u64 (n : Int) k = ((n / 2 ^ k : Nat) : Int) := by
  rw [Ex.shrQ_eq]
  have : min k IntKind.u64.bits = k := by simp [IntKind.bits]; omega
  rw [this]
  have : ((2 : Int) ^ k) = ((2 ^ k : Nat) : Int) := by simp
  rw [this]
  exact (Int.ofNat_fdiv n (2 ^ k)).symm
 rw [hs, Ex.andQ_eq]
 have hm : n / 2 ^ k < 18446744073709551616 := Nat.lt_of_le_of_lt (Nat.div_le_self _ _) (by omega)
 generalize hj : n / 2 ^ k = m at *
 have e : (BitVec.ofInt 64 (m : Int) &&& BitVec.ofInt 64 65535).toNat = m % 65536 := by
  have h1 : (BitVec.ofInt 64 (m : Int)).toNat = m := by
   rw [BitVec.toNat_ofInt]; omega
  rw [BitVec.toNat_and, h1]
  exact Nat.and_two_pow_sub_one_eq_mod m 16
 show IntKind.u64.wrap ((BitVec.ofInt 64 (m : Int) &&& BitVec.ofInt 64 65535).toNat : Int) = _
 rw [e]
 have : (n : Int) / ((2 ^ k : Nat) : Int) = (m : Int) := by rw [← hj]; simp
 rw [this]
 simp [IntKind.wrap, IntKind.signed, IntKind.bits]
 omega
theorem wrap16 (x : Int) : Ex.wrapQ .i64 (x % 65536) = x % 65536 := by
 rw [Ex.wrapQ_eq]
 simp [IntKind.wrap, IntKind.signed, IntKind.bits]
 omega
theorem tst_t (x : Int) : ((!Ex.eqQ x 0) = true) = ¬ (x = 0) := by rw [Ex.eqQ_eq]; simp
theorem tst_f (x : Int) : ((!Ex.eqQ x 0) = false) = (x = 0) := by rw [Ex.eqQ_eq]; simp
theorem quo16 {v : Int} (h : goodU v) : Ex.wrapQ .u64 (Ex.quoQ v 65536) = v / 65536 := by
 unfold goodU at h
 obtain ⟨n, rfl⟩ : ∃ n : Nat, v = n := ⟨v.toNat, by omega⟩
 rw [Ex.wrapQ_eq, Ex.quoQ_eq]
 show IntKind.u64.wrap (((n / 65536 : Nat) : Int)) = _
 simp [IntKind.wrap, IntKind.signed, IntKind.bits]
 omega
theorem rem16 {v : Int} (h : goodU v) : Ex.remQ v 65536 = v % 65536 := by
 unfold goodU at h
 obtain ⟨n, rfl⟩ : ∃ n : Nat, v = n := ⟨v.toNat, by omega⟩
 rw [Ex.remQ_eq]
 show ((n % 65536 : Nat) : Int) = _
 omega
theorem good_quo {v : Int} (h : goodU v) : goodU (v / 65536) := by unfold goodU at *; omega
theorem rnum_eqs {v : Int} (h : goodU v) : Ex.remQ v 65536 = v % 65536 ∧ Ex.wrapQ .u64 (Ex.quoQ v 65536) = v / 65536 ∧ Ex.remQ (v / 65536) 65536 = v / 65536 % 65536 ∧ Ex.wrapQ .u64 (Ex.quoQ (v / 65536) 65536) = v / 4294967296 ∧ Ex.remQ (v / 4294967296) 65536 = v / 4294967296 % 65536 ∧
  Ex.wrapQ .u64 (Ex.quoQ (v / 4294967296) 65536) = v / 281474976710656 ∧ Ex.remQ (v / 281474976710656) 65536 = v / 281474976710656 % 65536 := by
 have e1 : v / 65536 / 65536 = v / 4294967296 := by omega
 have e2 : v / 4294967296 / 65536 = v / 281474976710656 := by omega
 have g1 := good_quo h
 have g2 := good_quo g1
 rw [e1] at g2
 have g3 := good_quo g2
 rw [e2] at g3
 exact ⟨rem16 h, quo16 h, rem16 g1, by rw [quo16 g1, e1], rem16 g2, by rw [quo16 g2, e2], rem16 g3⟩
theorem rnum0_met (r v : Int) : Sy.Meets Tryz.prog (rnum0 r v) := by
 refine Sy.meets_of Sy.S0_holds mixed (rnum0_run r v) fun hok ns => ?_
 obtain ⟨h1, h2, h3, h4, h5, h6, h7⟩ := rnum_eqs (show goodU v from hok)
 simp only [rnum0_R, Sy.Res.holds, Int.ofNat_eq_natCast, h1, h2, h3, h4, h5, h6, h7, wrap16, tst_t, tst_f]
 unfold rnum0 numL movk
 refine fun hc0 => ⟨fun c1 hc1 => ⟨fun c2 hc2 => ⟨fun c3 hc3 => ?_, fun c3 => ?_⟩, fun c2 => ⟨fun c3 hc3 => ?_, fun c3 => ?_⟩⟩, fun c1 => ⟨fun c2 hc2 => ⟨fun c3 hc3 => ?_, fun c3 => ?_⟩, fun c2 => ⟨fun c3 hc3 => ?_, fun c3 => ?_⟩⟩⟩
 all_goals
  simp only [c1, c2, c3, if_true, if_false]
  exact Sy.rowO_leaf' (Sy.mS _) rfl 0 rfl rfl rfl rfl (by assumption)
theorem rnumA_met (g n cap : Nat) (xs : List Value) (r v : Int) : Sy.Meets Tryz.prog (rnumA g n cap xs r v) := by
 refine Sy.meets_of Sy.S0_holds mixed (rnumA_run g n cap xs r v) fun hok ns => ?_
 obtain ⟨hok, hn⟩ := hok
 obtain ⟨h1, h2, h3, h4, h5, h6, h7⟩ := rnum_eqs (show goodU v from hok)
 simp only [rnumA_R, Sy.Res.holds, Int.ofNat_eq_natCast, h1, h2, h3, h4, h5, h6, h7, wrap16, tst_t, tst_f]
 unfold rnumA numL movk
 refine ⟨by omega, by omega, fun hc0 => ⟨fun c1 => ⟨by omega, by omega, fun hc1 => ⟨fun c2 => ⟨by omega, by omega, fun hc2 => ⟨fun c3 => ⟨by omega, by omega, fun hc3 => ?_⟩, fun c3 => ?_⟩⟩, fun c2 => ⟨fun c3 => ⟨by omega, by omega, fun hc3 => ?_⟩, fun c3 => ?_⟩⟩⟩,
  fun c1 => ⟨fun c2 => ⟨by omega, by omega, fun hc2 => ⟨fun c3 => ⟨by omega, by omega, fun hc3 => ?_⟩, fun c3 => ?_⟩⟩, fun c2 => ⟨fun c3 => ⟨by omega, by omega, fun hc3 => ?_⟩, fun c3 => ?_⟩⟩⟩⟩
 all_goals
  simp only [c1, c2, c3, if_true, if_false]
  exact Sy.rowO_leaf' (Sy.mS _) rfl 0 rfl rfl (by simp) (by simp [insCells, I.cells]) (by assumption)
theorem numC_met (r v : Int) : Sy.Meets Tryz.prog (numC r v) := by
 refine Sy.meets_of Sy.S0_holds mixed (num_run r v) fun hok ns => ?_
 have h1 : Ex.andQ .u64 (Ex.shrQ .u64 v 16) 65535 = v / 65536 % 65536 := shand hok 16 (by omega)
 have h2 : Ex.andQ .u64 (Ex.shrQ .u64 v 32) 65535 = v / 4294967296 % 65536 := shand hok 32 (by omega)
 have h3 : Ex.andQ .u64 (Ex.shrQ .u64 v 48) 65535 = v / 281474976710656 % 65536 := shand hok 48 (by omega)
 have h0 := and16 (show goodU v from hok)
 simp only [num_R, Sy.Res.holds, Int.ofNat_eq_natCast, h0, h1, h2, h3, wrap16, tst_t, tst_f]
 unfold numC numL movk
 refine ⟨fun c1 hc1 => ⟨fun c2 hc2 => ⟨fun c3 hc3 => ?_, fun c3 => ?_⟩, fun c2 => ⟨fun c3 hc3 => ?_, fun c3 => ?_⟩⟩, fun c1 => ⟨fun c2 hc2 => ⟨fun c3 hc3 => ?_, fun c3 => ?_⟩, fun c2 => ⟨fun c3 hc3 => ?_, fun c3 => ?_⟩⟩⟩
 all_goals
  simp only [c1, c2, c3, if_true, if_false]
  refine Sy.rowO_leaf (Sy.mS _) rfl 0 rfl rfl ⟨rfl, rfl, ?_⟩ (by first | assumption | exact Nat.le_refl _)
  first | exact .inl rfl | exact .inr (.inl rfl)
open Go Go.RowKit
open Go.Proofs.YtlpcnaeknbmjdaaGreat.Sy (Let Blk)
abbrev fSame : FuncId := 15
def bodyS : Code := Sy.loopBody Tryz.f15 0
def slS (ga gb ca cb n m k : Nat) : List (Nat × Value) := [(0, .slice (some ⟨ga, 0, none⟩) n ca), (1, .slice (some ⟨gb, 0, none⟩) m cb), (4, .bool false), (5, .int .i64 k)]
def memS (ga gb : Nat) (xs ys : List Value) : List Blk := [⟨ga, .seg 0 xs, false⟩, ⟨gb, .seg 0 ys, false⟩]
def sameC (ga gb ca cb : Nat) (A B : List I) : Sy.CallC :=
 ⟨fSame, #[.slice (some ⟨ga, 0, none⟩) A.length ca, .slice (some ⟨gb, 0, none⟩) B.length cb], A.length ≤ 1000000000, ⟨[(ga, .seg 0 (insCells A)), (gb, .seg 0 (insCells B))], [], 0, []⟩, [Sy.plainO (.bool (decide (A = B)))]⟩
def loopS (ga gb ca cb : Nat) (A B : List I) : Sy.LoopC :=
 ⟨.loop bodyS, 26, slS ga gb ca cb A.length B.length 0, A.length = B.length ∧ A.length ≤ 1000000000, ⟨[(ga, .seg 0 (insCells A)), (gb, .seg 0 (insCells B))], [], 0, []⟩,
  [(⟨fun _ => A = B, fun _ => [], fun _ => []⟩, .exit 0, fun _ => []), (⟨fun _ => A ≠ B, fun _ => [], fun _ => []⟩, .ret, fun _ => [(4, .bool false)])]⟩
def ctxS (ga gb ca cb : Nat) (A B : List I) : Sy.Ctx := Sy.mkS [] [(fSame, fun _ _ => loopS ga gb ca cb A B)] []
def same_o : Sy.O := (steps [0, 0] (fork nil (steps [0, 0, 0, 0, 0, 0] (fork (steps [0, 0] nil) (steps [0, 0] nil)))))
noncomputable def same_R (ga gb ca cb : Nat) (A B : List I) (ns : Nat → Sy.Let) : Sy.Res (Value × List Blk) :=
 let z0 := leaf (Value.bool false, [])
 br (!Ex.eqQ (Int.ofNat (List.length A)) (Int.ofNat (List.length B))) z0 (need (List.length A = List.length B ∧ List.length A ≤ 1000000000) (both (hyp (A = B) (leaf (Value.bool true, []))) (hyp (A = B → False) z0)))
theorem same_run (ga gb ca cb : Nat) (A B : List I) : Sy.Ran (Sy.inT Tryz.prog (ctxS ga gb ca cb A B) 50 fSame (sameC ga gb ca cb A B).args (Sy.blks (sameC ga gb ca cb A B).mem) Sy.noB) same_o (same_R ga gb ca cb A B) := ⟨fun _ => by kernel_rfl, fun _ => by kernel_rfl⟩
def sameB_o : Sy.O := (steps [0] (fork (steps [1, 0, 0, 0, 1, 0, 1, 2, 0, 1, 3, 0, 0, 1, 1, 1, 1, 1, 1, 1, 1, 4, 5, 6, 0, 1, 7, 0, 1, 1, 1, 1, 1, 1, 1, 1, 1, 8] (fork nil nil)) nil))
noncomputable def sameB_R (ga gb ca cb n m k : Nat) (xs ys rest : List Value) (ns : Nat → Sy.Let) : Sy.Res (Exit × Nat × List Value × List Blk) :=
 let z0 := Sy.Cont.seg 0 xs
 let z1 := 0 + Int.toNat (↑k : Int) * 6
 let z2 := 0 + Int.toNat (↑k : Int) * 6 + 1
 let z3 := 0 + Int.toNat (↑k : Int) * 6 + 1 + 1
 let z4 := 0 + Int.toNat (↑k : Int) * 6 + 1 + 1 + 1
 let z5 := 0 + Int.toNat (↑k : Int) * 6 + 1 + 1 + 1 + 1
 let z6 := 0 + Int.toNat (↑k : Int) * 6 + 1 + 1 + 1 + 1 + 1
 let z7 := Sy.Cont.seg 0 ys
 let z8 := some (Addr.mk ga 0 none)
 let z9 := some (Addr.mk gb 0 none)
 let z10 := [Value.slice z8 n ca, Value.slice z9 m cb, Value.bool false, Value.int .i64 (↑k : Int)]
 br (Ex.ltQ (↑k : Int) (Int.ofNat n)) (need (0 ≤ (↑k : Int) ∧ (↑k : Int) < (↑n : Int)) (need (∃ (i : Int), Sy.Cont.at z0 z1 = some (Value.int .i64 i)) (hyp (Sy.Cont.at z0 z1 = some (Value.int .i64 (ns 0).i)) (need (∃ (i : Int), Sy.Cont.at z0 z2 = some (Value.int .i64 i)) (hyp (Sy.Cont.at z0 z2 = some (Value.int .i64 (ns 1).i)) (need (∃ (i : Int), Sy.Cont.at z0 z3 = some (Value.int .i64 i)) (hyp (Sy.Cont.at z0 z3 = some (Value.int .i64 (ns 2).i)) (need (∃ (i : Int), Sy.Cont.at z0 z4 = some (Value.int .i64 i)) (hyp (Sy.Cont.at z0 z4 = some (Value.int .i64 (ns 3).i)) (need (∃ (i : Int), Sy.Cont.at z0 z5 = some (Value.int .i64 i)) (hyp (Sy.Cont.at z0 z5 = some (Value.int .i64 (ns 4).i)) (need (∃ (i : Int), Sy.Cont.at z0 z6 = some (Value.int .i64 i)) (hyp (Sy.Cont.at z0 z6 = some (Value.int .i64 (ns 5).i)) (need (0 ≤ (↑k : Int) ∧ (↑k : Int) < (↑m : Int)) (need (∃ (i : Int), Sy.Cont.at z7 z1 = some (Value.int .i64 i)) (hyp (Sy.Cont.at z7 z1 = some (Value.int .i64 (ns 6).i)) (need (∃ (i : Int), Sy.Cont.at z7 z2 = some (Value.int .i64 i)) (hyp (Sy.Cont.at z7 z2 = some (Value.int .i64 (ns 7).i)) (need (∃ (i : Int), Sy.Cont.at z7 z3 = some (Value.int .i64 i)) (hyp (Sy.Cont.at z7 z3 = some (Value.int .i64 (ns 8).i)) (need (∃ (i : Int), Sy.Cont.at z7 z4 = some (Value.int .i64 i)) (hyp (Sy.Cont.at z7 z4 = some (Value.int .i64 (ns 9).i)) (need (∃ (i : Int), Sy.Cont.at z7 z5 = some (Value.int .i64 i)) (hyp (Sy.Cont.at z7 z5 = some (Value.int .i64 (ns 10).i)) (need (∃ (i : Int), Sy.Cont.at z7
 z6 = some (Value.int .i64 i)) (hyp (Sy.Cont.at z7 z6 = some (Value.int .i64 (ns 11).i)) (br (!(Ex.eqQ (ns 0).i (ns 6).i && (Ex.eqQ (ns 1).i (ns 7).i && (Ex.eqQ (ns 2).i (ns 8).i && (Ex.eqQ (ns 3).i (ns 9).i && (Ex.eqQ (ns 4).i (ns 10).i && (Ex.eqQ (ns 5).i (ns 11).i && true))))))) (leaf (Exit.ret, 26, z10, memS ga gb xs ys)) (leaf (Exit.normal, 26, [Value.slice z8 n ca, Value.slice z9 m cb, Value.bool false, Value.int .i64 (Ex.wrapQ .i64 (Ex.addQ (↑k : Int) 1))], memS ga gb xs ys))))))))))))))))))))))))))))) (leaf (Exit.exit 0, 26, z10, memS ga gb xs ys))
theorem sameB_run (ga gb ca cb n m k : Nat) (xs ys : List Value) (rest : List Value) : Sy.Ran (Sy.pieceT Tryz.prog Sy.S0 50 fSame bodyS 26 (slS ga gb ca cb n m k) rest (memS ga gb xs ys) [0, 1, 4, 5]) sameB_o (sameB_R ga gb ca cb n m k xs ys rest) := ⟨fun _ => by kernel_rfl, fun _ => by kernel_rfl⟩
theorem cells_at {α : Type} (f : α → List Value) (sz : Nat) (hf : ∀ x, (f x).length = sz) : ∀ {l : List α} {k : Nat} {x : α}, l[k]? = some x → ∀ j u, (f x)[j]? = some u → (l.flatMap f)[k * sz + j]? = some u
 | [], k, x, h, _, _, _ => by simp at h
 | y :: l, k, x, h, j, u, hu => by
   have hj : j < sz := by rw [← hf x]; exact (List.getElem?_eq_some_iff.1 hu).1
   rw [List.flatMap_cons]
   cases k with
   | zero =>
     simp only [List.getElem?_cons_zero, Option.some.injEq] at h
     subst h
     rw [List.getElem?_append_left (by rw [hf]; omega), Nat.zero_mul, Nat.zero_add]
     exact hu
   | succ k =>
     rw [List.getElem?_append_right (by rw [hf, Nat.succ_mul]; omega), hf]
     have := cells_at f sz hf (l := l) (k := k) (by simpa using h) j u hu
     rw [show (k + 1) * sz + j - sz = k * sz + j by rw [Nat.succ_mul]; omega]
     exact this
theorem seg_at {α : Type} (f : α → List Value) (sz : Nat) (hf : ∀ x, (f x).length = sz) {l : List α} {k : Nat} {x : α} (h : l[k]? = some x) (o j : Nat) {u : Value} (hu : (f x)[j]? = some u) : (Sy.Cont.seg o (l.flatMap f)).at (o + k * sz + j) = some u := by
 simp only [Sy.Cont.at]
 rw [if_pos (by omega), show o + k * sz + j - o = k * sz + j by omega]
 exact cells_at f sz hf h j u hu
theorem ins_at {l : List I} {k : Nat} {x : I} (h : l[k]? = some x) (o : Nat) :
  (Sy.Cont.seg o (insCells l)).at (o + Int.toNat (k : Int) * 6) = some (.int .i64 x.op) ∧ (Sy.Cont.seg o (insCells l)).at (o + Int.toNat (k : Int) * 6 + 1) = some (.int .i64 x.rd) ∧ (Sy.Cont.seg o (insCells l)).at (o + Int.toNat (k : Int) * 6 + 1 + 1) = some (.int .i64 x.rn) ∧
  (Sy.Cont.seg o (insCells l)).at (o + Int.toNat (k : Int) * 6 + 1 + 1 + 1) = some (.int .i64 x.rm) ∧ (Sy.Cont.seg o (insCells l)).at (o + Int.toNat (k : Int) * 6 + 1 + 1 + 1 + 1) = some (.int .i64 x.imm) ∧ (Sy.Cont.seg o (insCells l)).at (o + Int.toNat (k : Int) * 6 + 1 + 1 + 1 + 1 + 1) = some (.int .i64 x.cond) := by
 have hh := fun j u hu => seg_at I.cells 6 (fun _ => rfl) h o j (u := u) hu
 simp only [Int.toNat_natCast]
 exact ⟨hh 0 _ rfl, hh 1 _ rfl, hh 2 _ rfl, hh 3 _ rfl, hh 4 _ rfl, hh 5 _ rfl⟩
theorem some_int (k : IntKind) (a b : Int) : ((some (Value.int k a) : Option Value) = some (Value.int k b)) = (a = b) := by simp
theorem lt_t (a b : Int) : (Ex.ltQ a b = true) = (a < b) := by rw [Ex.ltQ_eq]; simp
theorem lt_f (a b : Int) : (Ex.ltQ a b = false) = ¬ (a < b) := by rw [Ex.ltQ_eq]; simp
theorem inc_i (k : Nat) (h : k < 1000000001) : Ex.wrapQ .i64 (Ex.addQ (k : Int) 1) = ((k + 1 : Nat) : Int) := by
 rw [Ex.wrapQ_eq, Ex.addQ_eq]
 simp [IntKind.wrap, IntKind.signed, IntKind.bits]
 omega
theorem I.ext_iff' (x y : I) : x = y ↔ x.op = y.op ∧ x.rd = y.rd ∧ x.rn = y.rn ∧ x.rm = y.rm ∧ x.imm = y.imm ∧ x.cond = y.cond := by
 cases x; cases y; simp
theorem loopS_met (ga gb ca cb : Nat) (A B : List I) : Sy.MeetsL Tryz.prog (loopS ga gb ca cb A B) := by
 refine Sy.loop_of (n := 50) (fn := fSame) Sy.S0_holds mixed (body := bodyS) rfl [0, 1, 4, 5] (fun k : Nat => slS ga gb ca cb A.length B.length k) (fun _ => memS ga gb (insCells A) (insCells B)) (fun k => k ≤ A.length ∧ A.length = B.length ∧ A.length ≤ 1000000000 ∧ A.take k = B.take k) (fun k => A.length - k)
  0 (fun h => ⟨Nat.zero_le _, h.1, h.2, rfl⟩) (fun p hp => hp) [0, 1] (by decide) rfl (o := fun _ => sameB_o) (R := fun k xs => sameB_R ga gb ca cb A.length B.length k (insCells A) (insCells B) xs) (fun k xs _ => sameB_run ga gb ca cb A.length B.length k (insCells A) (insCells B) xs) ?_
 rintro - k rest ⟨hk, hl, hm, ht⟩ ns
 simp only [sameB_R, Sy.Res.holds, Int.ofNat_eq_natCast, lt_t, lt_f]
 refine ⟨fun hlt => ?_, fun hge => ?_⟩
 ·have hlt : k < A.length := by omega
  have ea : A[k]? = some A[k] := List.getElem?_eq_getElem hlt
  have eb : B[k]? = some B[k] := List.getElem?_eq_getElem (by omega)
  obtain ⟨a0, a1, a2, a3, a4, a5⟩ := ins_at ea 0
  obtain ⟨b0, b1, b2, b3, b4, b5⟩ := ins_at eb 0
  simp only [a0, a1, a2, a3, a4, a5, b0, b1, b2, b3, b4, b5, some_int, exists_eq', true_and]
  refine ⟨by omega, fun h0 h1 h2 h3 h4 h5 => ⟨by omega, fun h6 h7 h8 h9 h10 h11 => ?_⟩⟩
  simp only [← h0, ← h1, ← h2, ← h3, ← h4, ← h5, ← h6, ← h7, ← h8, ← h9, ← h10, ← h11, Ex.eqQ_eq]
  refine ⟨fun hne => ⟨rfl, .inr ⟨by simp, _, Sy.mC _ (Sy.mS _), rfl, [], rfl, ⟨[2], rfl⟩, ⟨[], List.nodup_nil, trivial⟩, fun he => ?_⟩⟩, fun heq => ⟨rfl, .inl ⟨rfl, k + 1, ⟨by omega, hl, hm, ?_⟩, (by show A.length - (k + 1) < A.length - k; omega), ?_, [0, 1], by decide, rfl⟩⟩⟩
  ·subst he
   simp at hne
  ·have : A[k] = B[k] := (I.ext_iff' _ _).2 (by simpa using heq)
   rw [List.take_succ_eq_append_getElem hlt, List.take_succ_eq_append_getElem (by omega), ht, this]
  ·rw [inc_i k (by omega)]; rfl
 ·refine ⟨rfl, .inr ⟨by simp, _, Sy.mH, rfl, [], rfl, ⟨[], rfl⟩, ⟨[], List.nodup_nil, trivial⟩, ?_⟩⟩
  have : k = A.length := by omega
  subst this
  rw [List.take_length, hl, List.take_length] at ht
  exact ht
theorem ctxS_holds (ga gb ca cb : Nat) (A B : List I) : (ctxS ga gb ca cb A B).holds Tryz.prog := Sy.mkS_holds (fun _ h => (by cases h)) (fun p hp a L => by
 rcases List.mem_singleton.1 hp with rfl
 exact loopS_met ga gb ca cb A B) (fun _ h => (by cases h))
theorem ne_t (a b : Int) : ((!Ex.eqQ a b) = true) = ¬ (a = b) := by rw [Ex.eqQ_eq]; simp
theorem ne_f (a b : Int) : ((!Ex.eqQ a b) = false) = (a = b) := by rw [Ex.eqQ_eq]; simp
theorem sameC_met (ga gb ca cb : Nat) (A B : List I) : Sy.Meets Tryz.prog (sameC ga gb ca cb A B) := by
 refine Sy.meets_of (ctxS_holds ga gb ca cb A B) mixed (same_run ga gb ca cb A B) fun hok ns => ?_
 simp only [same_R, Sy.Res.holds, Int.ofNat_eq_natCast, ne_t, ne_f]
 refine ⟨fun hne => Sy.plainO_leaf (Sy.mS _) rfl ?_, fun he => ⟨⟨by omega, hok⟩, fun h => Sy.plainO_leaf (Sy.mS _) rfl ?_, fun h => Sy.plainO_leaf (Sy.mS _) rfl ?_⟩⟩
 ·rw [decide_eq_false (fun h => hne (by rw [h]))]
 ·rw [decide_eq_true h]
 ·rw [decide_eq_false h]
open Go Go.RowKit
open Go.Proofs.YtlpcnaeknbmjdaaGreat.Sy (Let Blk)
structure Nd where
 op : Int
 val : Int
 a : Int
 b : Int
 deriving DecidableEq
def Nd.cells (n : Nd) : List Value := [.int .i64 n.op, .int .u64 n.val, .int .i64 n.a, .int .i64 n.b]
def ndCells (l : List Nd) : List Value := l.flatMap Nd.cells
def nodeOk (loc : Int) (i : Nat) (n : Nd) : Prop :=
 (n.op = 1 ∧ n.a = 0 ∧ n.b = 0) ∨ (n.op = 2 ∧ n.a = 0 ∧ n.b = 0 ∧ n.val < loc) ∨ (3 ≤ n.op ∧ n.op ≤ 5 ∧ n.val = 0 ∧ 0 ≤ n.a ∧ n.a < i ∧ n.b = 0) ∨
 (6 ≤ n.op ∧ n.op ≤ 19 ∧ n.val = 0 ∧ 0 ≤ n.a ∧ n.a < i ∧ 0 ≤ n.b ∧ n.b < i)
def Nd.refs (n : Nd) : List Nat := if n.op < 3 then [] else if n.op < 6 then [n.a.toNat] else [n.a.toNat, n.b.toNat]
def refs (l : List Nd) : List Nat := l.flatMap Nd.refs
def nodesOk (loc : Int) (l : List Nd) : Prop := ∀ i n, l[i]? = some n → nodeOk loc i n
def onceOk (l : List Nd) : Prop := ∀ j, j < l.length → (refs l).count j = if j + 1 < l.length then 1 else 0
def isExpr (loc : Int) (l : List Nd) : Prop := nodesOk loc l ∧ 0 < l.length ∧ l.length ≤ 65536 ∧ onceOk l
def tru (p : Prop) : Bool := @decide p (Classical.propDecidable p)
abbrev fCE : FuncId := 98
def bodyCE : Code := Sy.loopBody Tryz.f98 0
def slCE (g o c n k : Nat) (loc : Int) : List (Nat × Value) := [(0, .slice (some ⟨g, o, none⟩) n c), (1, .int .i64 loc), (4, .bool false), (9, .slice (some ⟨g, o, none⟩) n c), (10, .int .i64 n), (11, .int .i64 k)]
def ceB_o : Sy.O := (fork (steps [0, 1, 0, 0, 1, 1, 1, 1, 1, 1, 0, 0, 0, 1, 0, 0, 0, 1, 0, 0, 0, 2, 3, 4, 1, 5, 0, 0, 0, 6, 7, 8, 9, 10, 0, 0, 0, 11, 12, 13, 1, 14, 0, 0, 0, 15, 16, 17, 18, 19, 0, 0, 0] (fork (steps [1, 0, 0, 0, 1, 0, 0, 0, 2, 1, 3, 4, 0, 0, 0, 5, 1, 6, 7, 1] (fork nil nil)) (steps [0, 0, 0] (fork (steps [1, 0, 0, 0, 0, 1, 0, 0, 0, 2, 1, 3, 4, 1, 5, 0, 0, 0, 6, 7, 8, 9, 10, 11, 0, 0, 0, 12, 1, 13, 14, 1] (fork nil nil)) (steps [0, 0, 0, 1, 0, 0, 0] (fork (steps [0, 0, 0, 1, 0, 0, 0, 1] (fork nil nil)) (steps [1, 0, 0, 0, 1, 0, 0, 0, 1, 0, 0, 0, 1] (fork nil nil)))))))) nil)
noncomputable def ceB_R (g o c n k : Nat) (loc : Int) (xs rest : List Value) (ns : Nat → Sy.Let) : Sy.Res (Exit × Nat × List Value × List Blk) :=
 let z0 := Sy.Cont.seg o xs
 let z1 := o + Int.toNat (↑k : Int) * 4
 let z2 := ns 0
 let z3 := o + Int.toNat (↑k : Int) * 4 + 1
 let z4 := o + Int.toNat (↑k : Int) * 4 + 1 + 1
 let z5 := ns 2
 let z6 := o + Int.toNat (↑k : Int) * 4 + 1 + 1 + 1
 let z7 := ns 3
 let z8 := some (Addr.mk g o none)
 let z9 := [Value.slice z8 n c, Value.int .i64 loc, Value.bool false, Value.slice z8 n c, Value.int .i64 (↑n : Int), Value.int .i64 (↑k : Int)]
 let z10 := [Blk.mk (ns 4).n (.obj (.cells (Array.mk [.int .i64 z2.i, .int .u64 (ns 1).i, .int .i64 z5.i, .int .i64 z7.i]) 127)) true, Blk.mk g z0 false]
 let z11 := leaf (Exit.ret, 113, z9, z10)
 let z12 := leaf (Exit.normal, 113, [Value.slice z8 n c, Value.int .i64 loc, Value.bool false, Value.slice z8 n c, Value.int .i64 (↑n : Int), Value.int .i64 (Ex.wrapQ .i64 (Ex.addQ (↑k : Int) 1))], z10)
 br (Ex.ltQ (↑k : Int) (↑n : Int)) (need (0 ≤ (↑k : Int) ∧ (↑k : Int) < (↑n : Int)) (need (∃ (i : Int), Sy.Cont.at z0 z1 = some (Value.int .i64 i)) (hyp (Sy.Cont.at z0 z1 = some (Value.int .i64 z2.i)) (need (∃ (i : Int), Sy.Cont.at z0 z3 = some (Value.int .u64 i)) (hyp (Sy.Cont.at z0 z3 = some (Value.int .u64 (ns 1).i)) (need (∃ (i : Int), Sy.Cont.at z0 z4 = some (Value.int .i64 i)) (hyp (Sy.Cont.at z0 z4 = some (Value.int .i64 z5.i)) (need (∃ (i : Int), Sy.Cont.at z0 z6 = some (Value.int .i64 i)) (hyp (Sy.Cont.at z0 z6 = some (Value.int .i64 z7.i)) (br (Ex.eqQ z2.i 1) (br (bif !Ex.eqQ z5.i 0 then true else !Ex.eqQ z7.i 0) z11 z12) (br (Ex.eqQ z2.i 2) (br (bif !bif Ex.eqQ z5.i 0 then Ex.ltQ (ns 1).i (Ex.wrapQ .u64 loc) else false then true else !Ex.eqQ z7.i 0) z11 z12) (br (bif Ex.leQ 3 z2.i then Ex.leQ z2.i 5 else false) (br (bif !bif Ex.leQ 0 z5.i then Ex.ltQ z5.i (↑k : Int) else false then true else !bif Ex.eqQ z7.i 0 then Ex.eqQ (ns 1).i 0 else false) z11 z12) (br (bif !bif Ex.leQ 0 z5.i then Ex.ltQ z5.i (↑k : Int) else false then true else !bif bif bif bif Ex.leQ 0 z7.i then Ex.ltQ z7.i (↑k : Int) else false then Ex.leQ 6 z2.i else false then Ex.leQ z2.i 19 else false then Ex.eqQ (ns 1).i 0 else false) z11 z12))))))))))))) (leaf (Exit.exit 0, 113, z9, [Blk.mk g z0 false]))
theorem ceB_run (g o c n k : Nat) (loc : Int) (xs : List Value) (rest : List Value) : Sy.Ran (Sy.pieceT Tryz.prog Sy.S0 50 fCE bodyCE 113 (slCE g o c n k loc) rest [⟨g, .seg o xs, false⟩] [0, 1, 4, 9, 10, 11]) ceB_o (ceB_R g o c n k loc xs rest) := ⟨fun _ => by kernel_rfl, fun _ => by kernel_rfl⟩
theorem nd_at {l : List Nd} {k : Nat} {x : Nd} (h : l[k]? = some x) (o : Nat) :
  (Sy.Cont.seg o (ndCells l)).at (o + Int.toNat (k : Int) * 4) = some (.int .i64 x.op) ∧ (Sy.Cont.seg o (ndCells l)).at (o + Int.toNat (k : Int) * 4 + 1) = some (.int .u64 x.val) ∧
  (Sy.Cont.seg o (ndCells l)).at (o + Int.toNat (k : Int) * 4 + 1 + 1) = some (.int .i64 x.a) ∧ (Sy.Cont.seg o (ndCells l)).at (o + Int.toNat (k : Int) * 4 + 1 + 1 + 1) = some (.int .i64 x.b) := by
 have hh := fun j u hu => seg_at Nd.cells 4 (fun _ => rfl) h o j (u := u) hu
 simp only [Int.toNat_natCast]
 exact ⟨hh 0 _ rfl, hh 1 _ rfl, hh 2 _ rfl, hh 3 _ rfl⟩
theorem wrapU {x : Int} (h0 : 0 ≤ x) (h1 : x < 18446744073709551616) : Ex.wrapQ .u64 x = x := by
 rw [Ex.wrapQ_eq]
 simp [IntKind.wrap, IntKind.signed, IntKind.bits]
 omega
theorem some_bool (a b : Bool) : ((some (Value.bool a) : Option Value) = some (Value.bool b)) = (a = b) := by simp
def loopCE (g o c : Nat) (l : List Nd) (loc : Int) : Sy.LoopC :=
 ⟨.loop bodyCE, 113, slCE g o c l.length 0 loc, 0 ≤ loc ∧ loc ≤ 1000 ∧ l.length ≤ 4398046511104, ⟨[(g, .seg o (ndCells l))], [], 0, []⟩,
  [(⟨fun _ => nodesOk loc l, fun _ => [], fun _ => []⟩, .exit 0, fun _ => [(0, .slice (some ⟨g, o, none⟩) l.length c), (1, .int .i64 loc), (4, .bool false)]), (⟨fun _ => ¬ nodesOk loc l, fun _ => [], fun _ => []⟩, .ret, fun _ => [(4, .bool false)])]⟩
theorem loopCE_met (g o c : Nat) (l : List Nd) (loc : Int) : Sy.MeetsL Tryz.prog (loopCE g o c l loc) := by
 refine Sy.loop_of (n := 50) (fn := fCE) Sy.S0_holds mixed (body := bodyCE) rfl [0, 1, 4, 9, 10, 11] (fun k : Nat => slCE g o c l.length k loc) (fun _ => [⟨g, .seg o (ndCells l), false⟩])
  (fun k => k ≤ l.length ∧ 0 ≤ loc ∧ loc ≤ 1000 ∧ l.length ≤ 4398046511104 ∧ ∀ i n, i < k → l[i]? = some n → nodeOk loc i n) (fun k => l.length - k)
  0 (fun h => ⟨Nat.zero_le _, h.1, h.2.1, h.2.2, fun i n hi => absurd hi (Nat.not_lt_zero i)⟩) (fun p hp => hp) [0] (by decide) rfl (o := fun _ => ceB_o) (R := fun k xs => ceB_R g o c l.length k loc (ndCells l) xs) (fun k xs _ => ceB_run g o c l.length k loc (ndCells l) xs) ?_
 rintro - k rest ⟨hk, hl0, hl1, hm, hall⟩ ns
 have hw : Ex.wrapQ .u64 loc = loc := wrapU hl0 (by omega)
 simp only [ceB_R, Sy.Res.holds, Int.ofNat_eq_natCast, Sy.b_and, Sy.b_or, Sy.b_not, Sy.b_f, Sy.b_and', Sy.b_or', Sy.q_lt, Sy.q_le, Sy.q_eq, Sy.b_tt, Sy.b_ft, not_true_eq_false, not_false_eq_true, hw]
 refine ⟨fun hlt => ?_, fun hge => ?_⟩
 ·have hlt : k < l.length := by omega
  have ea : l[k]? = some l[k] := List.getElem?_eq_getElem hlt
  obtain ⟨a0, a1, a2, a3⟩ := nd_at ea o
  simp only [a0, a1, a2, a3, some_int, some_bool, exists_eq', true_and]
  generalize l[k] = x at *
  refine ⟨by omega, fun h0 h1 h2 h3 => ?_⟩
  simp only [← h0, ← h1, ← h2, ← h3]
  have bad : ¬ nodeOk loc k x → ¬ nodesOk loc l := fun h h' => h (h' k x ea)
  have good : nodeOk loc k x → k + 1 ≤ l.length ∧ 0 ≤ loc ∧ loc ≤ 1000 ∧ l.length ≤ 4398046511104 ∧ ∀ i n, i < k + 1 → l[i]? = some n → nodeOk loc i n := fun h => ⟨by omega, hl0, hl1, hm, fun i n hi hn => by
   rcases Nat.lt_succ_iff_lt_or_eq.1 hi with hi | rfl
   ·exact hall i n hi hn
   ·rw [ea] at hn
    injection hn with hn
    rw [← hn]; exact h⟩
  have inc := Sy.inc_q k (by omega)
  refine ⟨fun c1 => ⟨fun r => ?_, fun r => ?_⟩, fun c1 => ⟨fun c2 => ⟨fun r => ?_, fun r => ?_⟩, fun c2 => ⟨fun c3 => ⟨fun r => ?_, fun r => ?_⟩, fun c3 => ⟨fun r => ?_, fun r => ?_⟩⟩⟩⟩
  all_goals first
   | exact Sy.leafL_end 1 rfl rfl (by simp) rfl [] rfl [2] rfl [] List.nodup_nil trivial (bad (by unfold nodeOk; omega))
   | exact Sy.leafL_next (k + 1) rfl (good (by unfold nodeOk; omega)) (by show l.length - (k + 1) < l.length - k; omega) (by rw [inc]; rfl) [1] (by decide) rfl
 ·refine Sy.leafL_end 0 rfl rfl (by simp) rfl [] rfl [0, 1, 2] rfl [] List.nodup_nil trivial fun i n hn => hall i n ?_ hn
  have := (List.getElem?_eq_some_iff.1 hn).1
  omega
open Go Go.RowKit
open Go.Proofs.YtlpcnaeknbmjdaaGreat.Sy (Let Blk)
abbrev fON : FuncId := 129
abbrev tInt : TypeId := 3
def bodyO1 : Code := Sy.loopBody Tryz.f129 0
def bodyO2 : Code := Sy.loopBody Tryz.f129 1
def cntV (n : Nat) (R : List Nat) : List Value := (List.range n).map fun j => Value.int .i64 ((R.count j : Nat) : Int)
def slO1 (g o c gu n k : Nat) : List (Nat × Value) := [(0, .slice (some ⟨g, o, none⟩) n c), (2, .bool false), (3, .slice (some ⟨gu, 0, none⟩) n n), (11, .slice (some ⟨g, o, none⟩) n c), (12, .int .i64 n), (13, .int .i64 k)]
def slO2 (g o c gu n k : Nat) : List (Nat × Value) := [(0, .slice (some ⟨g, o, none⟩) n c), (2, .bool false), (38, .slice (some ⟨gu, 0, none⟩) n n), (39, .int .i64 n), (40, .int .i64 k)]
def o1_o : Sy.O := (fork (steps [0, 1, 0, 0, 1, 1, 1, 1, 1, 1, 0, 0, 0, 0, 0, 0] (fork (steps [0, 0, 0, 0, 1, 0, 2, 1, 1, 1, 0, 1, 2, 0, 1, 0, 0, 0] (fork (steps [0, 0, 0, 0, 1, 0, 2, 1, 1, 1, 0, 1, 2, 0, 1] nil) nil)) (steps [0, 0, 0] (fork (steps [0, 0, 0, 0, 1, 0, 2, 1, 1, 1, 0, 1, 2, 0, 1] nil) nil)))) nil)
noncomputable def o1_R (g o c gu n k : Nat) (xs us rest : List Value) (ns : Nat → Sy.Let) : Sy.Res (Exit × Nat × List Value × List Blk) :=
 let z0 := Sy.Cont.seg o xs
 let z1 := o + Int.toNat (↑k : Int) * 4
 let z2 := o + Int.toNat (↑k : Int) * 4 + 1
 let z3 := o + Int.toNat (↑k : Int) * 4 + 1 + 1
 let z4 := ns 2
 let z5 := o + Int.toNat (↑k : Int) * 4 + 1 + 1 + 1
 let z6 := ns 3
 let z7 := 0 ≤ z4.i ∧ z4.i < (↑n : Int)
 let z8 := Sy.Cont.row 3 1 n n us
 let z9 := 0 + Int.toNat z4.i * 1
 let z10 := Value.int .i64 (ns 5).i
 let z11 := Ex.leQ 6 (ns 0).i
 let z12 := 0 ≤ z6.i ∧ z6.i < (↑n : Int)
 let z13 := Value.int .i64 (Ex.wrapQ .i64 (Ex.addQ (ns 5).i 1))
 let z14 := List.set us z9 z13
 let z15 := Sy.Cont.row 3 1 n n z14
 let z16 := 0 + Int.toNat z6.i * 1
 let z17 := some (Addr.mk g o none)
 let z18 := some (Addr.mk gu 0 none)
 let z19 := [Value.slice z17 n c, Value.bool false, Value.slice z18 n n, Value.slice z17 n c, Value.int .i64 (↑n : Int), Value.int .i64 (Ex.wrapQ .i64 (Ex.addQ (↑k : Int) 1))]
 let z20 := Sy.Cont.obj (Obj.cells (Array.mk [.int .i64 (ns 0).i, .int .u64 (ns 1).i, .int .i64 z4.i, .int .i64 z6.i]) 127)
 br (Ex.ltQ (↑k : Int) (↑n : Int)) (need (0 ≤ (↑k : Int) ∧ (↑k : Int) < (↑n : Int)) (need (∃ (i : Int), Sy.Cont.at z0 z1 = some (Value.int .i64 i)) (hyp (Sy.Cont.at z0 z1 = some (Value.int .i64 (ns 0).i)) (need (∃ (i : Int), Sy.Cont.at z0 z2 = some (Value.int .u64 i)) (hyp (Sy.Cont.at z0 z2 = some (Value.int .u64 (ns 1).i)) (need (∃ (i : Int), Sy.Cont.at z0 z3 = some (Value.int .i64 i)) (hyp (Sy.Cont.at z0 z3 = some (Value.int .i64 z4.i)) (need (∃ (i : Int), Sy.Cont.at z0 z5 = some (Value.int .i64 i)) (hyp (Sy.Cont.at z0 z5 = some (Value.int .i64 z6.i)) (br (Ex.leQ 3 (ns 0).i) (need z7 (need (∃ (i : Int), Sy.Cont.at z8 z9 = some (Value.int .i64 i)) (hyp (Sy.Cont.at z8 z9 = some z10) (need z7 (need (0 + Int.toNat z4.i * 1 < List.length us) (br z11 (need z12 (need (∃ (i : Int), Sy.Cont.at z15 z16 = some (Value.int .i64 i)) (hyp (Sy.Cont.at z15 z16 = some (Value.int .i64 (ns 6).i)) (need z12 (need (0 + Int.toNat z6.i * 1 < List.length z14) (leaf (Exit.normal, 58, z19, [Blk.mk (ns 4).n z20 true, Blk.mk g z0 false, Blk.mk gu (Sy.Cont.row 3 1 n n (List.set z14 z16 (Value.int .i64 (Ex.wrapQ .i64 (Ex.addQ (ns 6).i 1))))) true]))))))) (leaf (Exit.normal, 58, z19, [Blk.mk (ns 4).n z20 true, Blk.mk g z0 false, Blk.mk gu z15 true])))))))) (br z11 (need z12 (need (∃ (i : Int), Sy.Cont.at z8 z16 = some (Value.int .i64 i)) (hyp (Sy.Cont.at z8 z16 = some z10) (need z12 (need (0 + Int.toNat z6.i * 1 < List.length us) (leaf (Exit.normal, 58, z19, [Blk.mk (ns 4).n z20 true, Blk.mk g z0 false,
 Blk.mk gu (Sy.Cont.row 3 1 n n (List.set us z16 z13)) true]))))))) (leaf (Exit.normal, 58, z19, [Blk.mk (ns 4).n z20 true, Blk.mk g z0 false, Blk.mk gu z8 true]))))))))))))) (leaf (Exit.exit 0, 58, [Value.slice z17 n c, Value.bool false, Value.slice z18 n n, Value.slice z17 n c, Value.int .i64 (↑n : Int), Value.int .i64 (↑k : Int)], [Blk.mk g z0 false, Blk.mk gu z8 true]))
theorem o1_run (g o c gu n k : Nat) (xs us : List Value) (rest : List Value) : Sy.Ran (Sy.pieceT Tryz.prog Sy.S0 50 fON bodyO1 58 (slO1 g o c gu n k) rest [⟨g, .seg o xs, false⟩, ⟨gu, .row tInt 1 n n us, true⟩] [0, 2, 3, 11, 12, 13]) o1_o (o1_R g o c gu n k xs us rest) := ⟨fun _ => by kernel_rfl, fun _ => by kernel_rfl⟩
def o2_o : Sy.O := (fork (steps [0, 1, 0, 0, 1, 1, 1, 0, 1] (fork nil nil)) nil)
noncomputable def o2_R (g o c gu n k : Nat) (us rest : List Value) (ns : Nat → Sy.Let) : Sy.Res (Exit × Nat × List Value × List Blk) :=
 let z0 := Sy.Cont.row 3 1 n n us
 let z1 := 0 + Int.toNat (↑k : Int) * 1
 let z2 := some (Addr.mk g o none)
 let z3 := some (Addr.mk gu 0 none)
 let z4 := [Value.slice z2 n c, Value.bool false, Value.slice z3 n n, Value.int .i64 (↑n : Int), Value.int .i64 (↑k : Int)]
 let z5 := [Blk.mk gu z0 true]
 br (Ex.ltQ (↑k : Int) (↑n : Int)) (need (0 ≤ (↑k : Int) ∧ (↑k : Int) < (↑n : Int)) (need (∃ (i : Int), Sy.Cont.at z0 z1 = some (Value.int .i64 i)) (hyp (Sy.Cont.at z0 z1 = some (Value.int .i64 (ns 0).i)) (br (bif !Ex.eqQ (ns 0).i 1 == Ex.ltQ (↑k : Int) (Ex.wrapQ .i64 (Ex.subQ' (Int.ofNat n) 1)) then true else Ex.ltQ 1 (ns 0).i) (leaf (Exit.ret, 58, z4, z5)) (leaf (Exit.normal, 58, [Value.slice z2 n c, Value.bool false, Value.slice z3 n n, Value.int .i64 (↑n : Int), Value.int .i64 (Ex.wrapQ .i64 (Ex.addQ (↑k : Int) 1))], z5)))))) (leaf (Exit.exit 2, 58, z4, z5))
theorem o2_run (g o c gu n k : Nat) (us : List Value) (rest : List Value) : Sy.Ran (Sy.pieceT Tryz.prog Sy.S0 50 fON bodyO2 58 (slO2 g o c gu n k) rest [⟨gu, .row tInt 1 n n us, true⟩] [0, 2, 38, 39, 40]) o2_o (o2_R g o c gu n k us rest) := ⟨fun _ => by kernel_rfl, fun _ => by kernel_rfl⟩
theorem cntV_length (n : Nat) (R : List Nat) : (cntV n R).length = n := by simp [cntV]
theorem cntV_nil (n : Nat) : cntV n [] = List.replicate n (.int .i64 0) := by
 apply List.ext_getElem
 ·simp [cntV]
 ·intro i h1 h2
  simp [cntV]
theorem cntV_get {n a : Nat} (R : List Nat) (h : a < n) : (cntV n R)[a]? = some (.int .i64 ((R.count a : Nat) : Int)) := by simp [cntV, h]
theorem cntV_at {n a : Nat} (R : List Nat) (h : a < n) (e : TypeId) (s m c : Nat) : (Sy.Cont.row e s m c (cntV n R)).at (0 + a * 1) = some (.int .i64 ((R.count a : Nat) : Int)) := by
 rw [Nat.zero_add, Nat.mul_one]
 exact cntV_get R h
theorem cntV_set {n a : Nat} (R : List Nat) (h : a < n) (hR : R.length < 9223372036854775807) : (cntV n R).set (0 + a * 1) (.int .i64 (Ex.wrapQ .i64 (Ex.addQ ((R.count a : Nat) : Int) 1))) = cntV n (R ++ [a]) := by
 have hc := List.count_le_length (a := a) (l := R)
 rw [Nat.zero_add, Nat.mul_one, Sy.inc_q _ (by omega)]
 apply List.ext_getElem?
 intro j
 rw [List.getElem?_set]
 by_cases hj : j < n
 ·rw [cntV_get _ hj, cntV_length]
  split
  ·rename_i e
   subst e
   rw [cntV_get _ hj]
   simp
  ·rename_i e
   rw [cntV_get _ hj]
   simp [e]
 ·rw [List.getElem?_eq_none (by rw [cntV_length]; omega), List.getElem?_eq_none (by rw [cntV_length]; omega)]
  split
  ·omega
  ·rfl
theorem refs_length (l : List Nd) : (refs l).length ≤ 2 * l.length := by
 induction l with
 | nil => simp [refs]
 | cons x l ih =>
   have h1 : x.refs.length ≤ 2 := by unfold Nd.refs; split <;> (try split) <;> simp
   have h2 : refs (x :: l) = x.refs ++ refs l := by simp [refs]
   rw [h2, List.length_append, List.length_cons]
   omega
theorem refs_take {l : List Nd} {k : Nat} {x : Nd} (h : l[k]? = some x) : refs (l.take (k + 1)) = refs (l.take k) ++ x.refs := by
 obtain ⟨hk, he⟩ := List.getElem?_eq_some_iff.1 h
 rw [List.take_succ_eq_append_getElem hk, he]
 simp [refs]
theorem ok_a {loc : Int} {i : Nat} {n : Nd} (h : nodeOk loc i n) (h3 : 3 ≤ n.op) : 0 ≤ n.a ∧ n.a < i := by unfold nodeOk at h; omega
theorem ok_b {loc : Int} {i : Nat} {n : Nd} (h : nodeOk loc i n) (h6 : 6 ≤ n.op) : 0 ≤ n.b ∧ n.b < i := by unfold nodeOk at h; omega
def loopO1 (g o c gu : Nat) (l : List Nd) (loc : Int) : Sy.LoopC :=
 ⟨.loop bodyO1, 58, slO1 g o c gu l.length 0, l.length ≤ 4398046511104 ∧ nodesOk loc l, ⟨[(g, .seg o (ndCells l))], [(gu, .row tInt 1 l.length l.length (List.replicate l.length (.int .i64 0)))], 0, []⟩,
  [(⟨fun _ => True, fun _ => [(gu, .row tInt 1 l.length l.length (cntV l.length (refs l)))], fun _ => []⟩, .exit 0, fun _ => [(0, .slice (some ⟨g, o, none⟩) l.length c), (2, .bool false), (3, .slice (some ⟨gu, 0, none⟩) l.length l.length)])]⟩
theorem loopO1_met (g o c gu : Nat) (l : List Nd) (loc : Int) : Sy.MeetsL Tryz.prog (loopO1 g o c gu l loc) := by
 refine Sy.loop_of (n := 50) (fn := fON) Sy.S0_holds mixed (body := bodyO1) rfl [0, 2, 3, 11, 12, 13] (fun k : Nat => slO1 g o c gu l.length k) (fun k => [⟨g, .seg o (ndCells l), false⟩, ⟨gu, .row tInt 1 l.length l.length (cntV l.length (refs (l.take k))), true⟩])
  (fun k => k ≤ l.length ∧ l.length ≤ 4398046511104 ∧ nodesOk loc l) (fun k => l.length - k)
  0 (fun h => ⟨Nat.zero_le _, h⟩) (fun p hp => hp) [0, 1] (by decide) (by rw [List.take_zero, show refs [] = [] from rfl, cntV_nil]; rfl) (o := fun _ => o1_o) (R := fun k xs => o1_R g o c gu l.length k (ndCells l) (cntV l.length (refs (l.take k))) xs) (fun k xs _ => o1_run g o c gu l.length k (ndCells l) (cntV l.length (refs (l.take k))) xs) ?_
 rintro - k rest ⟨hk, hm, hok⟩ ns
 simp only [o1_R, Sy.Res.holds, Int.ofNat_eq_natCast, Sy.b_and, Sy.b_or, Sy.b_not, Sy.b_f, Sy.b_and', Sy.b_or', Sy.q_lt, Sy.q_le, Sy.q_eq, Sy.b_tt, Sy.b_ft, not_true_eq_false, not_false_eq_true]
 refine ⟨fun hlt => ?_, fun hge => ?_⟩
 ·have hlt : k < l.length := by omega
  have ea : l[k]? = some l[k] := List.getElem?_eq_getElem hlt
  obtain ⟨a0, a1, a2, a3⟩ := nd_at ea o
  simp only [a0, a1, a2, a3, some_int, some_bool, exists_eq', true_and]
  generalize l[k] = x at *
  refine ⟨by omega, fun h0 h1 h2 h3 => ?_⟩
  simp only [← h0, ← h2, ← h3]
  have hx := hok k x ea
  have hr := refs_take ea
  have hrl := refs_length (l.take k)
  have htl : (l.take k).length = k := by rw [List.length_take]; omega
  have fin : ∀ B R, R = refs (l.take (k + 1)) → Sy.leafL (loopO1 g o c gu l loc) [0, 2, 3, 11, 12, 13] (fun k : Nat => slO1 g o c gu l.length k) (fun k => [⟨g, .seg o (ndCells l), false⟩, ⟨gu, .row tInt 1 l.length l.length (cntV l.length (refs (l.take k))), true⟩])
    (fun k => k ≤ l.length ∧ l.length ≤ 4398046511104 ∧ nodesOk loc l) (fun k => l.length - k) k (Exit.normal, 58, [.slice (some ⟨g, o, none⟩) l.length c, .bool false, .slice (some ⟨gu, 0, none⟩) l.length l.length, .slice (some ⟨g, o, none⟩) l.length c, .int .i64 l.length, .int .i64 (Ex.wrapQ IntKind.i64 (Ex.addQ (↑k : Int) 1))],
     [B, ⟨g, .seg o (ndCells l), false⟩, ⟨gu, .row tInt 1 l.length l.length (cntV l.length R), true⟩]) := fun B R hR => by
   subst hR
   exact Sy.leafL_next (k + 1) rfl ⟨by omega, hm, hok⟩ (by show l.length - (k + 1) < l.length - k; omega) (by rw [Sy.inc_q k (by omega)]; rfl) [1, 2] (by decide) rfl
  refine ⟨fun c3 => ?_, fun c3 => ⟨fun c6 => absurd c6 (by omega), fun c6 => fin _ _ ?_⟩⟩
  ·have ha := ok_a hx c3
   have la : x.a.toNat < l.length := by omega
   simp only [cntV_at _ la, cntV_length, some_int, some_bool, exists_eq', true_and]
   refine ⟨by omega, fun h5 => ⟨by omega, by omega, ?_⟩⟩
   simp only [← h5, cntV_set _ la (show (refs (l.take k)).length < _ by omega)]
   refine ⟨fun c6 => ?_, fun c6 => fin _ _ ?_⟩
   ·have hb := ok_b hx c6
    have lb : x.b.toNat < l.length := by omega
    simp only [cntV_at _ lb, cntV_length, some_int, some_bool, exists_eq', true_and]
    refine ⟨by omega, fun h6 => ⟨by omega, by omega, ?_⟩⟩
    simp only [← h6, cntV_set _ lb (show (refs (l.take k) ++ [x.a.toNat]).length < _ by rw [List.length_append, List.length_singleton]; omega)]
    refine fin _ _ ?_
    rw [hr, List.append_assoc]
    unfold Nd.refs
    rw [if_neg (by omega), if_neg (by omega)]
    rfl
   ·rw [hr]
    unfold Nd.refs
    rw [if_neg (by omega), if_pos (by omega)]
  ·rw [hr]
   unfold Nd.refs
   rw [if_pos (by omega), List.append_nil]
 ·have hkl : k = l.length := by omega
  subst hkl
  rw [List.take_length]
  exact Sy.leafL_end 0 rfl rfl (by simp) rfl [] rfl [0, 1, 2] rfl [1] (by decide) ⟨⟨rfl, rfl, .inl rfl⟩, trivial⟩ trivial
def loopO2 (g o c gu : Nat) (l : List Nd) : Sy.LoopC :=
 ⟨.loop bodyO2, 58, slO2 g o c gu l.length 0, l.length ≤ 4398046511104, ⟨[], [(gu, .row tInt 1 l.length l.length (cntV l.length (refs l)))], 0, []⟩,
  [(⟨fun _ => onceOk l, fun _ => [], fun _ => []⟩, .exit 2, fun _ => []), (⟨fun _ => ¬ onceOk l, fun _ => [], fun _ => []⟩, .ret, fun _ => [(2, .bool false)])]⟩
theorem beq_t (a b : Bool) : ((a == b) = true) = ((a = true) ↔ (b = true)) := by cases a <;> cases b <;> simp
theorem dec_q (n : Nat) (h0 : 0 < n) (h : n < 9223372036854775807) : Ex.wrapQ .i64 (Ex.subQ' (n : Int) 1) = ((n - 1 : Nat) : Int) := by
 rw [Ex.wrapQ_eq, Ex.subQ_eq]
 simp [IntKind.wrap, IntKind.signed, IntKind.bits]
 omega
theorem loopO2_met (g o c gu : Nat) (l : List Nd) : Sy.MeetsL Tryz.prog (loopO2 g o c gu l) := by
 refine Sy.loop_of (n := 50) (fn := fON) Sy.S0_holds mixed (body := bodyO2) rfl [0, 2, 38, 39, 40] (fun k : Nat => slO2 g o c gu l.length k) (fun k => [⟨gu, .row tInt 1 l.length l.length (cntV l.length (refs l)), true⟩])
  (fun k => k ≤ l.length ∧ l.length ≤ 4398046511104 ∧ ∀ j, j < k → (refs l).count j = if j + 1 < l.length then 1 else 0) (fun k => l.length - k)
  0 (fun h => ⟨Nat.zero_le _, h, fun j hj => absurd hj (Nat.not_lt_zero j)⟩) (fun p hp => hp) [0] (by decide) rfl (o := fun _ => o2_o) (R := fun k xs => o2_R g o c gu l.length k (cntV l.length (refs l)) xs) (fun k xs _ => o2_run g o c gu l.length k (cntV l.length (refs l)) xs) ?_
 rintro - k rest ⟨hk, hm, hall⟩ ns
 simp only [o2_R, Sy.Res.holds, Int.ofNat_eq_natCast, Sy.b_and, Sy.b_or, Sy.b_not, Sy.b_f, Sy.b_and', Sy.b_or', Sy.q_lt, Sy.q_le, Sy.q_eq, Sy.b_tt, Sy.b_ft, not_true_eq_false, not_false_eq_true, beq_t]
 refine ⟨fun hlt => ?_, fun hge => ?_⟩
 ·have hlt : k < l.length := by omega
  simp only [Int.toNat_natCast, cntV_at _ hlt, some_int, some_bool, exists_eq', true_and]
  refine ⟨by omega, fun h0 => ?_⟩
  simp only [← h0, dec_q l.length (by omega) (by omega)]
  refine ⟨fun r => ?_, fun r => ?_⟩
  ·refine Sy.leafL_end 1 rfl rfl (by simp) rfl [] rfl [1] rfl [] List.nodup_nil trivial fun h => ?_
   have := h k hlt
   split at this <;> omega
  ·refine Sy.leafL_next (k + 1) rfl ⟨by omega, hm, fun j hj => ?_⟩ (by show l.length - (k + 1) < l.length - k; omega) (by rw [Sy.inc_q k (by omega)]; rfl) [0] (by decide) rfl
   rcases Nat.lt_succ_iff_lt_or_eq.1 hj with hj | rfl
   ·exact hall j hj
   ·split <;> omega
 ·exact Sy.leafL_end 0 rfl rfl (by simp) rfl [] rfl [] rfl [] List.nodup_nil trivial fun j hj => hall j (by omega)
open Go Go.RowKit
open Go.Proofs.YtlpcnaeknbmjdaaGreat.Sy (Let Blk)
def onceC (g o c : Nat) (l : List Nd) (loc : Int) : Sy.CallC := ⟨fON, #[.slice (some ⟨g, o, none⟩) l.length c], nodesOk loc l ∧ l.length ≤ 4398046511104, ⟨[(g, .seg o (ndCells l))], [], 0, []⟩, [Sy.plainO (.bool (tru (onceOk l)))]⟩
def ctxO (g o c : Nat) (l : List Nd) (loc : Int) : Sy.Ctx := Sy.mkS [] [(fON, fun a _ => loopO1 g o c (Sy.ptrN (a.get 3)) l loc), (fON, fun a _ => loopO2 g o c (Sy.ptrN (a.get 38)) l)] []
def once_o : Sy.O := (steps [0, 1, 1, 0, 0, 1, 0, 0, 0, 0, 0, 0, 0, 1, 0, 0, 0] (fork (steps [0, 0] nil) (steps [0, 0] nil)))
noncomputable def once_R (g o c : Nat) (l : List Nd) (loc : Int) (ns : Nat → Sy.Let) : Sy.Res (Value × List Blk) :=
 let z0 := List.length l
 need (0 ≤ Int.ofNat z0 ∧ Int.toNat (Int.ofNat z0) * (8 : Nat) ≤ 281474976710656 ∧ Int.toNat (Int.ofNat z0) ≤ 9223372036854775807) (need (List.length l ≤ 4398046511104 ∧ nodesOk loc l) (hyp True (need (Nat.le z0 4398046511104) (both (hyp (∀ (j : Nat), j < List.length l → List.countP.go (fun (x : Nat) => x == j) (refs l) 0 = if j + 1 < List.length l then 1 else 0) (leaf (Value.bool true, []))) (hyp (onceOk l → False) (leaf (Value.bool false, [])))))))
theorem once_run (g o c : Nat) (l : List Nd) (loc : Int) : Sy.Ran (Sy.inT Tryz.prog (ctxO g o c l loc) 50 fON (onceC g o c l loc).args (Sy.blks (onceC g o c l loc).mem) Sy.noB) once_o (once_R g o c l loc) := ⟨fun _ => by kernel_rfl, fun _ => by kernel_rfl⟩
theorem ctxO_holds (g o c : Nat) (l : List Nd) (loc : Int) : (ctxO g o c l loc).holds Tryz.prog := Sy.mkS_holds (fun _ h => (by cases h)) (fun p hp a L => by
 rcases List.mem_cons.1 hp with rfl | hp
 ·exact loopO1_met _ _ _ _ _ _
 rcases List.mem_singleton.1 hp with rfl
 exact loopO2_met _ _ _ _ _) (fun _ h => (by cases h))
theorem tru_pos {p : Prop} (h : p) : tru p = true := by unfold tru; exact @decide_eq_true p (Classical.propDecidable p) h
theorem tru_neg {p : Prop} (h : ¬ p) : tru p = false := by unfold tru; exact @decide_eq_false p (Classical.propDecidable p) h
theorem tru_t (p : Prop) : (tru p = true) = p := propext ⟨fun h => Classical.byContradiction fun hn => (by rw [tru_neg hn] at h; cases h), tru_pos⟩
theorem onceC_met (g o c : Nat) (l : List Nd) (loc : Int) : Sy.Meets Tryz.prog (onceC g o c l loc) := by
 refine Sy.meets_of (ctxO_holds g o c l loc) mixed (once_run g o c l loc) fun hok ns => ?_
 obtain ⟨h1, h2⟩ : nodesOk loc l ∧ l.length ≤ 4398046511104 := hok
 simp only [once_R, Sy.Res.holds]
 refine ⟨⟨Int.natCast_nonneg _, ?_, ?_⟩, ⟨h2, h1⟩, fun _ => ⟨h2, fun h => Sy.plainO_leaf (Sy.mS _) rfl (by rw [tru_pos (show onceOk l from h)]), fun h => Sy.plainO_leaf (Sy.mS _) rfl (by rw [tru_neg (show ¬ onceOk l from h)])⟩⟩
 ·show l.length * 8 ≤ _
  omega
 ·show l.length ≤ _
  omega
def ceC (g o c : Nat) (l : List Nd) (loc : Int) : Sy.CallC := ⟨fCE, #[.slice (some ⟨g, o, none⟩) l.length c, .int .i64 loc], 0 ≤ loc ∧ loc ≤ 1000 ∧ l.length ≤ 4398046511104, ⟨[(g, .seg o (ndCells l))], [], 0, []⟩, [Sy.plainO (.bool (tru (isExpr loc l)))]⟩
def ctxCE (g o c : Nat) (l : List Nd) (loc : Int) : Sy.Ctx := Sy.mkS [(fON, fun _ _ => onceC g o c l loc)] [(fCE, fun _ _ => loopCE g o c l loc)] []
def ce_o : Sy.O := (steps [0, 0, 0, 0, 0] (fork (steps [0, 0, 0, 1, 0] (fork (steps [0, 0, 0, 0, 0, 0, 0] nil) (steps [0] nil))) (steps [0, 0] nil)))
noncomputable def ce_R (g o c : Nat) (l : List Nd) (loc : Int) (ns : Nat → Sy.Let) : Sy.Res (Value × List Blk) :=
 let z0 := Int.ofNat (List.length l)
 let z1 := leaf (Value.bool false, [])
 need (0 ≤ loc ∧ loc ≤ 1000 ∧ List.length l ≤ 4398046511104) (both (hyp (∀ (i : Nat) (n : Nd), l[i]? = some n → nodeOk loc i n) (br (bif Ex.ltQ 0 z0 then Ex.leQ z0 65536 else false) (need (nodesOk loc l ∧ List.length l ≤ 4398046511104) (hyp True (leaf (Value.bool (bif true then tru (onceOk l) else false), [])))) z1)) (hyp (nodesOk loc l → False) z1))
theorem ce_run (g o c : Nat) (l : List Nd) (loc : Int) : Sy.Ran (Sy.inT Tryz.prog (ctxCE g o c l loc) 50 fCE (ceC g o c l loc).args (Sy.blks (ceC g o c l loc).mem) Sy.noB) ce_o (ce_R g o c l loc) := ⟨fun _ => by kernel_rfl, fun _ => by kernel_rfl⟩
theorem ceC_met (g o c : Nat) (l : List Nd) (loc : Int) : Sy.Meets Tryz.prog (ceC g o c l loc) := by
 have HS : (ctxCE g o c l loc).holds Tryz.prog := Sy.mkS_holds (fun p hp a L => by
  rcases List.mem_singleton.1 hp with rfl
  exact onceC_met _ _ _ _ _) (fun p hp a L => by
  rcases List.mem_singleton.1 hp with rfl
  exact loopCE_met _ _ _ _ _) (fun _ h => (by cases h))
 refine Sy.meets_of HS mixed (ce_run g o c l loc) fun hok ns => ?_
 obtain ⟨h0, h1, h2⟩ : 0 ≤ loc ∧ loc ≤ 1000 ∧ l.length ≤ 4398046511104 := hok
 simp only [ce_R, Sy.Res.holds, Int.ofNat_eq_natCast, Sy.b_and, Sy.b_or, Sy.b_not, Sy.b_f, Sy.b_and', Sy.b_or', Sy.q_lt, Sy.q_le, Sy.q_eq, Sy.b_tt, Sy.b_ft, not_true_eq_false, not_false_eq_true]
 refine ⟨⟨h0, h1, h2⟩, fun hn => ⟨fun hl => ⟨⟨hn, h2⟩, fun _ => Sy.plainO_leaf (Sy.mS _) rfl ?_⟩, fun hl => Sy.plainO_leaf (Sy.mS _) rfl ?_⟩, fun hn => Sy.plainO_leaf (Sy.mS _) rfl ?_⟩
 ·show Value.bool (tru (onceOk l)) = _
  by_cases ho : onceOk l
  ·rw [tru_pos ho, tru_pos ⟨hn, by omega, by omega, ho⟩]
  ·rw [tru_neg ho, tru_neg fun h => ho h.2.2.2]
 ·rw [tru_neg fun h => hl (by have := h.2.1; have := h.2.2.1; omega)]
 ·rw [tru_neg fun h => hn h.1]
open Go Go.RowKit
open Go.Proofs.YtlpcnaeknbmjdaaGreat.Sy (Let Blk)
abbrev fMay : FuncId := 158
def mayC (g o c : Nat) (l : List Nd) : Sy.CallC := ⟨fMay, #[.slice (some ⟨g, o, none⟩) l.length c], 0 < l.length ∧ l.length ≤ 4398046511104, ⟨[(g, .seg o (ndCells l))], [], 0, []⟩, [Sy.plainO (.bool (tru (isExpr 24 l)))]⟩
def ctxM (g o c : Nat) (l : List Nd) : Sy.Ctx := Sy.mkS [(fCE, fun _ _ => ceC g o c l 24)] [] []
def may_o : Sy.O := (steps [0, 0, 0, 0, 0, 0, 0, 0, 0, 0, 0, 0, 0, 0, 0, 0, 0, 0, 0, 0, 0, 0, 0, 0, 0, 0, 0, 0, 0, 0, 0, 0, 0, 1, 0, 0, 0, 0, 0, 0, 0, 0, 0, 0, 0, 0, 0, 0, 0, 0, 0, 0, 0, 0, 0, 0, 0, 0, 0, 0] (steps [0, 0, 0, 0, 0, 0, 0, 0, 0, 0, 0, 3, 0, 0, 0, 0, 0, 0, 0, 0, 2, 0, 0, 1, 0, 0, 2, 0, 0, 0, 0, 0, 0, 2, 0, 0, 0, 0, 0, 0, 2, 0, 0, 0, 0, 2, 0, 0, 0, 0, 0, 0, 0, 0, 0, 0, 0, 2, 0, 0] (steps [0, 0, 0, 0, 0, 0, 0, 0, 0, 0, 0, 0, 0, 0, 0, 0, 0, 0, 0, 0, 0, 0, 0, 0, 0, 4, 0, 0, 0, 0, 0, 0, 0, 0, 0, 0, 0, 0, 0, 0, 0, 0, 0, 0, 0, 0, 4, 0, 0, 0, 0, 0, 0, 4, 0, 0, 0, 0, 0, 0] (steps [0, 4, 0, 0, 0, 0, 0, 0, 0, 0, 0, 0, 4, 0, 0] (fork (steps [0, 0] nil) (steps [0, 0, 0, 0, 4, 0, 0, 0, 0, 0, 0, 0, 0, 0, 4, 0, 0, 0, 0, 2, 0, 0, 0, 10, 0, 0, 0, 0, 0] (fork (steps [0, 0] nil) (steps [0, 1, 0, 0, 0, 0, 0, 0, 0, 0, 0, 1, 0, 0, 0, 0, 0, 0, 0, 0, 1, 0, 0, 0, 0, 0, 0, 5, 0, 0, 0, 0, 0, 0, 0] nil))))))))
noncomputable def may_R (g o c : Nat) (l : List Nd) (ns : Nat → Sy.Let) : Sy.Res (Value × List Blk) :=
 let z0 := leaf (Value.bool false, [])
 br (!true == Ex.ltQ 0 (Int.ofNat (List.length l))) z0 (need ((0 : Int) ≤ 24 ∧ (24 : Int) ≤ 1000 ∧ List.length l ≤ 4398046511104) (hyp True (br (bif true then !tru (isExpr 24 l) else false) z0 (leaf (Value.bool true, [])))))
theorem may_run (g o c : Nat) (l : List Nd) : Sy.Ran (Sy.inT Tryz.prog (ctxM g o c l) 60 fMay (mayC g o c l).args (Sy.blks (mayC g o c l).mem) Sy.noB) may_o (may_R g o c l) := ⟨fun _ => by kernel_rfl, fun _ => by kernel_rfl⟩
theorem mayC_met (g o c : Nat) (l : List Nd) : Sy.Meets Tryz.prog (mayC g o c l) := by
 have HS : (ctxM g o c l).holds Tryz.prog := Sy.mkS_holds (fun p hp a L => by
  rcases List.mem_singleton.1 hp with rfl
  exact ceC_met _ _ _ _ _) (fun _ h => (by cases h)) (fun _ h => (by cases h))
 refine Sy.meets_of HS mixed (may_run g o c l) fun hok ns => ?_
 obtain ⟨h0, h1⟩ : 0 < l.length ∧ l.length ≤ 4398046511104 := hok
 simp only [may_R, Sy.Res.holds, Int.ofNat_eq_natCast, Sy.b_and, Sy.b_or, Sy.b_not, Sy.b_f, Sy.b_and', Sy.b_or', Sy.q_lt, Sy.q_le, Sy.q_eq, Sy.b_tt, Sy.b_ft, not_true_eq_false, not_false_eq_true, beq_t, tru_t]
 refine ⟨fun h => absurd ⟨fun _ => by omega, fun _ => trivial⟩ h, fun h => ⟨⟨by omega, by omega, h1⟩, fun _ => ⟨fun hn => Sy.plainO_leaf (Sy.mS _) rfl ?_, fun hn => Sy.plainO_leaf (Sy.mS _) rfl ?_⟩⟩⟩
 ·rw [tru_neg hn.2]
 ·rw [tru_pos (Classical.byContradiction fun he => hn ⟨trivial, he⟩)]
inductive E where
 | num (v : Int)
 | loc (v : Int)
 | un (op : Int) (x : E)
 | bin (op : Int) (x y : E)
def tr (l : List Nd) (i : Nat) : E := match l[i]? with
 | none => .num 0
 | some n => if n.op ≤ 1 then .num n.val else if n.op = 2 then .loc n.val else if n.op ≤ 5 then (if _h : n.a.toNat < i then .un n.op (tr l n.a.toNat) else .num 0)
   else if _h : n.a.toNat < i ∧ n.b.toNat < i then .bin n.op (tr l n.a.toNat) (tr l n.b.toNat) else .num 0
termination_by i
theorem tr_num {l : List Nd} {i : Nat} {n : Nd} (h : l[i]? = some n) (h1 : n.op ≤ 1) : tr l i = .num n.val := by
 rw [tr]; simp only [h, if_pos h1]
theorem tr_loc {l : List Nd} {i : Nat} {n : Nd} (h : l[i]? = some n) (h1 : n.op = 2) : tr l i = .loc n.val := by
 rw [tr]; simp only [h]; rw [if_neg (by omega), if_pos h1]
theorem tr_un {l : List Nd} {i : Nat} {n : Nd} (h : l[i]? = some n) (h1 : 3 ≤ n.op) (h2 : n.op ≤ 5) (ha : n.a.toNat < i) : tr l i = .un n.op (tr l n.a.toNat) := by
 rw [tr]; simp only [h]; rw [if_neg (by omega), if_neg (by omega), if_pos h2, dif_pos ha]
theorem tr_bin {l : List Nd} {i : Nat} {n : Nd} (h : l[i]? = some n) (h1 : 6 ≤ n.op) (ha : n.a.toNat < i) (hb : n.b.toNat < i) : tr l i = .bin n.op (tr l n.a.toNat) (tr l n.b.toNat) := by
 rw [tr]; simp only [h]; rw [if_neg (by omega), if_neg (by omega), if_neg (by omega), dif_pos ⟨ha, hb⟩]
def E.needs : E → Nat
 | .num _ => 1
 | .loc _ => 1
 | .un _ x => x.needs
 | .bin _ x y => max x.needs (y.needs + 1)
def E.size : E → Nat
 | .num _ => 1
 | .loc _ => 1
 | .un _ x => x.size + 1
 | .bin _ x y => x.size + y.size + 1
theorem E.needs_le (x : E) : x.needs ≤ x.size := by
 induction x with
 | num _ => exact Nat.le_refl _
 | loc _ => exact Nat.le_refl _
 | un _ x ih => simp only [needs, size]; omega
 | bin _ x y ihx ihy => simp only [needs, size]; omega
open Go Go.RowKit
def binOp (op : Int) : Int := if op = 6 then 9 else if op = 7 then 3 else if op = 8 then 4 else if op = 9 then 10 else if op = 10 then 11 else if op = 11 then 5 else if op = 12 then 7 else if op = 13 then 6 else 0
def binCond (op : Int) : Int := if op = 14 then 0 else if op = 15 then 1 else if op = 16 then 3 else if op = 17 then 9 else if op = 18 then 8 else 2
def unL (op t : Int) : List I := if op = 3 then [⟨4, t, 31, t, 0, 0⟩] else if op = 4 then [⟨8, t, 31, t, 0, 0⟩] else [⟨16, 0, t, 31, 0, 0⟩, ⟨17, t, 0, 0, 0, 0⟩]
def binL (op t : Int) : List I := if binOp op = 0 then [⟨16, 0, t, t + 1, 0, 0⟩, ⟨17, t, 0, 0, 0, binCond op⟩] else [⟨binOp op, t, t, t + 1, 0, 0⟩]
def lay : E → Int → List I
 | .num v, t => numL t v
 | .loc v, t => [⟨6, t, 31, v, 0, 0⟩]
 | .un op x, t => lay x t ++ unL op t
 | .bin op x y, t => lay x t ++ (lay y (t + 1) ++ binL op t)
theorem numL_pos (r v : Int) : 0 < (numL r v).length := by unfold numL; simp
theorem numL_le (r v : Int) : (numL r v).length ≤ 4 := by
 unfold numL movk
 split <;> split <;> split <;> simp
theorem lay_pos : ∀ (x : E) (t : Int), 0 < (lay x t).length
 | .num v, t => numL_pos t v
 | .loc v, t => by simp [lay]
 | .un op x, t => by have := lay_pos x t; simp only [lay, List.length_append]; omega
 | .bin op x y, t => by have := lay_pos x t; simp only [lay, List.length_append]; omega
theorem unL_le (op t : Int) : (unL op t).length ≤ 2 := by unfold unL; split <;> (try split) <;> simp
theorem unL_pos (op t : Int) : 0 < (unL op t).length := by unfold unL; split <;> (try split) <;> simp
theorem binL_le (op t : Int) : (binL op t).length ≤ 2 := by unfold binL; split <;> simp
theorem lay_le : ∀ (x : E) (t : Int), (lay x t).length ≤ 4 * x.size
 | .num v, t => by have := numL_le t v; simp only [lay, E.size]; omega
 | .loc v, t => by simp [lay, E.size]
 | .un op x, t => by have := lay_le x t; have := unL_le op t; simp only [lay, List.length_append, E.size]; omega
 | .bin op x y, t => by have := lay_le x t; have := lay_le y (t + 1); have := binL_le op t; simp only [lay, List.length_append, E.size]; omega
theorem E.needs_pos : ∀ x : E, 0 < x.needs
 | .num _ => by simp [needs]
 | .loc _ => by simp [needs]
 | .un _ x => x.needs_pos
 | .bin _ x y => by have := x.needs_pos; simp only [needs]; omega
def szSum (l : List Nd) (R : List Nat) : Nat → Nat
 | 0 => 0
 | n + 1 => szSum l R n + (if n ∈ R then 0 else (tr l n).size)
theorem szSum_congr {l : List Nd} {R R' : List Nat} : ∀ {n : Nat}, (∀ j, j < n → (j ∈ R ↔ j ∈ R')) → szSum l R n = szSum l R' n
 | 0, _ => rfl
 | n + 1, h => by
   have h1 := h n (by omega)
   have ih := szSum_congr (l := l) (n := n) fun j hj => h j (by omega)
   simp only [szSum, ih]
   by_cases hn : n ∈ R
   ·rw [if_pos hn, if_pos (h1.1 hn)]
   ·rw [if_neg hn, if_neg fun h => hn (h1.2 h)]
theorem szSum_add {l : List Nd} {R : List Nat} {a : Nat} (hR : a ∉ R) : ∀ {n : Nat}, a < n → szSum l R n = szSum l (R ++ [a]) n + (tr l a).size
 | 0, h => absurd h (Nat.not_lt_zero a)
 | n + 1, h => by
   simp only [szSum]
   rcases Nat.lt_succ_iff_lt_or_eq.1 h with hlt | rfl
   ·rw [szSum_add hR hlt]
    have : (n ∈ R ++ [a]) ↔ n ∈ R := by
     rw [List.mem_append, List.mem_singleton]
     exact ⟨fun h => h.elim id fun h => absurd h (by omega), .inl⟩
    by_cases hn : n ∈ R
    ·rw [if_pos hn, if_pos (this.2 hn)]; omega
    ·rw [if_neg hn, if_neg fun h => hn (this.1 h)]; omega
   ·rw [if_neg hR, if_pos (by simp)]
    rw [szSum_congr (R' := R ++ [a]) fun j hj => by
     rw [List.mem_append, List.mem_singleton]
     exact ⟨.inl, fun h => h.elim id fun h => absurd h (by omega)⟩]
    omega
theorem refs_lt {loc : Int} {l : List Nd} (hok : nodesOk loc l) {n : Nat} (hn : n ≤ l.length) {j : Nat} (hj : j ∈ refs (l.take n)) : j < n := by
 unfold refs at hj
 obtain ⟨x, hx, hj⟩ := List.mem_flatMap.1 hj
 obtain ⟨m, hm, he⟩ := List.mem_iff_getElem.1 hx
 have hml : m < n := by rw [List.length_take] at hm; omega
 have hx' : l[m]? = some x := by
  rw [List.getElem_take] at he
  rw [← he]
  exact List.getElem?_eq_getElem (by omega)
 have h1 := hok m x hx'
 unfold Nd.refs at hj
 split at hj
 ·cases hj
 ·split at hj
  ·have := ok_a h1 (by omega)
   rcases List.mem_singleton.1 hj with rfl
   omega
  ·have := ok_a h1 (by omega)
   have := ok_b h1 (by omega)
   rcases List.mem_cons.1 hj with rfl | hj
   ·omega
   ·rcases List.mem_singleton.1 hj with rfl
    omega
theorem szSum_is {loc : Int} {l : List Nd} (hok : nodesOk loc l) (hd : (refs l).Nodup) : ∀ n, n ≤ l.length → szSum l (refs (l.take n)) n = n
 | 0, _ => rfl
 | n + 1, h => by
   have ih := szSum_is hok hd n (by omega)
   have ea : l[n]? = some l[n] := List.getElem?_eq_getElem (by omega)
   have hr := refs_take ea
   have hself : n ∉ refs (l.take (n + 1)) := fun hm => by
    rw [hr] at hm
    rcases List.mem_append.1 hm with hm | hm
    ·have := refs_lt hok (by omega) hm; omega
    ·have h1 := hok n _ ea
     unfold Nd.refs at hm
     split at hm
     ·cases hm
     ·split at hm
      ·have := ok_a h1 (by omega)
       have := List.mem_singleton.1 hm
       omega
      ·have := ok_a h1 (by omega)
       have := ok_b h1 (by omega)
       rcases List.mem_cons.1 hm with hm | hm
       ·omega
       ·have := List.mem_singleton.1 hm
        omega
   have hnd : (refs (l.take (n + 1))).Nodup := by
    have : refs l = refs (l.take (n + 1)) ++ refs (l.drop (n + 1)) := by
     unfold refs
     rw [← List.flatMap_append, List.take_append_drop]
    rw [this] at hd
    exact (List.nodup_append.1 hd).1
   simp only [szSum, if_neg hself]
   rw [hr] at hnd ⊢
   have h1 := hok n _ ea
   generalize l[n] = x at *
   have hdis := (List.nodup_append.1 hnd).2
   unfold Nd.refs at *
   split at hnd
   ·rename_i h3
    rw [if_pos h3, List.append_nil, ih]
    by_cases h2 : x.op ≤ 1
    ·rw [tr_num ea h2]; rfl
    ·rw [tr_loc ea (by omega)]; rfl
   ·rename_i h3
    split at hnd
    ·rename_i h6
     have ha := ok_a h1 (by omega)
     have h7 : x.a.toNat ∉ refs (l.take n) := fun hm => by
      rw [if_neg h3, if_pos h6] at hdis
      exact hdis.2 _ hm _ (Sy.mS _) rfl
     rw [if_neg h3, if_pos h6]
     have := szSum_add (l := l) h7 (n := n) (by omega)
     rw [tr_un ea (by omega) (by omega) (by omega)]
     simp only [E.size]
     omega
    ·rename_i h6
     have ha := ok_a h1 (by omega)
     have hb := ok_b h1 (by omega)
     rw [if_neg h3, if_neg h6] at hdis
     have h7 : x.a.toNat ∉ refs (l.take n) := fun hm => hdis.2 _ hm _ Sy.mH rfl
     have h8 : x.b.toNat ∉ refs (l.take n) ++ [x.a.toNat] := fun hm => by
      rcases List.mem_append.1 hm with hm | hm
      ·exact hdis.2 _ hm _ (Sy.mC _ (Sy.mS _)) rfl
      ·have := List.mem_singleton.1 hm
       have h9 := hdis.1
       rw [this] at h9
       simp at h9
     rw [if_neg h3, if_neg h6]
     have e1 := szSum_add (l := l) h7 (n := n) (by omega)
     have e2 := szSum_add (l := l) h8 (n := n) (by omega)
     rw [show refs (l.take n) ++ [x.a.toNat] ++ [x.b.toNat] = refs (l.take n) ++ [x.a.toNat, x.b.toNat] by simp] at e2
     rw [tr_bin ea (by omega) (by omega) (by omega)]
     simp only [E.size]
     omega
theorem refs_nodup {loc : Int} {l : List Nd} (hok : nodesOk loc l) (ho : onceOk l) : (refs l).Nodup := by
 rw [List.nodup_iff_count]
 intro j
 rcases Nat.lt_or_ge j l.length with h | h
 ·rw [ho j h]; split <;> omega
 ·have : j ∉ refs l := fun hm => by
   have := refs_lt hok (Nat.le_refl _) (j := j) (by rw [List.take_length]; exact hm)
   omega
  rw [List.count_eq_zero.2 this]; omega
theorem tr_small {loc : Int} {l : List Nd} (h : isExpr loc l) {i : Nat} (hi : i < l.length) : (tr l i).size ≤ i + 1 := by
 have hs := szSum_is h.1 (refs_nodup h.1 h.2.2.2) (i + 1) (by omega)
 simp only [szSum] at hs
 split at hs
 ·rename_i hm
  exfalso
  have ea : l[i]? = some l[i] := List.getElem?_eq_getElem hi
  have h1 := h.1 i _ ea
  rw [refs_take ea] at hm
  rcases List.mem_append.1 hm with hm | hm
  ·have := refs_lt h.1 (by omega) hm; omega
  ·unfold Nd.refs at hm
   split at hm
   ·cases hm
   ·split at hm
    ·have := ok_a h1 (by omega)
     have := List.mem_singleton.1 hm
     omega
    ·have := ok_a h1 (by omega)
     have := ok_b h1 (by omega)
     rcases List.mem_cons.1 hm with hm | hm
     ·omega
     ·have := List.mem_singleton.1 hm
      omega
 ·omega
open Go Go.RowKit
open Go.Proofs.YtlpcnaeknbmjdaaGreat.Sy (Let Blk)
abbrev fBin : FuncId := 165
abbrev fPlain : FuncId := 163
abbrev fCond : FuncId := 164
def binCd (op : Int) : Int := if binOp op = 0 then binCond op else 0
def binC (op : Int) : Sy.CallC := ⟨fBin, #[.int .i64 op], 6 ≤ op ∧ op ≤ 19, ⟨[], [], 0, []⟩, [Sy.plainO (.tuple #[.int .i64 (binOp op), .int .i64 (binCd op)])]⟩
def plC (op : Int) : Sy.CallC := ⟨fPlain, #[.int .i64 op], True, ⟨[], [], 0, []⟩, [Sy.plainO (.int .i64 (binOp op))]⟩
def cdC (op : Int) : Sy.CallC := ⟨fCond, #[.int .i64 op], True, ⟨[], [], 0, []⟩, [Sy.plainO (.int .i64 (binCond op))]⟩
def bin_o : Sy.O := (fork nil (fork nil (fork nil (fork nil (fork nil (fork nil (fork nil (fork nil (fork nil (fork nil (fork nil (fork nil (fork nil nil)))))))))))))
noncomputable def bin_R (op : Int) (ns : Nat → Sy.Let) : Sy.Res (Value × List Blk) :=
 br (Ex.eqQ op 6) (leaf (Value.tuple (Array.mk [.int .i64 9, .int .i64 0]), [])) (br (Ex.eqQ op 7) (leaf (Value.tuple (Array.mk [.int .i64 3, .int .i64 0]), [])) (br (Ex.eqQ op 8) (leaf (Value.tuple (Array.mk [.int .i64 4, .int .i64 0]), [])) (br (Ex.eqQ op 9) (leaf (Value.tuple (Array.mk [.int .i64 10, .int .i64 0]), [])) (br (Ex.eqQ op 10) (leaf (Value.tuple (Array.mk [.int .i64 11, .int .i64 0]), [])) (br (Ex.eqQ op 11) (leaf (Value.tuple (Array.mk [.int .i64 5, .int .i64 0]), [])) (br (Ex.eqQ op 12) (leaf (Value.tuple (Array.mk [.int .i64 7, .int .i64 0]), [])) (br (Ex.eqQ op 13) (leaf (Value.tuple (Array.mk [.int .i64 6, .int .i64 0]), [])) (br (Ex.eqQ op 14) (leaf (Value.tuple (Array.mk [.int .i64 0, .int .i64 0]), [])) (br (Ex.eqQ op 15) (leaf (Value.tuple (Array.mk [.int .i64 0, .int .i64 1]), [])) (br (Ex.eqQ op 16) (leaf (Value.tuple (Array.mk [.int .i64 0, .int .i64 3]), [])) (br (Ex.eqQ op 17) (leaf (Value.tuple (Array.mk [.int .i64 0, .int .i64 9]), [])) (br (Ex.eqQ op 18) (leaf (Value.tuple (Array.mk [.int .i64 0, .int .i64 8]), [])) (leaf (Value.tuple (Array.mk [.int .i64 0, .int .i64 2]), []))))))))))))))
theorem bin_run (op : Int) : Sy.Ran (Sy.inT Tryz.prog Sy.S0 60 fBin (binC op).args [] Sy.noB) bin_o (bin_R op) := ⟨fun _ => by kernel_rfl, fun _ => by kernel_rfl⟩
def pl_o : Sy.O := (fork nil (fork nil (fork nil (fork nil (fork nil (fork nil (fork nil (fork nil nil))))))))
noncomputable def pl_R (op : Int) (ns : Nat → Sy.Let) : Sy.Res (Value × List Blk) :=
 br (Ex.eqQ op 6) (leaf (Value.int .i64 9, [])) (br (Ex.eqQ op 7) (leaf (Value.int .i64 3, [])) (br (Ex.eqQ op 8) (leaf (Value.int .i64 4, [])) (br (Ex.eqQ op 9) (leaf (Value.int .i64 10, [])) (br (Ex.eqQ op 10) (leaf (Value.int .i64 11, [])) (br (Ex.eqQ op 11) (leaf (Value.int .i64 5, [])) (br (Ex.eqQ op 12) (leaf (Value.int .i64 7, [])) (br (Ex.eqQ op 13) (leaf (Value.int .i64 6, [])) (leaf (Value.int .i64 0, [])))))))))
theorem pl_run (op : Int) : Sy.Ran (Sy.inT Tryz.prog Sy.S0 60 fPlain (plC op).args [] Sy.noB) pl_o (pl_R op) := ⟨fun _ => by kernel_rfl, fun _ => by kernel_rfl⟩
def cd_o : Sy.O := (fork nil (fork nil (fork nil (fork nil (fork nil nil)))))
noncomputable def cd_R (op : Int) (ns : Nat → Sy.Let) : Sy.Res (Value × List Blk) :=
 br (Ex.eqQ op 14) (leaf (Value.int .i64 0, [])) (br (Ex.eqQ op 15) (leaf (Value.int .i64 1, [])) (br (Ex.eqQ op 16) (leaf (Value.int .i64 3, [])) (br (Ex.eqQ op 17) (leaf (Value.int .i64 9, [])) (br (Ex.eqQ op 18) (leaf (Value.int .i64 8, [])) (leaf (Value.int .i64 2, []))))))
theorem cd_run (op : Int) : Sy.Ran (Sy.inT Tryz.prog Sy.S0 60 fCond (cdC op).args [] Sy.noB) cd_o (cd_R op) := ⟨fun _ => by kernel_rfl, fun _ => by kernel_rfl⟩
theorem binC_met (op : Int) : Sy.Meets Tryz.prog (binC op) := by
 refine Sy.meets_of Sy.S0_holds mixed (bin_run op) fun hok ns => ?_
 obtain ⟨h0, h1⟩ : 6 ≤ op ∧ op ≤ 19 := hok
 simp only [bin_R, Sy.Res.holds, Int.ofNat_eq_natCast, Sy.b_and, Sy.b_or, Sy.b_not, Sy.b_f, Sy.b_and', Sy.b_or', Sy.q_lt, Sy.q_le, Sy.q_eq, Sy.b_tt, Sy.b_ft, not_true_eq_false, not_false_eq_true]
 repeat' refine And.intro (fun h => ?_) (fun h => ?_)
 all_goals first
  | (subst h; exact Sy.plainO_leaf (Sy.mS _) rfl rfl)
  | (obtain rfl : op = 19 := by omega
     exact Sy.plainO_leaf (Sy.mS _) rfl rfl)
theorem plC_met (op : Int) : Sy.Meets Tryz.prog (plC op) := by
 refine Sy.meets_of Sy.S0_holds mixed (pl_run op) fun hok ns => ?_
 simp only [pl_R, Sy.Res.holds, Int.ofNat_eq_natCast, Sy.b_and, Sy.b_or, Sy.b_not, Sy.b_f, Sy.b_and', Sy.b_or', Sy.q_lt, Sy.q_le, Sy.q_eq, Sy.b_tt, Sy.b_ft, not_true_eq_false, not_false_eq_true]
 repeat' refine And.intro (fun h => ?_) (fun h => ?_)
 all_goals first
  | (subst h; exact Sy.plainO_leaf (Sy.mS _) rfl rfl)
  | exact Sy.plainO_leaf (Sy.mS _) rfl (by show _ = Value.int .i64 (binOp op); unfold binOp; simp only [*, if_false])
theorem cdC_met (op : Int) : Sy.Meets Tryz.prog (cdC op) := by
 refine Sy.meets_of Sy.S0_holds mixed (cd_run op) fun hok ns => ?_
 simp only [cd_R, Sy.Res.holds, Int.ofNat_eq_natCast, Sy.b_and, Sy.b_or, Sy.b_not, Sy.b_f, Sy.b_and', Sy.b_or', Sy.q_lt, Sy.q_le, Sy.q_eq, Sy.b_tt, Sy.b_ft, not_true_eq_false, not_false_eq_true]
 repeat' refine And.intro (fun h => ?_) (fun h => ?_)
 all_goals first
  | (subst h; exact Sy.plainO_leaf (Sy.mS _) rfl rfl)
  | exact Sy.plainO_leaf (Sy.mS _) rfl (by show _ = Value.int .i64 (binCond op); unfold binCond; simp only [*, if_false])
open Go Go.RowKit
open Go.Proofs.YtlpcnaeknbmjdaaGreat.Sy (Let Blk)
theorem max_q (x y : Nat) (h : y < 9223372036854775807) : (bif Ex.ltQ (x : Int) (Ex.wrapQ .i64 (Ex.addQ (y : Int) 1)) then Ex.wrapQ .i64 (Ex.addQ (y : Int) 1) else (x : Int)) = ((max x (y + 1) : Nat) : Int) := by
 rw [Sy.inc_q y h, Ex.ltQ_eq]
 by_cases hlt : (x : Int) < ((y + 1 : Nat) : Int)
 ·rw [decide_eq_true hlt]; simp only [cond_true]; omega
 ·rw [decide_eq_false hlt]; simp only [cond_false]; omega
abbrev fNeeds : FuncId := 160
def needsC (g o c : Nat) (l : List Nd) (loc : Int) (i0 : Nat) (i : Int) : Sy.CallC :=
 ⟨fNeeds, #[.slice (some ⟨g, o, none⟩) l.length c, .int .i64 i], isExpr loc l ∧ 0 ≤ i ∧ i < l.length ∧ i < i0, ⟨[(g, .seg o (ndCells l))], [], 0, []⟩, [Sy.plainO (.int .i64 ((tr l i.toNat).needs : Int))]⟩
def ctxNd (g o c : Nat) (l : List Nd) (loc : Int) (i0 : Nat) : Sy.Ctx := Sy.mkS [(fNeeds, fun a _ => needsC g o c l loc i0 (Sy.argI a 1))] [] []
def nd_o : Sy.O := (steps [0, 1, 0, 0, 1, 1, 1, 1, 1, 1, 0, 0, 0, 0, 0, 0] (fork nil (steps [0, 0, 0] (fork (steps [0, 0, 0, 0, 1, 0, 0, 0, 0] nil) (steps [1, 0, 0, 0, 1, 2, 0, 0, 0, 4, 5, 6, 0, 0, 0, 13, 0, 1, 0, 0, 0, 0, 1, 0, 1, 13, 0, 0, 0, 0, 0, 0, 1, 0, 1, 8, 9, 10] nil)))))
noncomputable def nd_R (g o c : Nat) (l : List Nd) (loc i : Int) (i0 : Nat) (ns : Nat → Sy.Let) : Sy.Res (Value × List Blk) :=
 let z0 := Sy.Cont.seg o (ndCells l)
 let z1 := o + Int.toNat i * 4
 let z2 := o + Int.toNat i * 4 + 1
 let z3 := o + Int.toNat i * 4 + 1 + 1
 let z4 := o + Int.toNat i * 4 + 1 + 1 + 1
 let z5 := isExpr loc l ∧ 0 ≤ (ns 2).i ∧ (ns 2).i < (↑(List.length l) : Int) ∧ (ns 2).i < (↑i0 : Int)
 let z6 := Ex.addQ (↑(E.needs (tr l (Int.toNat (ns 3).i))) : Int) 1
 need (0 ≤ i ∧ i < (↑(List.length l) : Int)) (need (∃ (i_1 : Int), Sy.Cont.at z0 z1 = some (Value.int .i64 i_1)) (hyp (Sy.Cont.at z0 z1 = some (Value.int .i64 (ns 0).i)) (need (∃ (i_1 : Int), Sy.Cont.at z0 z2 = some (Value.int .u64 i_1)) (hyp (Sy.Cont.at z0 z2 = some (Value.int .u64 (ns 1).i)) (need (∃ (i_1 : Int), Sy.Cont.at z0 z3 = some (Value.int .i64 i_1)) (hyp (Sy.Cont.at z0 z3 = some (Value.int .i64 (ns 2).i)) (need (∃ (i_1 : Int), Sy.Cont.at z0 z4 = some (Value.int .i64 i_1)) (hyp (Sy.Cont.at z0 z4 = some (Value.int .i64 (ns 3).i)) (br (Ex.leQ (ns 0).i 2) (leaf (Value.int .i64 1, [])) (br (Ex.leQ (ns 0).i 5) (need z5 (hyp True (leaf (Value.int .i64 (↑(E.needs (tr l (Int.toNat (ns 2).i))) : Int), [])))) (need z5 (hyp True (need (isExpr loc l ∧ 0 ≤ (ns 3).i ∧ (ns 3).i < (↑(List.length l) : Int) ∧ (ns 3).i < (↑i0 : Int)) (hyp True (leaf (Value.int .i64 (bif Ex.ltQ (↑(E.needs (tr l (Int.toNat (ns 2).i))) : Int) (Ex.wrapQ .i64 z6) then Ex.wrapQ .i64 z6 else (↑(E.needs (tr l (Int.toNat (ns 2).i))) : Int)), []))))))))))))))))
theorem nd_run (g o c : Nat) (l : List Nd) (loc i : Int) (i0 : Nat) : Sy.Ran (Sy.inT Tryz.prog (ctxNd g o c l loc i0) 60 fNeeds (needsC g o c l loc i0 i).args (Sy.blks (needsC g o c l loc i0 i).mem) Sy.noB) nd_o (nd_R g o c l loc i i0) := ⟨fun _ => by kernel_rfl, fun _ => by kernel_rfl⟩
theorem nd_atI {l : List Nd} {i : Int} {x : Nd} (h : l[i.toNat]? = some x) (o : Nat) :
  (Sy.Cont.seg o (ndCells l)).at (o + Int.toNat i * 4) = some (.int .i64 x.op) ∧ (Sy.Cont.seg o (ndCells l)).at (o + Int.toNat i * 4 + 1) = some (.int .u64 x.val) ∧
  (Sy.Cont.seg o (ndCells l)).at (o + Int.toNat i * 4 + 1 + 1) = some (.int .i64 x.a) ∧ (Sy.Cont.seg o (ndCells l)).at (o + Int.toNat i * 4 + 1 + 1 + 1) = some (.int .i64 x.b) := by
 have := nd_at h o
 simpa only [Int.toNat_natCast] using this
theorem needsC_step (g o c : Nat) (l : List Nd) (loc : Int) (i0 : Nat) (ih : ∀ i, Sy.Meets Tryz.prog (needsC g o c l loc i0 i)) (i : Int) : Sy.Meets Tryz.prog (needsC g o c l loc (i0 + 1) i) := by
 have HS : (ctxNd g o c l loc i0).holds Tryz.prog := Sy.mkS_holds (fun p hp a L => by
  rcases List.mem_singleton.1 hp with rfl
  exact ih _) (fun _ h => (by cases h)) (fun _ h => (by cases h))
 refine Sy.meets_of HS mixed (nd_run g o c l loc i i0) fun hok ns => ?_
 obtain ⟨hE, h0, h1, h2⟩ : isExpr loc l ∧ 0 ≤ i ∧ i < l.length ∧ i < ((i0 + 1 : Nat) : Int) := hok
 have hok := hE.1
 simp only [nd_R, Sy.Res.holds, Int.ofNat_eq_natCast, Sy.b_and, Sy.b_or, Sy.b_not, Sy.b_f, Sy.b_and', Sy.b_or', Sy.q_lt, Sy.q_le, Sy.q_eq, Sy.b_tt, Sy.b_ft, not_true_eq_false, not_false_eq_true]
 have hlt : i.toNat < l.length := by omega
 have ea : l[i.toNat]? = some l[i.toNat] := List.getElem?_eq_getElem hlt
 obtain ⟨a0, a1, a2, a3⟩ := nd_atI ea o
 simp only [a0, a1, a2, a3, some_int, some_bool, exists_eq', true_and]
 generalize l[i.toNat] = x at *
 refine ⟨⟨h0, h1⟩, fun e0 e1 e2 e3 => ?_⟩
 simp only [← e0, ← e2, ← e3]
 have hx := hok _ x ea
 refine ⟨fun c2 => ?_, fun c2 => ⟨fun c5 => ⟨⟨hE, ?_⟩, fun _ => ?_⟩, fun c5 => ?_⟩⟩
 ·refine Sy.plainO_leaf (Sy.mS _) rfl ?_
  by_cases h : x.op ≤ 1
  ·rw [tr_num ea h]; rfl
  ·rw [tr_loc ea (by omega)]; rfl
 ·have := ok_a hx (by omega)
  omega
 ·have := ok_a hx (by omega)
  refine Sy.plainO_leaf (Sy.mS _) rfl ?_
  rw [tr_un ea (by omega) (by omega) (by omega)]; rfl
 ·have ha := ok_a hx (by omega)
  have hb := ok_b hx (by omega)
  refine ⟨⟨hE, by omega⟩, fun _ => ⟨⟨hE, by omega⟩, fun _ => Sy.plainO_leaf (Sy.mS _) rfl ?_⟩⟩
  have hs := tr_small hE (i := x.b.toNat) (by omega)
  have hn := (tr l x.b.toNat).needs_le
  have hl := hE.2.2.1
  rw [max_q _ _ (by omega), tr_bin ea (by omega) (by omega) (by omega)]; rfl
theorem needsC_met (g o c : Nat) (l : List Nd) (loc : Int) : ∀ (i0 : Nat) (i : Int), Sy.Meets Tryz.prog (needsC g o c l loc i0 i)
 | 0, i => fun hok => absurd hok.2.2.2 (by have := hok.2.1; omega)
 | i0 + 1, i => needsC_step g o c l loc i0 (fun j => needsC_met g o c l loc i0 j) i
open Go Go.RowKit
open Go.Proofs.YtlpcnaeknbmjdaaGreat.Sy (Let Blk)
abbrev fExpr : FuncId := 157
def goodN (l : List Nd) : Prop := ∀ n ∈ l, goodU n.val
def exprC (g o c : Nat) (l : List Nd) (i0 : Nat) (i k : Int) : Sy.CallC :=
 ⟨fExpr, #[.slice (some ⟨g, o, none⟩) l.length c, .int .i64 i, .int .i64 k], (isExpr 24 l ∧ goodN l) ∧ 0 ≤ i ∧ i < l.length ∧ i < i0 ∧ 0 ≤ k ∧ k + (tr l i.toNat).needs ≤ 5,
  ⟨[(g, .seg o (ndCells l))], [], 2, []⟩, [Sy.rowO tI 6 (lay (tr l i.toNat) (24 + k)).length (insCells (lay (tr l i.toNat) (24 + k))) id]⟩
def ctxX (g o c : Nat) (l : List Nd) (i0 : Nat) : Sy.Ctx := Sy.mkS [(fExpr, fun a _ => exprC g o c l i0 (Sy.argI a 1) (Sy.argI a 2)), (159, fun a _ => numC (Sy.argI a 0) (Sy.argI a 1)), (fBin, fun a _ => binC (Sy.argI a 0))] [] []
def ex_o : Sy.O := (steps [0, 1, 0, 0, 1, 1, 1, 1, 1, 1, 0, 0, 0, 0, 0, 0] (fork (steps [0, 0, 0, 0, 0, 0, 0] nil) (fork (steps [0, 0, 0] nil) (fork (steps [0, 0, 0, 0, 1, 0, 0, 0, 0, 0, 0, 0, 0, 0, 0, 0, 0, 2, 1, 1, 1, 1, 2, 0, 0, 0, 0, 0, 0, 0, 0, 2, 0, 0, 3, 0, 0, 0, 1, 1, 3, 0, 0, 0, 0, 0, 0, 0] nil) (fork (steps [0, 0, 0, 0, 1, 0, 0, 0, 0, 0, 0, 0, 0, 0, 0, 0, 0, 2, 1, 1, 1, 1, 2, 0, 0, 0, 0, 0, 0, 0, 0, 2, 0, 0, 3, 0, 0, 0, 1, 1, 3, 0, 0, 0, 0, 0, 0, 0] nil) (fork (steps [0, 0, 0, 0, 1, 0, 0, 0, 0, 0, 0, 0, 0, 0, 0, 0, 0, 3, 1, 1, 1, 1, 3, 0, 0, 0, 0, 0, 0, 0, 0, 2, 0, 0, 4, 0, 0, 0, 1, 1, 4, 0, 0, 0, 0, 0, 0, 0, 0, 0, 0, 3, 0, 0, 4, 0, 0, 0, 1, 1] (steps [4, 0, 0, 0, 0, 0, 0, 0] nil)) (steps [1, 0, 0, 0, 1, 2, 0, 0, 0, 3, 5, 6, 7, 0, 0, 0, 8, 9, 16, 0, 1, 0, 0, 0, 0, 1, 0, 2, 16, 0, 1, 0, 0, 0, 0, 1, 0, 3, 16, 1, 0, 4, 16, 0, 0, 0, 0, 0, 0, 0, 0, 3, 1, 1, 1, 1, 3, 0, 0, 0] (steps [0, 0, 0, 0, 0, 2, 0, 0, 3, 1, 0, 1, 1, 1, 3, 0, 0, 0, 0, 0, 0, 0, 1, 0, 5, 13, 0, 5, 0, 0, 0, 0, 0] (fork (steps [0, 0, 0, 0, 0, 0, 0, 0, 3, 1, 1, 1, 1, 3, 0, 0, 0, 0, 0, 0, 0, 0, 2, 0, 0, 4, 0, 0, 0, 1, 1, 4, 0, 0, 0, 0, 0, 0, 0, 0, 0, 0, 3, 0, 0, 4, 0, 0, 0, 1, 1, 4, 0, 0, 0, 0, 0, 0, 0] nil) (steps [0, 0, 0, 0, 0, 0, 0, 0, 2, 1, 1, 1, 1, 2, 0, 0, 0, 0, 0, 0, 0, 0, 2, 0, 0, 3, 0, 0, 0, 1, 1, 3, 0, 0, 0, 0, 0, 0, 0] nil))))))))))
noncomputable def ex_R (g o c : Nat) (l : List Nd) (i k : Int) (i0 : Nat) (ns : Nat → Sy.Let) : Sy.Res (Value × List Blk) :=
 let z0 := Sy.Cont.seg o (ndCells l)
 let z1 := o + Int.toNat i * 4
 let z2 := ns 0
 let z3 := o + Int.toNat i * 4 + 1
 let z4 := o + Int.toNat i * 4 + 1 + 1
 let z5 := ns 2
 let z6 := o + Int.toNat i * 4 + 1 + 1 + 1
 let z7 := ns 3
 let z8 := Ex.wrapQ .i64 (Ex.addQ 24 k)
 let z9 := List.length (numL z8 (ns 1).i)
 let z10 := ns 6
 let z11 := ns 5
 let z12 := some (Addr.mk z11.n 0 none)
 let z13 := isExpr 24 l ∧ goodN l
 let z14 := tr l (Int.toNat z5.i)
 let z15 := z13 ∧ 0 ≤ z5.i ∧ z5.i < (↑(List.length l) : Int) ∧ z5.i < (↑i0 : Int) ∧ 0 ≤ k ∧ k + (↑(E.needs z14) : Int) ≤ 5
 let z16 := 24 + k
 let z17 := lay z14 z16
 let z18 := Nat.le (List.length z17) z10.n
 let z19 := ((0 : Nat) = 0 ∧ List.length (insCells z17) = List.length z17 * 6 ∧ ∀ (u : Value), u ∈ insCells z17 → Value.oneCell' u = true)
 let z20 := 1 ≤ List.length z17
 let z21 := 0 + List.length z17 ≤ 9223372036854775807
 let z22 := 0 + List.length z17
 let z23 := z22 * (48 : Nat) ≤ 140737488355328
 let z24 := Nat.le z22 (ns 10).n
 let z25 := 0 + List.length z17 + (1 : Nat) ≤ 9223372036854775807
 let z26 := 0 + List.length z17 + 1
 let z27 := z26 * (48 : Nat) ≤ 140737488355328
 let z28 := ns 12
 let z29 := some (Addr.mk (ns 11).n 0 none)
 let z30 := [] ++ insCells z17
 let z31 := [Value.int .i64 4, Value.int .i64 z8, Value.int .i64 31, Value.int .i64 z8, Value.int .i64 0, Value.int .i64 0]
 let z32 := Sy.Cont.row 49 6 (List.length z17) z10.n (insCells z17)
 let z33 := [Value.int .i64 8, Value.int .i64 z8, Value.int .i64 31, Value.int .i64 z8, Value.int .i64 0, Value.int .i64 0]
 let z34 := Nat.le z22 (ns 11).n
 let z35 := 0 + List.length z17 + 1 + 1
 let z36 := [Value.int .i64 16, Value.int .i64 0, Value.int .i64 z8, Value.int .i64 31, Value.int .i64 0, Value.int .i64 0]
 let z37 := [Value.int .i64 17, Value.int .i64 z8, Value.int .i64 0, Value.int .i64 0, Value.int .i64 0, Value.int .i64 0]
 let z38 := Ex.addQ k 1
 let z39 := tr l (Int.toNat z7.i)
 let z40 := 24 + Ex.wrapQ .i64 z38
 let z41 := lay z39 z40
 let z42 := insCells z41
 let z43 := 0 + List.length z17 + List.length z41
 let z44 := ((0 : Nat) = 0 ∧ List.length (z30.append z42) = z43 * 6 ∧ ∀ (u : Value), u ∈ z30.append z42 → Value.oneCell' u = true)
 let z45 := (1 : Nat) ≤ 0 + List.length z17 + List.length z41
 let z46 := 0 + z43 ≤ 9223372036854775807
 let z47 := 0 + z43
 let z48 := z47 * (48 : Nat) ≤ 140737488355328
 let z49 := 0 + z43 + (1 : Nat) ≤ 9223372036854775807
 let z50 := 0 + z43 + 1
 let z51 := z50 * (48 : Nat) ≤ 140737488355328
 let z52 := lay (tr l (Int.toNat (Let.i z5))) z16
 let z53 := lay (tr l (Int.toNat (Let.i z7))) z40
 let z54 := 0 + List.length z52 + List.length z53
 let z55 := lay (tr l (Int.toNat (Let.i (ns 2)))) z16
 let z56 := lay (tr l (Int.toNat (Let.i (ns 3)))) z40
 let z57 := 0 + List.length z55 + List.length z56
 let z58 := 0 + z57 + 1 + 1
 let z59 := [] ++ insCells z55
 let z60 := z59.append (insCells z56)
 let z61 := Ex.wrapQ .i64 (Ex.addQ z8 1)
 let z62 := [Value.int .i64 16, Value.int .i64 0, Value.int .i64 z8, Value.int .i64 z61, Value.int .i64 0, Value.int .i64 0]
 let z63 := [Value.int .i64 17, Value.int .i64 z8, Value.int .i64 0, Value.int .i64 0, Value.int .i64 0, Value.int .i64 (binCd (Let.i (ns 0)))]
 need (0 ≤ i ∧ i < (↑(List.length l) : Int)) (need (∃ (i_1 : Int), Sy.Cont.at z0 z1 = some (Value.int .i64 i_1)) (hyp (Sy.Cont.at z0 z1 = some (Value.int .i64 z2.i)) (need (∃ (i_1 : Int), Sy.Cont.at z0 z3 = some (Value.int .u64 i_1)) (hyp (Sy.Cont.at z0 z3 = some (Value.int .u64 (ns 1).i)) (need (∃ (i_1 : Int), Sy.Cont.at z0 z4 = some (Value.int .i64 i_1)) (hyp (Sy.Cont.at z0 z4 = some (Value.int .i64 z5.i)) (need (∃ (i_1 : Int), Sy.Cont.at z0 z6 = some (Value.int .i64 i_1)) (hyp (Sy.Cont.at z0 z6 = some (Value.int .i64 z7.i)) (br (Ex.eqQ z2.i 1) (need (0 ≤ (ns 1).i ∧ (ns 1).i < 18446744073709551616) (hyp (Nat.le z9 z10.n) (leaf (Value.slice z12 z9 z10.n, [Blk.mk z11.n (Sy.Cont.row 49 6 z9 z10.n (insCells (numL z8 (ns 1).i))) true])))) (br (Ex.eqQ z2.i 2) (leaf (Value.slice z12 1 1, [Blk.mk z11.n (Sy.Cont.obj (Obj.cells (Array.mk [.int .i64 6, .int .i64 z8, .int .i64 31, .int .i64 (Ex.wrapQ .i64 (ns 1).i), .int .i64 0, .int .i64 0]) 49)) true])) (br (Ex.eqQ z2.i 3) (need z15 (hyp z18 (need z19 (need z20 (need z21 (need z23 (hyp z24 (need z25 (need z27 (hyp (Nat.le z26 z28.n) (leaf (Value.slice z29 z26 z28.n, [Blk.mk (ns 11).n (Sy.Cont.row 49 6 z26 z28.n (z30.append z31)) true, Blk.mk (ns 7).n (.obj (.cells (Array.mk z31) 49)) true, Blk.mk z11.n z32 true])))))))))))) (br (Ex.eqQ z2.i 4) (need z15 (hyp z18 (need z19 (need z20 (need z21 (need z23 (hyp z24 (need z25 (need z27 (hyp (Nat.le z26 z28.n) (leaf (Value.slice z29 z26 z28.n, [Blk.mk (ns 11).n (Sy.Cont.row 49 6 z26 z28.n
 (z30.append z33)) true, Blk.mk (ns 7).n (.obj (.cells (Array.mk z33) 49)) true, Blk.mk z11.n z32 true])))))))))))) (br (Ex.eqQ z2.i 5) (need z15 (hyp z18 (need z19 (need z20 (need z21 (need z23 (hyp z34 (need z25 (need z27 (hyp (Nat.le z26 (ns 13).n) (need (0 + List.length z17 + 1 + (1 : Nat) ≤ 9223372036854775807) (need (z35 * (48 : Nat) ≤ 140737488355328) (hyp (Nat.le z35 (ns 15).n) (leaf (Value.slice (some ⟨(ns 14).n, 0, none⟩) z35 (ns 15).n, [Blk.mk (ns 14).n (Sy.Cont.row 49 6 z35 (ns 15).n ((List.append z30 z36).append z37)) true, Blk.mk (ns 8).n (.obj (.cells (Array.mk z37) 49)) true, Blk.mk (ns 7).n (.obj (.cells (Array.mk z36) 49)) true, Blk.mk z11.n z32 true]))))))))))))))) (need z15 (hyp z18 (need (z13 ∧ 0 ≤ z7.i ∧ z7.i < (↑(List.length l) : Int) ∧ z7.i < (↑i0 : Int) ∧ 0 ≤ Ex.wrapQ .i64 z38 ∧ Ex.wrapQ .i64 z38 + (↑(E.needs z39) : Int) ≤ 5) (hyp (Nat.le (List.length z41) (ns 8).n) (need z19 (need z20 (need z21 (need z23 (hyp z34 (need ((0 : Nat) = 0 ∧ List.length z42 = List.length z41 * 6 ∧ ∀ (u : Value), u ∈ insCells z41 → Value.oneCell' u = true) (need (1 ≤ List.length z41) (need (0 + List.length z17 + List.length z41 ≤ 9223372036854775807) (need (z43 * (48 : Nat) ≤ 140737488355328) (hyp (Nat.le z43 (ns 13).n) (need (6 ≤ z2.i ∧ z2.i ≤ 19) (hyp True (br (Ex.eqQ (binOp z2.i) 0) (need z44 (need z45 (need z46 (need z48 (hyp (Nat.le z47 (ns 18).n) (need z49 (need z51 (hyp (Nat.le z50 (ns 20).n) (need (0 + z54 + 1 + (1 : Nat) ≤ 9223372036854775807) (need (z58 * (48 : Nat)
 ≤ 140737488355328) (hyp (Nat.le z58 (ns 22).n) (leaf (Value.slice (some ⟨(ns 21).n, 0, none⟩) z58 (ns 22).n, [Blk.mk (ns 21).n (Sy.Cont.row 49 6 z58 (ns 22).n ((List.append z60 z62).append z63)) true, Blk.mk (ns 15).n (.obj (.cells (Array.mk z63) 49)) true, Blk.mk (ns 14).n (.obj (.cells (Array.mk z62) 49)) true, Blk.mk z28.n (Sy.Cont.row 49 6 z57 (ns 13).n z60) true, Blk.mk (ns 7).n (Sy.Cont.row 49 6 (List.length z56) (ns 8).n (insCells z56)) true, Blk.mk z11.n (Sy.Cont.row 49 6 (List.length z55) z10.n (insCells z55)) true]))))))))))))) (need z44 (need z45 (need z46 (need z48 (hyp (Nat.le z47 (ns 17).n) (need z49 (need z51 (hyp (Nat.le z50 (ns 19).n) (leaf (Value.slice (some ⟨(ns 18).n, 0, none⟩) (0 + z54 + 1) (ns 19).n, [Blk.mk (ns 18).n (Sy.Cont.row 49 6 (0 + z57 + 1) (ns 19).n ((List.append z59 (insCells z53)).append [Value.int .i64 (binOp z2.i), Value.int .i64 z8, Value.int .i64 z8, Value.int .i64 z61, Value.int .i64 0, Value.int .i64 0])) true, Blk.mk (ns 14).n (.obj (.cells (Array.mk [.int .i64 (binOp (Let.i z2)), .int .i64 z8, .int .i64 z8, .int .i64 z61, .int .i64 0, .int .i64 0]) 49)) true, Blk.mk z28.n (Sy.Cont.row 49 6 z54 (ns 13).n (([] ++ insCells z52).append (insCells z53))) true, Blk.mk (ns 7).n (Sy.Cont.row 49 6 (List.length z41) (ns 8).n z42) true, Blk.mk z11.n z32 true]))))))))))))))))))))))))))))))))))))))))
theorem ex_run (g o c : Nat) (l : List Nd) (i k : Int) (i0 : Nat) : Sy.Ran (Sy.inT Tryz.prog (ctxX g o c l i0) 60 fExpr (exprC g o c l i0 i k).args (Sy.blks (exprC g o c l i0 i k).mem) (Sy.rowT tI)) ex_o (ex_R g o c l i k i0) := ⟨fun _ => by kernel_rfl, fun _ => by kernel_rfl⟩
theorem ctxX_holds (g o c : Nat) (l : List Nd) (i0 : Nat) (ih : ∀ i k, Sy.Meets Tryz.prog (exprC g o c l i0 i k)) : (ctxX g o c l i0).holds Tryz.prog := Sy.mkS_holds (fun p hp a L => by
 rcases List.mem_cons.1 hp with rfl | hp
 ·exact ih _ _
 rcases List.mem_cons.1 hp with rfl | hp
 ·exact numC_met _ _
 rcases List.mem_singleton.1 hp with rfl
 exact binC_met _) (fun _ h => (by cases h)) (fun _ h => (by cases h))
theorem insC_len (l : List I) : (insCells l).length = l.length * 6 := by
 induction l with
 | nil => rfl
 | cons x l ih => unfold insCells at *; rw [List.flatMap_cons, List.length_append, ih, List.length_cons]; show 6 + _ = _; omega
theorem insC_app (a b : List I) : insCells (a ++ b) = insCells a ++ insCells b := by simp [insCells]
theorem insC_one (l : List I) : ∀ u ∈ insCells l, u.oneCell' = true := by
 intro u hu
 unfold insCells at hu
 obtain ⟨x, -, hx⟩ := List.mem_flatMap.1 hu
 simp only [I.cells, List.mem_cons, List.not_mem_nil, or_false] at hx
 rcases hx with rfl | rfl | rfl | rfl | rfl | rfl <;> rfl
theorem insC_len2 (a b : List I) : (insCells a ++ insCells b).length = (a.length + b.length) * 6 := by rw [← insC_app, insC_len, List.length_append]
theorem insC_one2 (a b : List I) : ∀ u ∈ insCells a ++ insCells b, u.oneCell' = true := by rw [← insC_app]; exact insC_one _
theorem add_small {a b : Int} (h0 : 0 ≤ a + b) (h1 : a + b < 1000000) : Ex.wrapQ .i64 (Ex.addQ a b) = a + b := by
 rw [Ex.wrapQ_eq, Ex.addQ_eq]
 simp [IntKind.wrap, IntKind.signed, IntKind.bits]
 omega
theorem wrap_small {a : Int} (h0 : 0 ≤ a) (h1 : a < 1000000) : Ex.wrapQ .i64 a = a := by
 rw [Ex.wrapQ_eq]
 simp [IntKind.wrap, IntKind.signed, IntKind.bits]
 omega
theorem lay_fits {l : List Nd} (h : isExpr 24 l) {i : Nat} (hi : i < l.length) (t : Int) : 0 < (lay (tr l i) t).length ∧ (lay (tr l i) t).length ≤ 262144 := by
 have h1 := lay_le (tr l i) t
 have h2 := tr_small h hi
 have h3 := h.2.2.1
 exact ⟨lay_pos _ _, by omega⟩
theorem exprC_step (g o c : Nat) (l : List Nd) (i0 : Nat) (ih : ∀ i k, Sy.Meets Tryz.prog (exprC g o c l i0 i k)) (i k : Int) : Sy.Meets Tryz.prog (exprC g o c l (i0 + 1) i k) := by
 refine Sy.meets_of (ctxX_holds g o c l i0 ih) mixed (ex_run g o c l i k i0) fun hok ns => ?_
 obtain ⟨⟨hE, hG⟩, h0, h1, h2, h3, h4⟩ : (isExpr 24 l ∧ goodN l) ∧ 0 ≤ i ∧ i < l.length ∧ i < ((i0 + 1 : Nat) : Int) ∧ 0 ≤ k ∧ k + (tr l i.toNat).needs ≤ 5 := hok
 have hok := hE.1
 simp only [ex_R, Sy.Res.holds, Int.ofNat_eq_natCast, Sy.b_and, Sy.b_or, Sy.b_not, Sy.b_f, Sy.b_and', Sy.b_or', Sy.q_lt, Sy.q_le, Sy.q_eq, Sy.b_tt, Sy.b_ft, not_true_eq_false, not_false_eq_true]
 have hlt : i.toNat < l.length := by omega
 have ea : l[i.toNat]? = some l[i.toNat] := List.getElem?_eq_getElem hlt
 obtain ⟨a0, a1, a2, a3⟩ := nd_atI ea o
 simp only [a0, a1, a2, a3, some_int, some_bool, exists_eq', true_and]
 have hxv : goodU l[i.toNat].val := hG _ (List.getElem_mem hlt)
 generalize l[i.toNat] = x at *
 refine ⟨⟨h0, h1⟩, fun e0 e1 e2 e3 => ?_⟩
 have hnp := (tr l i.toNat).needs_pos
 have w24 : Ex.wrapQ .i64 (Ex.addQ 24 k) = 24 + k := add_small (by omega) (by omega)
 have w25 : Ex.wrapQ .i64 (Ex.addQ (24 + k) 1) = 24 + k + 1 := add_small (by omega) (by omega)
 have wk : Ex.wrapQ .i64 (Ex.addQ k 1) = k + 1 := add_small (by omega) (by omega)
 have w26 : 24 + (k + 1) = 24 + k + 1 := by omega
 simp only [← e0, ← e1, ← e2, ← e3, w24, w25, wk, w26, List.nil_append]
 have hx := hok _ x ea
 have un : 3 ≤ x.op → x.op ≤ 5 → 0 ≤ x.a ∧ x.a < i ∧ tr l i.toNat = .un x.op (tr l x.a.toNat) := fun u1 u2 => by
  have ha := ok_a hx u1
  exact ⟨ha.1, by omega, tr_un ea u1 u2 (by omega)⟩
 refine ⟨fun c1 => ⟨hxv, fun hc => Sy.rowO_leaf' (Sy.mS _) rfl 0 rfl rfl ?_ ?_ hc⟩, fun c1 => ⟨fun c2 => Sy.rowO_leaf (Sy.mS _) rfl 0 ?_ rfl ⟨rfl, rfl, ?_⟩ (by rw [tr_loc ea c2]; exact Nat.le_refl _),
  fun c2 => ⟨fun c3 => ?_, fun c3 => ⟨fun c4 => ?_, fun c4 => ⟨fun c5 => ?_, fun c5 => ?_⟩⟩⟩⟩⟩
 ·rw [tr_num ea (by omega)]; rfl
 ·rw [tr_num ea (by omega)]; rfl
 ·rw [tr_loc ea c2]; rfl
 ·rw [tr_loc ea c2]
  have hv : Ex.wrapQ .i64 x.val = x.val := by
   unfold nodeOk at hx
   unfold goodU at hxv
   exact wrap_small hxv.1 (by omega)
  rw [hv]
  exact .inr (.inl rfl)
 ·obtain ⟨ha0, ha1, eT⟩ := un (by omega) (by omega)
  have hf := lay_fits hE (i := x.a.toNat) (by omega) (24 + k)
  rw [eT, E.needs] at h4
  refine ⟨⟨⟨hE, hG⟩, ha0, by omega, by omega, h3, h4⟩, fun hc0 => ⟨⟨insC_len _, insC_one _⟩, by omega, by omega, by omega, fun hc1 => ⟨by omega, by omega, fun hc2 => Sy.rowO_leaf' (Sy.mS _) rfl 0 rfl rfl ?_ ?_ hc2⟩⟩⟩
  ·rw [eT]; simp [lay, unL, c3]
  ·rw [eT]; simp [lay, unL, insCells, I.cells, c3]
 ·obtain ⟨ha0, ha1, eT⟩ := un (by omega) (by omega)
  have hf := lay_fits hE (i := x.a.toNat) (by omega) (24 + k)
  rw [eT, E.needs] at h4
  refine ⟨⟨⟨hE, hG⟩, ha0, by omega, by omega, h3, h4⟩, fun hc0 => ⟨⟨insC_len _, insC_one _⟩, by omega, by omega, by omega, fun hc1 => ⟨by omega, by omega, fun hc2 => Sy.rowO_leaf' (Sy.mS _) rfl 0 rfl rfl ?_ ?_ hc2⟩⟩⟩
  ·rw [eT]; simp [lay, unL, c4]
  ·rw [eT]; simp [lay, unL, insCells, I.cells, c4]
 ·obtain ⟨ha0, ha1, eT⟩ := un (by omega) (by omega)
  have hf := lay_fits hE (i := x.a.toNat) (by omega) (24 + k)
  rw [eT, E.needs] at h4
  refine ⟨⟨⟨hE, hG⟩, ha0, by omega, by omega, h3, h4⟩, fun hc0 => ⟨⟨insC_len _, insC_one _⟩, by omega, by omega, by omega, fun hc1 => ⟨by omega, by omega, fun hc2 => ⟨by omega, by omega, fun hc3 => Sy.rowO_leaf' (Sy.mS _) rfl 0 rfl rfl ?_ ?_ hc3⟩⟩⟩⟩
  ·rw [eT]; simp [lay, unL, c5]
  ·rw [eT]; simp [lay, unL, insCells, I.cells, c5]
 ·have h6 : 6 ≤ x.op := by unfold nodeOk at hx; omega
  have h19 : x.op ≤ 19 := by unfold nodeOk at hx; omega
  have ha := ok_a hx (by omega)
  have hb := ok_b hx h6
  have eT : tr l i.toNat = .bin x.op (tr l x.a.toNat) (tr l x.b.toNat) := tr_bin ea h6 (by omega) (by omega)
  have hf := lay_fits hE (i := x.a.toNat) (by omega) (24 + k)
  have hf2 := lay_fits hE (i := x.b.toNat) (by omega) (24 + k + 1)
  rw [eT, E.needs] at h4
  refine ⟨⟨⟨hE, hG⟩, ha.1, by omega, by omega, h3, by omega⟩, fun hc0 => ⟨⟨⟨hE, hG⟩, hb.1, by omega, by omega, by omega, by omega⟩, fun hc1 => ⟨⟨insC_len _, insC_one _⟩, by omega, by omega, by omega, fun hc2 => ⟨⟨insC_len _, insC_one _⟩, by omega, by omega, by omega, fun hc3 =>
   ⟨⟨h6, h19⟩, fun _ => ⟨fun hz => ⟨⟨by erw [insC_len2]; omega, insC_one2 _ _⟩, by omega, by omega, by omega, fun hc4 => ⟨by omega, by omega, fun hc5 => ⟨by omega, by omega, fun hc6 => Sy.rowO_leaf' (Sy.mS _) rfl 0 rfl rfl ?_ ?_ hc6⟩⟩⟩,
    fun hz => ⟨⟨by erw [insC_len2]; omega, insC_one2 _ _⟩, by omega, by omega, by omega, fun hc4 => ⟨by omega, by omega, fun hc5 => Sy.rowO_leaf' (Sy.mS _) rfl 0 rfl rfl ?_ ?_ hc5⟩⟩⟩⟩⟩⟩⟩⟩
  ·rw [eT]; simp only [lay, binL, if_pos hz, List.length_append, List.length_cons, List.length_nil]; omega
  ·rw [eT]; simp [lay, binL, if_pos hz, insCells, I.cells, binCd]
  ·rw [eT]; simp only [lay, binL, if_neg hz, List.length_append, List.length_cons, List.length_nil]; omega
  ·rw [eT]; simp [lay, binL, if_neg hz, insCells, I.cells]
theorem exprC_met (g o c : Nat) (l : List Nd) : ∀ (i0 : Nat) (i k : Int), Sy.Meets Tryz.prog (exprC g o c l i0 i k)
 | 0, i, k => fun hok => absurd hok.2.2.2.1 (by have := hok.2.1; omega)
 | i0 + 1, i, k => exprC_step g o c l i0 (fun j k => exprC_met g o c l i0 j k) i k
open Go Go.RowKit
open Go.Proofs.YtlpcnaeknbmjdaaGreat.Sy (Let Blk)
abbrev fRX : FuncId := 40
abbrev tBool : TypeId := 4
def bodyZ1 : Code := Sy.loopBody Tryz.f40 0
def bodyZ2 : Code := Sy.loopBody Tryz.f40 1
def usedV (n : Nat) (R : List Nat) : List Value := (List.range n).map fun j => Value.bool (decide (j ∈ R))
def slZ1 (g o c gu n k : Nat) (loc : Int) : List (Nat × Value) := [(0, .slice (some ⟨g, o, none⟩) n c), (1, .int .i64 loc), (4, .bool false), (5, .slice (some ⟨gu, 0, none⟩) n n), (6, .int .i64 k)]
def slZ2 (g o c gu n k : Nat) : List (Nat × Value) := [(0, .slice (some ⟨g, o, none⟩) n c), (4, .bool false), (5, .slice (some ⟨gu, 0, none⟩) n n), (8, .int .i64 k)]
def z1_o : Sy.O := (steps [0] (fork (steps [0, 1, 0, 0, 1, 1, 1, 1, 1, 1, 0, 0, 0, 0, 0, 0, 1, 0, 0, 0] (fork (steps [0, 0, 0] (fork (steps [0, 0, 0, 0, 0, 0, 0, 0] nil) (steps [0, 0, 0, 0, 0] (fork (steps [0, 0, 0, 0, 0] nil) (steps [0, 0, 0, 0, 0, 0] (fork (steps [0, 0, 0, 0, 0, 0, 0, 0] (fork nil nil)) (steps [0, 0, 0, 0, 0, 0] nil))))))) (steps [0, 0, 0, 1, 0, 0, 0, 1, 0, 0, 0, 1, 0, 0, 0, 1, 0, 0, 0] (fork (steps [0, 0, 0, 0, 0] nil) (steps [0, 0, 0, 0, 0, 0, 0, 1, 0, 0, 2, 1, 1, 1] (fork nil (steps [0, 0, 0, 0, 1, 2, 0, 1, 0, 0, 0] (fork (steps [0, 0, 0] (fork nil nil)) (steps [0, 0, 0, 1, 0, 0, 0] (fork (steps [0, 0, 0, 0, 0] nil) (steps [0, 0, 0, 0, 0, 0, 0, 1, 0, 0, 2, 1, 1, 1] (fork nil (steps [0, 0, 0, 0, 1, 2, 0, 1] nil))))))))))))) nil))
noncomputable def z1_R (g o c gu n k : Nat) (loc : Int) (xs us rest : List Value) (ns : Nat → Sy.Let) : Sy.Res (Exit × Nat × List Value × List Blk) :=
 let z0 := Sy.Cont.seg o xs
 let z1 := o + Int.toNat (↑k : Int) * 4
 let z2 := ns 0
 let z3 := o + Int.toNat (↑k : Int) * 4 + 1
 let z4 := o + Int.toNat (↑k : Int) * 4 + 1 + 1
 let z5 := ns 2
 let z6 := o + Int.toNat (↑k : Int) * 4 + 1 + 1 + 1
 let z7 := ns 3
 let z8 := some (Addr.mk g o none)
 let z9 := some (Addr.mk gu 0 none)
 let z10 := [Value.slice z8 n c, Value.int .i64 loc, Value.bool false, Value.slice z9 n n, Value.int .i64 (↑k : Int)]
 let z11 := Sy.Cont.obj (Obj.cells (Array.mk [.int .i64 z2.i, .int .u64 (ns 1).i, .int .i64 z5.i, .int .i64 z7.i]) 127)
 let z12 := Sy.Cont.row 4 1 n n us
 let z13 := [Blk.mk (ns 4).n z11 true, Blk.mk g z0 false, Blk.mk gu z12 true]
 let z14 := leaf (Exit.ret, 131, z10, z13)
 let z15 := [Value.slice z8 n c, Value.int .i64 loc, Value.bool false, Value.slice z9 n n, Value.int .i64 (Ex.wrapQ .i64 (Ex.addQ (↑k : Int) 1))]
 let z16 := leaf (Exit.normal, 131, z15, z13)
 let z17 := 0 ≤ z5.i ∧ z5.i < (↑n : Int)
 let z18 := 0 + Int.toNat z5.i * 1
 let z19 := List.set us z18 (Value.bool true)
 let z20 := Sy.Cont.row 4 1 n n z19
 let z21 := [Blk.mk (ns 4).n z11 true, Blk.mk g z0 false, Blk.mk gu z20 true]
 let z22 := leaf (Exit.ret, 131, z10, z21)
 let z23 := 0 ≤ z7.i ∧ z7.i < (↑n : Int)
 let z24 := 0 + Int.toNat z7.i * 1
 br (Ex.ltQ (↑k : Int) (Int.ofNat n)) (need (0 ≤ (↑k : Int) ∧ (↑k : Int) < (↑n : Int)) (need (∃ (i : Int), Sy.Cont.at z0 z1 = some (Value.int .i64 i)) (hyp (Sy.Cont.at z0 z1 = some (Value.int .i64 z2.i)) (need (∃ (i : Int), Sy.Cont.at z0 z3 = some (Value.int .u64 i)) (hyp (Sy.Cont.at z0 z3 = some (Value.int .u64 (ns 1).i)) (need (∃ (i : Int), Sy.Cont.at z0 z4 = some (Value.int .i64 i)) (hyp (Sy.Cont.at z0 z4 = some (Value.int .i64 z5.i)) (need (∃ (i : Int), Sy.Cont.at z0 z6 = some (Value.int .i64 i)) (hyp (Sy.Cont.at z0 z6 = some (Value.int .i64 z7.i)) (br (bif Ex.eqQ z2.i 1 then true else Ex.eqQ z2.i 2) (br (!Ex.eqQ z5.i 0) z14 (br (bif false then true else !Ex.eqQ z7.i 0) z14 (br (Ex.eqQ z2.i 2) (br (bif false then true else bif true then Ex.leQ (Ex.wrapQ .u64 loc) (ns 1).i else false) z14 z16) z16))) (br (bif bif bif bif Ex.ltQ z2.i 1 then true else Ex.ltQ 19 z2.i then true else !Ex.eqQ (ns 1).i 0 then true else Ex.ltQ z5.i 0 then true else Ex.leQ (↑k : Int) z5.i) z14 (need z17 (need (∃ (b : Bool), Sy.Cont.at z12 z18 = some (Value.bool b)) (hyp (Sy.Cont.at z12 z18 = some (Value.bool (ns 5).b)) (br (bif false then true else (ns 5).b) z14 (need z17 (need (0 + Int.toNat z5.i * 1 < List.length us) (br (Ex.leQ z2.i 5) (br (!Ex.eqQ z7.i 0) z22 (leaf (Exit.normal, 131, z15, z21))) (br (bif Ex.ltQ z7.i 0 then true else Ex.leQ (↑k : Int) z7.i) z22 (need z23 (need (∃ (b : Bool), Sy.Cont.at z20 z24 = some (Value.bool b)) (hyp (Sy.Cont.at z20 z24 = some (Value.bool (ns 6).b)) (br (bif
 false then true else (ns 6).b) z22 (need z23 (need (0 + Int.toNat z7.i * 1 < List.length z19) (leaf (Exit.normal, 131, z15, [Blk.mk (ns 4).n z11 true, Blk.mk g z0 false, Blk.mk gu (Sy.Cont.row 4 1 n n (List.set z19 z24 (Value.bool true))) true]))))))))))))))))))))))))))) (leaf (Exit.exit 0, 131, z10, [Blk.mk g z0 false, Blk.mk gu z12 true]))
theorem z1_run (g o c gu n k : Nat) (loc : Int) (xs us : List Value) (rest : List Value) : Sy.Ran (Sy.pieceT Tryz.prog Sy.S0 50 fRX bodyZ1 131 (slZ1 g o c gu n k loc) rest [⟨g, .seg o xs, false⟩, ⟨gu, .row tBool 1 n n us, true⟩] [0, 1, 4, 5, 6]) z1_o (z1_R g o c gu n k loc xs us rest) := ⟨fun _ => by kernel_rfl, fun _ => by kernel_rfl⟩
def z2_o : Sy.O := (steps [0] (fork (steps [0, 1, 0, 0, 1, 1, 1] (fork nil nil)) nil))
noncomputable def z2_R (g o c gu n k : Nat) (us rest : List Value) (ns : Nat → Sy.Let) : Sy.Res (Exit × Nat × List Value × List Blk) :=
 let z0 := Sy.Cont.row 4 1 n n us
 let z1 := 0 + Int.toNat (↑k : Int) * 1
 let z2 := some (Addr.mk g o none)
 let z3 := some (Addr.mk gu 0 none)
 let z4 := [Value.slice z2 n c, Value.bool false, Value.slice z3 n n, Value.int .i64 (↑k : Int)]
 let z5 := [Blk.mk gu z0 true]
 br (Ex.ltQ (↑k : Int) (Ex.wrapQ .i64 (Ex.subQ' (Int.ofNat n) 1))) (need (0 ≤ (↑k : Int) ∧ (↑k : Int) < (↑n : Int)) (need (∃ (b : Bool), Sy.Cont.at z0 z1 = some (Value.bool b)) (hyp (Sy.Cont.at z0 z1 = some (Value.bool (ns 0).b)) (br (!(ns 0).b) (leaf (Exit.ret, 131, z4, z5)) (leaf (Exit.normal, 131, [Value.slice z2 n c, Value.bool false, Value.slice z3 n n, Value.int .i64 (Ex.wrapQ .i64 (Ex.addQ (↑k : Int) 1))], z5)))))) (leaf (Exit.exit 2, 131, z4, z5))
theorem z2_run (g o c gu n k : Nat) (us : List Value) (rest : List Value) : Sy.Ran (Sy.pieceT Tryz.prog Sy.S0 50 fRX bodyZ2 131 (slZ2 g o c gu n k) rest [⟨gu, .row tBool 1 n n us, true⟩] [0, 4, 5, 8]) z2_o (z2_R g o c gu n k us rest) := ⟨fun _ => by kernel_rfl, fun _ => by kernel_rfl⟩
theorem usedV_length (n : Nat) (R : List Nat) : (usedV n R).length = n := by simp [usedV]
theorem usedV_nil (n : Nat) : usedV n [] = List.replicate n (.bool false) := by
 apply List.ext_getElem
 ·simp [usedV]
 ·intro i h1 h2
  simp [usedV]
theorem usedV_get {n a : Nat} (R : List Nat) (h : a < n) : (usedV n R)[a]? = some (.bool (decide (a ∈ R))) := by simp [usedV, h]
theorem usedV_at {n a : Nat} (R : List Nat) (h : a < n) (e : TypeId) (s m c : Nat) : (Sy.Cont.row e s m c (usedV n R)).at (0 + a * 1) = some (.bool (decide (a ∈ R))) := by
 rw [Nat.zero_add, Nat.mul_one]
 exact usedV_get R h
theorem usedV_set {n a : Nat} (R : List Nat) (h : a < n) : (usedV n R).set (0 + a * 1) (.bool true) = usedV n (R ++ [a]) := by
 rw [Nat.zero_add, Nat.mul_one]
 apply List.ext_getElem?
 intro j
 rw [List.getElem?_set]
 by_cases hj : j < n
 ·rw [usedV_get _ hj, usedV_length]
  split
  ·rename_i e
   subst e
   rw [usedV_get _ hj]
   simp
  ·rename_i e
   rw [usedV_get _ hj]
   have : (j ∈ R ++ [a]) ↔ j ∈ R := by
    rw [List.mem_append, List.mem_singleton]
    exact ⟨fun h => h.elim id fun h => absurd h.symm e, .inl⟩
   simp only [this]
 ·rw [List.getElem?_eq_none (by rw [usedV_length]; omega), List.getElem?_eq_none (by rw [usedV_length]; omega)]
  split
  ·omega
  ·rfl
def treeOk (loc : Int) (l : List Nd) : Prop := nodesOk loc l ∧ (refs l).Nodup
theorem refs_pre {l : List Nd} (h : (refs l).Nodup) (k : Nat) : (refs (l.take k)).Nodup := by
 have : refs l = refs (l.take k) ++ refs (l.drop k) := by
  unfold refs
  rw [← List.flatMap_append, List.take_append_drop]
 rw [this] at h
 exact (List.nodup_append.1 h).1
def loopZ1 (g o c gu : Nat) (l : List Nd) (loc : Int) : Sy.LoopC :=
 ⟨.loop bodyZ1, 131, slZ1 g o c gu l.length 0 loc, (0 ≤ loc ∧ loc ≤ 1000 ∧ goodN l) ∧ l.length ≤ 65536, ⟨[(g, .seg o (ndCells l))], [(gu, .row tBool 1 l.length l.length (List.replicate l.length (.bool false)))], 0, []⟩,
  [(⟨fun _ => treeOk loc l, fun _ => [(gu, .row tBool 1 l.length l.length (usedV l.length (refs l)))], fun _ => []⟩, .exit 0, fun _ => [(0, .slice (some ⟨g, o, none⟩) l.length c), (4, .bool false), (5, .slice (some ⟨gu, 0, none⟩) l.length l.length)]),
   (⟨fun _ => ¬ treeOk loc l, fun _ => [], fun _ => []⟩, .ret, fun _ => [(4, .bool false)])]⟩
theorem loopZ1_met (g o c gu : Nat) (l : List Nd) (loc : Int) : Sy.MeetsL Tryz.prog (loopZ1 g o c gu l loc) := by
 refine Sy.loop_of (n := 50) (fn := fRX) Sy.S0_holds mixed (body := bodyZ1) rfl [0, 1, 4, 5, 6] (fun k : Nat => slZ1 g o c gu l.length k loc) (fun k => [⟨g, .seg o (ndCells l), false⟩, ⟨gu, .row tBool 1 l.length l.length (usedV l.length (refs (l.take k))), true⟩])
  (fun k => k ≤ l.length ∧ (∀ i n, i < k → l[i]? = some n → nodeOk loc i n) ∧ (refs (l.take k)).Nodup) (fun k => l.length - k)
  0 (fun h => ⟨Nat.zero_le _, fun i n hi => absurd hi (Nat.not_lt_zero i), List.nodup_nil⟩) (fun p hp => hp) [0, 1] (by decide) (by rw [List.take_zero, show refs [] = [] from rfl, usedV_nil]; rfl) (o := fun _ => z1_o) (R := fun k xs => z1_R g o c gu l.length k loc (ndCells l) (usedV l.length (refs (l.take k))) xs) (fun k xs _ => z1_run g o c gu l.length k loc (ndCells l) (usedV l.length (refs (l.take k))) xs) ?_
 rintro ⟨⟨hl0, hl1, hG⟩, hm⟩ k rest ⟨hk, hall, hnd⟩ ns
 have hw : Ex.wrapQ .u64 loc = loc := wrapU hl0 (by omega)
 simp only [z1_R, Sy.Res.holds, Int.ofNat_eq_natCast, Sy.b_and, Sy.b_or, Sy.b_not, Sy.b_f, Sy.b_and', Sy.b_or', Sy.q_lt, Sy.q_le, Sy.q_eq, Sy.b_tt, Sy.b_ft, not_true_eq_false, not_false_eq_true, hw, false_or]
 refine ⟨fun hlt => ?_, fun hge => ?_⟩
 ·have hlt : k < l.length := by omega
  have ea : l[k]? = some l[k] := List.getElem?_eq_getElem hlt
  have hxv : goodU l[k].val := hG _ (List.getElem_mem hlt)
  obtain ⟨a0, a1, a2, a3⟩ := nd_at ea o
  simp only [a0, a1, a2, a3, some_int, some_bool, exists_eq', true_and]
  generalize l[k] = x at *
  refine ⟨by omega, fun h0 h1 h2 h3 => ?_⟩
  simp only [← h0, ← h1, ← h2, ← h3]
  have hr := refs_take ea
  have bad : ¬ nodeOk loc k x → ¬ treeOk loc l := fun h h' => h (h'.1 k x ea)
  have dup : ∀ {R : List Nat}, R = refs (l.take k) ++ x.refs → ¬ R.Nodup → ¬ treeOk loc l := fun h hn h' => hn (by rw [h, ← hr]; exact refs_pre h'.2 _)
  have good : nodeOk loc k x → (refs (l.take k) ++ x.refs).Nodup → k + 1 ≤ l.length ∧ (∀ i n, i < k + 1 → l[i]? = some n → nodeOk loc i n) ∧ (refs (l.take (k + 1))).Nodup := fun h hn2 => ⟨by omega, fun i n hi hn => by
   rcases Nat.lt_succ_iff_lt_or_eq.1 hi with hi | rfl
   ·exact hall i n hi hn
   ·rw [ea] at hn
    injection hn with hn
    rw [← hn]; exact h, by rw [hr]; exact hn2⟩
  have inc := Sy.inc_q k (by omega)
  have fin : ∀ B R, R = refs (l.take k) ++ x.refs → nodeOk loc k x → R.Nodup → Sy.leafL (loopZ1 g o c gu l loc) [0, 1, 4, 5, 6] (fun k : Nat => slZ1 g o c gu l.length k loc) (fun k => [⟨g, .seg o (ndCells l), false⟩, ⟨gu, .row tBool 1 l.length l.length (usedV l.length (refs (l.take k))), true⟩])
    (fun k => k ≤ l.length ∧ (∀ i n, i < k → l[i]? = some n → nodeOk loc i n) ∧ (refs (l.take k)).Nodup) (fun k => l.length - k) k (Exit.normal, 131, [.slice (some ⟨g, o, none⟩) l.length c, .int .i64 loc, .bool false, .slice (some ⟨gu, 0, none⟩) l.length l.length, .int .i64 (Ex.wrapQ IntKind.i64 (Ex.addQ (↑k : Int) 1))],
     [B, ⟨g, .seg o (ndCells l), false⟩, ⟨gu, .row tBool 1 l.length l.length (usedV l.length R), true⟩]) := fun B R hR hx hn => by
   rw [hR, ← hr]
   exact Sy.leafL_next (k + 1) rfl (good hx (hR ▸ hn)) (by show l.length - (k + 1) < l.length - k; omega) (by rw [inc]; rfl) [1, 2] (by decide) rfl
  have out : ∀ L, ¬ treeOk loc l → Sy.leafL (loopZ1 g o c gu l loc) [0, 1, 4, 5, 6] (fun k : Nat => slZ1 g o c gu l.length k loc) (fun k => [⟨g, .seg o (ndCells l), false⟩, ⟨gu, .row tBool 1 l.length l.length (usedV l.length (refs (l.take k))), true⟩])
    (fun k => k ≤ l.length ∧ (∀ i n, i < k → l[i]? = some n → nodeOk loc i n) ∧ (refs (l.take k)).Nodup) (fun k => l.length - k) k (Exit.ret, 131, [.slice (some ⟨g, o, none⟩) l.length c, .int .i64 loc, .bool false, .slice (some ⟨gu, 0, none⟩) l.length l.length, .int .i64 (↑k : Int)], L) := fun L h =>
   Sy.leafL_end 1 rfl rfl (by simp) rfl [] rfl [2] rfl [] List.nodup_nil trivial h
  unfold goodU at hxv
  refine ⟨fun c1 => ⟨fun r => out _ (bad (by unfold nodeOk; omega)), fun r => ⟨fun r' => out _ (bad (by unfold nodeOk; omega)), fun r' => ⟨fun c2 => ⟨fun r2 => out _ (bad (by unfold nodeOk; omega)), fun r2 => fin _ _ ?_ ?_ hnd⟩, fun c2 => fin _ _ ?_ ?_ hnd⟩⟩⟩,
   fun c1 => ⟨fun r => out _ (bad (by unfold nodeOk; omega)), fun r => ?_⟩⟩
  ·unfold Nd.refs; rw [if_pos (by omega), List.append_nil]
  ·unfold nodeOk; omega
  ·unfold Nd.refs; rw [if_pos (by omega), List.append_nil]
  ·unfold nodeOk; omega
  ·have la : x.a.toNat < l.length := by omega
   have ha3 : 3 ≤ x.op := by omega
   simp only [usedV_at _ la, usedV_length, some_int, some_bool, exists_eq', true_and]
   refine ⟨by omega, fun h5 => ?_⟩
   rw [← h5]
   simp only [decide_eq_true_eq, usedV_set _ la]
   have ra : ∀ r, x.refs = x.a.toNat :: r → x.a.toNat ∈ refs (l.take k) → ¬ treeOk loc l := fun r hr' hm => dup rfl fun hn => (List.nodup_append.1 hn).2.2 _ hm _ (by rw [hr']; exact Sy.mH) rfl
   have rx : ∃ r, x.refs = x.a.toNat :: r := by
    unfold Nd.refs
    rw [if_neg (by omega)]
    split
    ·exact ⟨_, rfl⟩
    ·exact ⟨_, rfl⟩
   obtain ⟨r0, hr0⟩ := rx
   refine ⟨fun hu => out _ (ra r0 hr0 hu), fun hu => ⟨by omega, by omega, ?_⟩⟩
   have hnd1 : (refs (l.take k) ++ [x.a.toNat]).Nodup := List.nodup_append.2 ⟨hnd, by simp, fun a ha b hb => by rw [List.mem_singleton.1 hb]; exact fun e => hu (e ▸ ha)⟩
   refine ⟨fun c5 => ⟨fun r2 => out _ (bad (by unfold nodeOk; omega)), fun r2 => fin _ _ ?_ (by unfold nodeOk; omega) hnd1⟩, fun c5 => ⟨fun r2 => out _ (bad (by unfold nodeOk; omega)), fun r2 => ?_⟩⟩
   ·unfold Nd.refs; rw [if_neg (by omega), if_pos (by omega)]
   ·have lb : x.b.toNat < l.length := by omega
    have er : refs (l.take k) ++ [x.a.toNat] ++ [x.b.toNat] = refs (l.take k) ++ x.refs := by
     rw [List.append_assoc]
     unfold Nd.refs; rw [if_neg (by omega), if_neg (by omega)]; rfl
    simp only [usedV_at _ lb, usedV_length, some_int, some_bool, exists_eq', true_and]
    refine ⟨by omega, fun h6 => ?_⟩
    rw [← h6]
    simp only [decide_eq_true_eq, usedV_set _ lb]
    refine ⟨fun hu2 => out _ (dup er fun hn => (List.nodup_append.1 hn).2.2 _ hu2 _ (Sy.mS _) rfl), fun hu2 => ⟨by omega, by omega, fin _ _ er (by unfold nodeOk; omega) ?_⟩⟩
    exact List.nodup_append.2 ⟨hnd1, by simp, fun a ha b hb => by rw [List.mem_singleton.1 hb]; exact fun e => hu2 (e ▸ ha)⟩
 ·have hkl : k = l.length := by omega
  subst hkl
  rw [List.take_length] at *
  refine Sy.leafL_end 0 rfl rfl (by simp) rfl [] rfl [0, 2, 3] rfl [1] (by decide) ⟨⟨rfl, rfl, .inl rfl⟩, trivial⟩ ⟨fun i n hn => hall i n ?_ hn, hnd⟩
  exact (List.getElem?_eq_some_iff.1 hn).1
def loopZ2 (g o c gu : Nat) (l : List Nd) (loc : Int) : Sy.LoopC :=
 ⟨.loop bodyZ2, 131, slZ2 g o c gu l.length 0, (0 < l.length ∧ treeOk loc l) ∧ l.length ≤ 65536, ⟨[], [(gu, .row tBool 1 l.length l.length (usedV l.length (refs l)))], 0, []⟩,
  [(⟨fun _ => onceOk l, fun _ => [], fun _ => []⟩, .exit 2, fun _ => []), (⟨fun _ => ¬ onceOk l, fun _ => [], fun _ => []⟩, .ret, fun _ => [(4, .bool false)])]⟩
theorem loopZ2_met (g o c gu : Nat) (l : List Nd) (loc : Int) : Sy.MeetsL Tryz.prog (loopZ2 g o c gu l loc) := by
 refine Sy.loop_of (n := 50) (fn := fRX) Sy.S0_holds mixed (body := bodyZ2) rfl [0, 4, 5, 8] (fun k : Nat => slZ2 g o c gu l.length k) (fun k => [⟨gu, .row tBool 1 l.length l.length (usedV l.length (refs l)), true⟩])
  (fun k => k < l.length ∧ ∀ j, j < k → j ∈ refs l) (fun k => l.length - k)
  0 (fun h => ⟨h.1.1, fun j hj => absurd hj (Nat.not_lt_zero j)⟩) (fun p hp => hp) [0] (by decide) rfl (o := fun _ => z2_o) (R := fun k xs => z2_R g o c gu l.length k (usedV l.length (refs l)) xs) (fun k xs _ => z2_run g o c gu l.length k (usedV l.length (refs l)) xs) ?_
 rintro ⟨⟨hpos, hT⟩, hm⟩ k rest ⟨hk, hall⟩ ns
 simp only [z2_R, Sy.Res.holds, Int.ofNat_eq_natCast, Sy.b_and, Sy.b_or, Sy.b_not, Sy.b_f, Sy.b_and', Sy.b_or', Sy.q_lt, Sy.q_le, Sy.q_eq, Sy.b_tt, Sy.b_ft, not_true_eq_false, not_false_eq_true, dec_q l.length hpos (by omega), Int.toNat_natCast, usedV_at _ hk, some_int, some_bool, exists_eq', true_and]
 have h1 := List.nodup_iff_count.1 hT.2
 refine ⟨fun hlt => ⟨by omega, fun h0 => ?_⟩, fun hge => ?_⟩
 ·rw [← h0]
  simp only [decide_eq_true_eq]
  refine ⟨fun r => ?_, fun r => ?_⟩
  ·refine Sy.leafL_end 1 rfl rfl (by simp) rfl [] rfl [1] rfl [] List.nodup_nil trivial fun h => r ?_
   have := h k hk
   rw [if_pos (by omega)] at this
   exact List.count_pos_iff.1 (by omega)
  ·refine Sy.leafL_next (k + 1) rfl ⟨by omega, fun j hj => ?_⟩ (by show l.length - (k + 1) < l.length - k; omega) (by rw [Sy.inc_q k (by omega)]; rfl) [0] (by decide) rfl
   rcases Nat.lt_succ_iff_lt_or_eq.1 hj with hj | rfl
   ·exact hall j hj
   ·exact Classical.byContradiction r
 ·refine Sy.leafL_end 0 rfl rfl (by simp) rfl [] rfl [] rfl [] List.nodup_nil trivial fun j hj => ?_
  have h2 := h1 j
  split
  ·have := List.count_pos_iff.2 (hall j (by omega))
   omega
  ·rename_i hlast
   refine List.count_eq_zero.2 fun hm' => ?_
   unfold refs at hm'
   obtain ⟨x, hx, hj'⟩ := List.mem_flatMap.1 hm'
   obtain ⟨m, hm2, he⟩ := List.mem_iff_getElem.1 hx
   have := refs_lt hT.1 (Nat.le_refl _) (j := j) (by rw [List.take_length]; unfold refs; exact hm')
   have h3 := hT.1 m x (by rw [← he]; exact List.getElem?_eq_getElem hm2)
   unfold Nd.refs at hj'
   split at hj'
   ·cases hj'
   ·split at hj'
    ·have := ok_a h3 (by omega)
     have := List.mem_singleton.1 hj'
     omega
    ·have := ok_a h3 (by omega)
     have := ok_b h3 (by omega)
     rcases List.mem_cons.1 hj' with hj' | hj'
     ·omega
     ·have := List.mem_singleton.1 hj'
      omega
open Go Go.RowKit
open Go.Proofs.YtlpcnaeknbmjdaaGreat.Sy (Let Blk)
def rxC (g o c : Nat) (l : List Nd) (loc : Int) : Sy.CallC := ⟨fRX, #[.slice (some ⟨g, o, none⟩) l.length c, .int .i64 loc], (0 ≤ loc ∧ loc ≤ 1000 ∧ goodN l) ∧ 0 < l.length, ⟨[(g, .seg o (ndCells l))], [], 0, []⟩, [Sy.plainO (.bool (tru (isExpr loc l)))]⟩
def ctxRX (g o c : Nat) (l : List Nd) (loc : Int) : Sy.Ctx := Sy.mkS [] [(fRX, fun a _ => loopZ1 g o c (Sy.ptrN (a.get 5)) l loc), (fRX, fun a _ => loopZ2 g o c (Sy.ptrN (a.get 5)) l loc)] []
def rx_o : Sy.O := (steps [0, 1, 0] (fork nil (steps [0, 1, 1, 0, 1, 0, 0, 0, 0] (fork (steps [0, 0, 1, 0, 0, 0] (fork (steps [0, 0] nil) (steps [0, 0] nil))) (steps [0, 0] nil)))))
noncomputable def rx_R (g o c : Nat) (l : List Nd) (loc : Int) (ns : Nat → Sy.Let) : Sy.Res (Value × List Blk) :=
 let z0 := Int.ofNat (List.length l)
 let z1 := leaf (Value.bool false, [])
 br (bif Ex.eqQ z0 0 then true else Ex.ltQ 65536 z0) z1 (need (0 ≤ Int.ofNat (List.length l) ∧ Int.toNat z0 * (1 : Nat) ≤ 281474976710656 ∧ Int.toNat z0 ≤ 9223372036854775807) (need ((0 ≤ loc ∧ loc ≤ 1000 ∧ goodN l) ∧ List.length l ≤ 65536) (both (hyp (nodesOk loc l ∧ List.Pairwise (fun (x1 x2 : Nat) => x1 ≠ x2) (refs l)) (need ((0 < List.length l ∧ treeOk loc l) ∧ List.length l ≤ 65536) (both (hyp (∀ (j : Nat), j < List.length l → List.countP.go (fun (x : Nat) => x == j) (refs l) 0 = if j + 1 < List.length l then 1 else 0) (leaf (Value.bool true, []))) (hyp (onceOk l → False) z1)))) (hyp (treeOk loc l → False) z1))))
theorem rx_run (g o c : Nat) (l : List Nd) (loc : Int) : Sy.Ran (Sy.inT Tryz.prog (ctxRX g o c l loc) 50 fRX (rxC g o c l loc).args (Sy.blks (rxC g o c l loc).mem) Sy.noB) rx_o (rx_R g o c l loc) := ⟨fun _ => by kernel_rfl, fun _ => by kernel_rfl⟩
theorem ctxRX_holds (g o c : Nat) (l : List Nd) (loc : Int) : (ctxRX g o c l loc).holds Tryz.prog := Sy.mkS_holds (fun _ h => (by cases h)) (fun p hp a L => by
 rcases List.mem_cons.1 hp with rfl | hp
 ·exact loopZ1_met _ _ _ _ _ _
 rcases List.mem_singleton.1 hp with rfl
 exact loopZ2_met _ _ _ _ _ _) (fun _ h => (by cases h))
theorem rxC_met (g o c : Nat) (l : List Nd) (loc : Int) : Sy.Meets Tryz.prog (rxC g o c l loc) := by
 refine Sy.meets_of (ctxRX_holds g o c l loc) mixed (rx_run g o c l loc) fun hok ns => ?_
 obtain ⟨h1, h2⟩ : (0 ≤ loc ∧ loc ≤ 1000 ∧ goodN l) ∧ 0 < l.length := hok
 simp only [rx_R, Sy.Res.holds, Int.ofNat_eq_natCast, Sy.b_and, Sy.b_or, Sy.b_not, Sy.b_f, Sy.b_and', Sy.b_or', Sy.q_lt, Sy.q_le, Sy.q_eq, Sy.b_tt, Sy.b_ft, not_true_eq_false, not_false_eq_true]
 refine ⟨fun h => Sy.plainO_leaf (Sy.mS _) rfl ?_, fun h => ⟨⟨Int.natCast_nonneg _, ?_, ?_⟩, ⟨h1, by omega⟩, fun hT => ⟨⟨⟨h2, hT⟩, by omega⟩, fun ho => Sy.plainO_leaf (Sy.mS _) rfl ?_, fun ho => Sy.plainO_leaf (Sy.mS _) rfl ?_⟩, fun hT => Sy.plainO_leaf (Sy.mS _) rfl ?_⟩⟩
 ·rw [tru_neg fun he => by have := he.2.2.1; omega]
 ·show l.length * 1 ≤ _
  omega
 ·show l.length ≤ _
  omega
 ·rw [tru_pos (p := isExpr loc l) ⟨hT.1, h2, by omega, ho⟩]
 ·rw [tru_neg fun he => ho he.2.2.2]
 ·rw [tru_neg fun he => hT ⟨he.1, refs_nodup he.1 he.2.2.2⟩]
abbrev fRN : FuncId := 139
def bodyV : Code := Sy.loopBody Tryz.f139 0
def needV (l : List Nd) (k : Nat) : List Value := (List.range l.length).map fun j => Value.int .i64 (if j < k then ((tr l j).needs : Int) else 0)
def slV (g o c gu n k : Nat) : List (Nat × Value) := [(0, .slice (some ⟨g, o, none⟩) n c), (2, .int .i64 0), (3, .slice (some ⟨gu, 0, none⟩) n n), (4, .int .i64 k)]
def v1_o : Sy.O := (steps [0] (fork (steps [0, 1, 0, 0, 1, 1, 1, 1, 1, 1, 0, 0, 0, 0, 1, 2, 0, 1, 0, 0, 0] (fork (steps [0, 0, 0, 0, 1, 0, 2, 1, 1, 1, 0, 1, 2, 0, 1, 1, 0, 0, 0, 2, 0, 1, 0, 0, 0, 2, 3, 4] (fork (steps [5, 0, 6, 0, 0, 0, 0, 7, 0, 0, 1, 8, 0, 0, 1, 1, 1, 1, 9, 0, 10, 0, 11, 0, 12, 0, 0, 1, 13, 0, 0, 1, 1, 1, 1, 14, 0, 15] (fork (steps [0, 0, 0, 0, 1, 0, 2, 1, 1, 1, 0, 1, 2, 0, 1] nil) nil)) (steps [5, 0, 6, 0, 7, 0, 8, 0, 9, 0, 10, 0, 11, 0, 12, 0, 13, 0, 14, 0, 15, 0] nil))) (steps [1, 0, 0, 0, 2, 0, 1, 0, 0, 0, 2, 3, 4] (fork (steps [5, 0, 6, 0, 0, 0, 0, 7, 0, 0, 1, 8, 0, 0, 1, 1, 1, 1, 9, 0, 10, 0, 11, 0, 12, 0, 0, 1, 13, 0, 0, 1, 1, 1, 1, 14, 0, 15] (fork (steps [0, 0, 0, 0, 1, 0, 2, 1, 1, 1, 0, 1, 2, 0, 1] nil) nil)) (steps [5, 0, 6, 0, 7, 0, 8, 0, 9, 0, 10, 0, 11, 0, 12, 0, 13, 0, 14, 0, 15, 0] nil))))) nil))
noncomputable def v1_R (g o c gu n k : Nat) (xs us rest : List Value) (ns : Nat → Sy.Let) : Sy.Res (Exit × Nat × List Value × List Blk) :=
 let z0 := 0 ≤ (↑k : Int) ∧ (↑k : Int) < (↑n : Int)
 let z1 := Sy.Cont.seg o xs
 let z2 := o + Int.toNat (↑k : Int) * 4
 let z3 := o + Int.toNat (↑k : Int) * 4 + 1
 let z4 := o + Int.toNat (↑k : Int) * 4 + 1 + 1
 let z5 := o + Int.toNat (↑k : Int) * 4 + 1 + 1 + 1
 let z6 := 0 + Int.toNat (↑k : Int) * 1
 let z7 := List.set us z6 (Value.int .i64 1)
 let z8 := Sy.Cont.row 3 1 n n z7
 let z9 := 0 + Int.toNat (ns 2).i * 1
 let z10 := Value.int .i64 (ns 5).i
 let z11 := 0 + Int.toNat (↑k : Int) * 1 < List.length z7
 let z12 := Ex.leQ 6 (ns 0).i
 let z13 := 0 ≤ (ns 3).i ∧ (ns 3).i < (↑n : Int)
 let z14 := List.set z7 z6 z10
 let z15 := Sy.Cont.row 3 1 n n z14
 let z16 := 0 + Int.toNat (ns 3).i * 1
 let z17 := (∃ (i : Int), Sy.Cont.at z15 z16 = some (Value.int .i64 i))
 let z18 := Value.int .i64 (ns 6).i
 let z19 := Value.int .i64 (ns 7).i
 let z20 := some (Addr.mk g o none)
 let z21 := some (Addr.mk gu 0 none)
 let z22 := [Value.slice z20 n c, Value.int .i64 0, Value.slice z21 n n, Value.int .i64 (Ex.wrapQ .i64 (Ex.addQ (↑k : Int) 1))]
 let z23 := Sy.Cont.obj (Obj.cells (Array.mk [.int .i64 (ns 0).i, .int .u64 (ns 1).i, .int .i64 (ns 2).i, .int .i64 (ns 3).i]) 127)
 let z24 := leaf (Exit.normal, 64, z22, [Blk.mk (ns 4).n z23 true, Blk.mk g z1 false, Blk.mk gu z15 true])
 let z25 := (∃ (i : Int), Sy.Cont.at z8 z16 = some (Value.int .i64 i))
 let z26 := leaf (Exit.normal, 64, z22, [Blk.mk (ns 4).n z23 true, Blk.mk g z1 false, Blk.mk gu z8 true])
 br (Ex.ltQ (↑k : Int) (Int.ofNat n)) (need z0 (need (∃ (i : Int), Sy.Cont.at z1 z2 = some (Value.int .i64 i)) (hyp (Sy.Cont.at z1 z2 = some (Value.int .i64 (ns 0).i)) (need (∃ (i : Int), Sy.Cont.at z1 z3 = some (Value.int .u64 i)) (hyp (Sy.Cont.at z1 z3 = some (Value.int .u64 (ns 1).i)) (need (∃ (i : Int), Sy.Cont.at z1 z4 = some (Value.int .i64 i)) (hyp (Sy.Cont.at z1 z4 = some (Value.int .i64 (ns 2).i)) (need (∃ (i : Int), Sy.Cont.at z1 z5 = some (Value.int .i64 i)) (hyp (Sy.Cont.at z1 z5 = some (Value.int .i64 (ns 3).i)) (need z0 (need (0 + Int.toNat (↑k : Int) * 1 < List.length us) (br (Ex.leQ 3 (ns 0).i) (need (0 ≤ (ns 2).i ∧ (ns 2).i < (↑n : Int)) (need (∃ (i : Int), Sy.Cont.at z8 z9 = some (Value.int .i64 i)) (hyp (Sy.Cont.at z8 z9 = some z10) (need z0 (need z11 (br z12 (need z13 (need z17 (hyp (Sy.Cont.at z15 z16 = some z18) (need z0 (need (∃ (i : Int), Sy.Cont.at z15 z6 = some (Value.int .i64 i)) (hyp (Sy.Cont.at z15 z6 = some z19) (br (bif true then Ex.ltQ (ns 7).i (Ex.wrapQ .i64 (Ex.addQ (ns 6).i 1)) else false) (need z13 (need z17 (hyp (Sy.Cont.at z15 z16 = some (Value.int .i64 (ns 8).i)) (need z0 (need (0 + Int.toNat (↑k : Int) * 1 < List.length z14) (leaf (Exit.normal, 64, z22, [Blk.mk (ns 4).n z23 true, Blk.mk g z1 false, Blk.mk gu (Sy.Cont.row 3 1 n n (List.set z14 z6 (Value.int .i64 (Ex.wrapQ .i64 (Ex.addQ (ns 8).i 1))))) true]))))))) z24))))))) z24)))))) (br z12 (need z13 (need z25 (hyp (Sy.Cont.at z8 z16 = some z10) (need z0 (need (∃ (i : Int), Sy.Cont.at
 z8 z6 = some (Value.int .i64 i)) (hyp (Sy.Cont.at z8 z6 = some z18) (br (bif true then Ex.ltQ (ns 6).i (Ex.wrapQ .i64 (Ex.addQ (ns 5).i 1)) else false) (need z13 (need z25 (hyp (Sy.Cont.at z8 z16 = some z19) (need z0 (need z11 (leaf (Exit.normal, 64, z22, [Blk.mk (ns 4).n z23 true, Blk.mk g z1 false, Blk.mk gu (Sy.Cont.row 3 1 n n (List.set z7 z6 (Value.int .i64 (Ex.wrapQ .i64 (Ex.addQ (ns 7).i 1))))) true]))))))) z26))))))) z26))))))))))))) (leaf (Exit.exit 0, 64, [Value.slice z20 n c, Value.int .i64 0, Value.slice z21 n n, Value.int .i64 (↑k : Int)], [Blk.mk g z1 false, Blk.mk gu (Sy.Cont.row 3 1 n n us) true]))
theorem v1_run (g o c gu n k : Nat) (xs us : List Value) (rest : List Value) : Sy.Ran (Sy.pieceT Tryz.prog Sy.S0 50 fRN bodyV 64 (slV g o c gu n k) rest [⟨g, .seg o xs, false⟩, ⟨gu, .row tInt 1 n n us, true⟩] [0, 2, 3, 4]) v1_o (v1_R g o c gu n k xs us rest) := ⟨fun _ => by kernel_rfl, fun _ => by kernel_rfl⟩
theorem needV_length (l : List Nd) (k : Nat) : (needV l k).length = l.length := by simp [needV]
theorem needV_zero (l : List Nd) : needV l 0 = List.replicate l.length (.int .i64 0) := by
 apply List.ext_getElem
 ·simp [needV]
 ·intro i h1 h2
  simp [needV]
theorem needV_get {l : List Nd} {k a : Nat} (h : a < l.length) : (needV l k)[a]? = some (.int .i64 (if a < k then ((tr l a).needs : Int) else 0)) := by simp [needV, h]
theorem needV_at {l : List Nd} {k a : Nat} (hk : k ≤ l.length) (h : a < k) (v : Value) (e : TypeId) (s m c : Nat) : (Sy.Cont.row e s m c ((needV l k).set (0 + k * 1) v)).at (0 + a * 1) = some (.int .i64 (tr l a).needs) := by
 show ((needV l k).set (0 + k * 1) v)[0 + a * 1]? = _
 rw [Nat.zero_add, Nat.mul_one, Nat.zero_add, Nat.mul_one, List.getElem?_set, if_neg (by omega), needV_get (by omega), if_pos h]
theorem needV_self {l : List Nd} {k : Nat} (h : k < l.length) (v : Value) (e : TypeId) (s m c : Nat) : (Sy.Cont.row e s m c ((needV l k).set (0 + k * 1) v)).at (0 + k * 1) = some v := by
 show ((needV l k).set (0 + k * 1) v)[0 + k * 1]? = _
 rw [Nat.zero_add, Nat.mul_one, List.getElem?_set, if_pos rfl, needV_length, if_pos h]
theorem needV_set {l : List Nd} {k : Nat} (h : k < l.length) : (needV l k).set (0 + k * 1) (.int .i64 (tr l k).needs) = needV l (k + 1) := by
 rw [Nat.zero_add, Nat.mul_one]
 apply List.ext_getElem?
 intro j
 rw [List.getElem?_set]
 by_cases hj : j < l.length
 ·rw [needV_get hj, needV_length]
  split
  ·rename_i e
   subst e
   rw [needV_get hj, if_pos (by omega)]
  ·rename_i e
   rw [needV_get hj]
   by_cases hjk : j < k
   ·rw [if_pos hjk, if_pos (by omega)]
   ·rw [if_neg hjk, if_neg (by omega)]
 ·rw [List.getElem?_eq_none (by rw [needV_length]; omega), List.getElem?_eq_none (by rw [needV_length]; omega)]
  split
  ·omega
  ·rfl
theorem setN_length (l : List Nd) (k : Nat) (j : Nat) (v : Value) : ((needV l k).set j v).length = l.length := by rw [List.length_set, needV_length]
def loopV (g o c gu : Nat) (l : List Nd) : Sy.LoopC :=
 ⟨.loop bodyV, 64, slV g o c gu l.length 0, isExpr 24 l, ⟨[(g, .seg o (ndCells l))], [(gu, .row tInt 1 l.length l.length (List.replicate l.length (.int .i64 0)))], 0, []⟩,
  [(⟨fun _ => True, fun _ => [(gu, .row tInt 1 l.length l.length (needV l l.length))], fun _ => []⟩, .exit 0, fun _ => [(0, .slice (some ⟨g, o, none⟩) l.length c), (2, .int .i64 0), (3, .slice (some ⟨gu, 0, none⟩) l.length l.length)])]⟩
theorem loopV_met (g o c gu : Nat) (l : List Nd) : Sy.MeetsL Tryz.prog (loopV g o c gu l) := by
 refine Sy.loop_of (n := 50) (fn := fRN) Sy.S0_holds mixed (body := bodyV) rfl [0, 2, 3, 4] (fun k : Nat => slV g o c gu l.length k) (fun k => [⟨g, .seg o (ndCells l), false⟩, ⟨gu, .row tInt 1 l.length l.length (needV l k), true⟩])
  (fun k => k ≤ l.length) (fun k => l.length - k)
  0 (fun h => Nat.zero_le _) (fun p hp => hp) [0, 1] (by decide) (by rw [needV_zero]; rfl) (o := fun _ => v1_o) (R := fun k xs => v1_R g o c gu l.length k (ndCells l) (needV l k) xs) (fun k xs _ => v1_run g o c gu l.length k (ndCells l) (needV l k) xs) ?_
 rintro hE k rest hk ns
 have hok := hE.1
 have hm := hE.2.2.1
 simp only [v1_R, Sy.Res.holds, Int.ofNat_eq_natCast, Sy.b_and, Sy.b_or, Sy.b_not, Sy.b_f, Sy.b_and', Sy.b_or', Sy.q_lt, Sy.q_le, Sy.q_eq, Sy.b_tt, Sy.b_ft, not_true_eq_false, not_false_eq_true, List.set_set, Int.toNat_natCast, setN_length, needV_length]
 refine ⟨fun hlt => ?_, fun hge => ?_⟩
 ·have hlt : k < l.length := by omega
  have ea : l[k]? = some l[k] := List.getElem?_eq_getElem hlt
  obtain ⟨a0, a1, a2, a3⟩ := nd_at ea o
  rw [Int.toNat_natCast] at a0 a1 a2 a3
  simp only [a0, a1, a2, a3, some_int, some_bool, exists_eq', true_and]
  generalize l[k] = x at *
  refine ⟨by omega, fun h0 h1 h2 h3 => ⟨by omega, by omega, ?_⟩⟩
  simp only [← h0, ← h1, ← h2, ← h3]
  have hx := hok k x ea
  have inc := Sy.inc_q k (by omega)
  have fin : ∀ B v, v = ((tr l k).needs : Int) → Sy.leafL (loopV g o c gu l) [0, 2, 3, 4] (fun k : Nat => slV g o c gu l.length k) (fun k => [⟨g, .seg o (ndCells l), false⟩, ⟨gu, .row tInt 1 l.length l.length (needV l k), true⟩])
    (fun k => k ≤ l.length) (fun k => l.length - k) k (Exit.normal, 64, [.slice (some ⟨g, o, none⟩) l.length c, .int .i64 0, .slice (some ⟨gu, 0, none⟩) l.length l.length, .int .i64 (Ex.wrapQ IntKind.i64 (Ex.addQ (↑k : Int) 1))],
     [B, ⟨g, .seg o (ndCells l), false⟩, ⟨gu, .row tInt 1 l.length l.length ((needV l k).set (0 + k * 1) (.int .i64 v)), true⟩]) := fun B v hv => by
   rw [hv, needV_set hlt]
   exact Sy.leafL_next (k + 1) rfl (show k + 1 ≤ l.length by omega) (by show l.length - (k + 1) < l.length - k; omega) (by rw [inc]; rfl) [1, 2] (by decide) rfl
  refine ⟨fun c3 => ?_, fun c3 => ⟨fun c6 => absurd c6 (by omega), fun _ => fin _ _ ?_⟩⟩
  ·have ha := ok_a hx c3
   simp only [needV_at hk (show x.a.toNat < k by omega), needV_self hlt, some_int, some_bool, exists_eq', true_and]
   refine ⟨by omega, fun h5 => ⟨by omega, by omega, ?_⟩⟩
   rw [← h5]
   refine ⟨fun c6 => ?_, fun c6 => fin _ _ ?_⟩
   ·have hb := ok_b hx c6
    simp only [needV_at hk (show x.b.toNat < k by omega), some_int, some_bool, exists_eq', true_and]
    have hbs := tr_small hE (i := x.b.toNat) (by omega)
    have hbn := (tr l x.b.toNat).needs_le
    refine ⟨by omega, fun h6 => ⟨by omega, fun h7 => ?_⟩⟩
    have hq := Sy.inc_q (tr l x.b.toNat).needs (by omega)
    rw [← h6, ← h7, hq]
    refine ⟨fun hc => ⟨by omega, fun h8 => ⟨by omega, by omega, ?_⟩⟩, fun hc => fin _ _ ?_⟩
    ·rw [← h8, hq]
     refine fin _ _ ?_
     rw [tr_bin ea c6 (by omega) (by omega)]
     simp only [E.needs]
     omega
    ·rw [tr_bin ea c6 (by omega) (by omega)]
     simp only [E.needs]
     omega
   ·rw [tr_un ea c3 (by omega) (by omega)]; rfl
  ·by_cases h1 : x.op ≤ 1
   ·rw [tr_num ea h1]; rfl
   ·rw [tr_loc ea (by omega)]; rfl
 ·have hkl : k = l.length := by omega
  subst hkl
  exact Sy.leafL_end 0 rfl rfl (by simp) rfl [] rfl [0, 1, 2] rfl [1] (by decide) ⟨⟨rfl, rfl, .inl rfl⟩, trivial⟩ trivial
open Go Go.RowKit
open Go.Proofs.YtlpcnaeknbmjdaaGreat.Sy (Let Blk)
def rnC (g o c : Nat) (l : List Nd) : Sy.CallC := ⟨fRN, #[.slice (some ⟨g, o, none⟩) l.length c], isExpr 24 l, ⟨[(g, .seg o (ndCells l))], [], 0, []⟩, [Sy.plainO (.int .i64 (tr l (l.length - 1)).needs)]⟩
def ctxRN (g o c : Nat) (l : List Nd) : Sy.Ctx := Sy.mkS [] [(fRN, fun a _ => loopV g o c (Sy.ptrN (a.get 3)) l)] []
def rn_o : Sy.O := (steps [0, 1, 1, 0, 1, 0, 0, 0, 0, 0, 0, 0, 0, 1, 0, 0, 1, 1, 1] nil)
noncomputable def rn_R (g o c : Nat) (l : List Nd) (ns : Nat → Sy.Let) : Sy.Res (Value × List Blk) :=
 let z0 := List.length l
 let z1 := Int.ofNat z0
 let z2 := Ex.subQ' z1 1
 let z3 := Sy.Cont.row 3 1 z0 z0 (needV l z0)
 let z4 := 0 + Int.toNat (Ex.wrapQ .i64 z2) * 1
 need (0 ≤ Int.ofNat z0 ∧ Int.toNat z1 * (8 : Nat) ≤ 281474976710656 ∧ Int.toNat z1 ≤ 9223372036854775807) (need (nodesOk 24 l ∧ 0 < List.length l ∧ List.length l ≤ 65536 ∧ onceOk l) (hyp True (need (0 ≤ Ex.wrapQ .i64 z2 ∧ Ex.wrapQ .i64 z2 < (↑z0 : Int)) (need (∃ (i : Int), Sy.Cont.at z3 z4 = some (Value.int .i64 i)) (hyp (Sy.Cont.at z3 z4 = some (Value.int .i64 (ns 2).i)) (leaf (Value.int .i64 (ns 2).i, [])))))))
theorem rn_run (g o c : Nat) (l : List Nd) : Sy.Ran (Sy.inT Tryz.prog (ctxRN g o c l) 50 fRN (rnC g o c l).args (Sy.blks (rnC g o c l).mem) Sy.noB) rn_o (rn_R g o c l) := ⟨fun _ => by kernel_rfl, fun _ => by kernel_rfl⟩
theorem rnC_met (g o c : Nat) (l : List Nd) : Sy.Meets Tryz.prog (rnC g o c l) := by
 have HS : (ctxRN g o c l).holds Tryz.prog := Sy.mkS_holds (fun _ h => (by cases h)) (fun p hp a L => by
  rcases List.mem_singleton.1 hp with rfl
  exact loopV_met _ _ _ _ _) (fun _ h => (by cases h))
 refine Sy.meets_of HS mixed (rn_run g o c l) fun hok ns => ?_
 have hE : isExpr 24 l := hok
 have hpos := hE.2.1
 have hm := hE.2.2.1
 have e : l.length - 1 < l.length := by omega
 have at' : (Sy.Cont.row tInt 1 l.length l.length (needV l l.length)).at (0 + (l.length - 1) * 1) = some (.int .i64 (tr l (l.length - 1)).needs) := by
  show (needV l l.length)[0 + (l.length - 1) * 1]? = _
  rw [Nat.zero_add, Nat.mul_one, needV_get e, if_pos e]
 simp only [rn_R, Sy.Res.holds, Int.ofNat_eq_natCast, Sy.b_and, Sy.b_or, Sy.b_not, Sy.b_f, Sy.b_and', Sy.b_or', Sy.q_lt, Sy.q_le, Sy.q_eq, Sy.b_tt, Sy.b_ft, not_true_eq_false, not_false_eq_true, dec_q l.length hpos (by omega), Int.toNat_natCast, at', some_int, some_bool, exists_eq', true_and]
 refine ⟨⟨Int.natCast_nonneg _, ?_, ?_⟩, hE, fun _ => ⟨by omega, fun h => Sy.plainO_leaf (Sy.mS _) rfl (by rw [← h])⟩⟩
 ·show l.length * 8 ≤ _
  omega
 ·show l.length ≤ _
  omega
abbrev fLay : FuncId := 140
abbrev fRNum : FuncId := 138
def rlayA (g o c : Nat) (l : List Nd) (i0 : Nat) (gl n cap : Nat) (xs : List Value) (i t : Int) : Sy.CallC :=
 ⟨fLay, #[.slice (some ⟨gl, 0, none⟩) n cap, .slice (some ⟨g, o, none⟩) l.length c, .int .i64 i, .int .i64 t], ((isExpr 24 l ∧ goodN l) ∧ n + (lay (tr l i.toNat) t).length ≤ 900000) ∧ 0 ≤ i ∧ i < l.length ∧ i < i0 ∧ 24 ≤ t ∧ t + (tr l i.toNat).needs ≤ 29,
  ⟨[(g, .seg o (ndCells l))], [(gl, .row tI 6 n cap xs)], 2, []⟩, [Sy.rowO tI 6 (n + (lay (tr l i.toNat) t).length) (xs ++ insCells (lay (tr l i.toNat) t)) id]⟩
def rlay0 (g o c : Nat) (l : List Nd) (i0 : Nat) (i t : Int) : Sy.CallC :=
 ⟨fLay, #[.slice none 0 0, .slice (some ⟨g, o, none⟩) l.length c, .int .i64 i, .int .i64 t], (isExpr 24 l ∧ goodN l) ∧ 0 ≤ i ∧ i < l.length ∧ i < i0 ∧ 24 ≤ t ∧ t + (tr l i.toNat).needs ≤ 29,
  ⟨[(g, .seg o (ndCells l))], [], 2, []⟩, [Sy.rowO tI 6 (lay (tr l i.toNat) t).length (insCells (lay (tr l i.toNat) t)) id]⟩
def Sy.lenV (v : Value) : Nat := match v with
 | .slice _ n _ => n
 | _ => 0
def Sy.firstRow : List Blk → List Value
 | [] => []
 | b :: L => match b.ct with
   | .row _ _ _ _ xs => xs
   | _ => Sy.firstRow L
def ctxY (g o c : Nat) (l : List Nd) (i0 : Nat) : Sy.Ctx := Sy.mkS [(fLay, fun a L => rlay0 g o c l i0 (Sy.argI a 2) (Sy.argI a 3)), (fLay, fun a L => rlayA g o c l i0 (Sy.ptrN (Sy.argV a 0)) (Sy.lenV (Sy.argV a 0)) (Sy.capN (Sy.argV a 0)) (Sy.firstRow L) (Sy.argI a 2) (Sy.argI a 3)),
 (fRNum, fun a _ => rnum0 (Sy.argI a 1) (Sy.argI a 2)), (fRNum, fun a L => rnumA (Sy.ptrN (Sy.argV a 0)) (Sy.lenV (Sy.argV a 0)) (Sy.capN (Sy.argV a 0)) (Sy.firstRow L) (Sy.argI a 1) (Sy.argI a 2)),
 (fPlain, fun a _ => plC (Sy.argI a 0)), (fCond, fun a _ => cdC (Sy.argI a 0))] [] []
def la_o : Sy.O := (steps [0, 1, 0, 0, 1, 1, 1, 1, 1, 1, 0, 0, 0, 0, 0, 0] (fork (steps [0, 0, 0, 1, 2, 0, 0, 0, 0] nil) (steps [0, 0, 0] (fork (steps [0, 0, 0, 0, 0, 0, 3, 0, 1, 1, 0, 0, 2, 0, 0, 0, 0] nil) (steps [0, 0, 0, 1, 1, 0, 1, 0, 0, 0, 0, 0, 2, 0] (fork (steps [0, 0, 0, 1, 0, 1, 1, 0, 0, 0, 0, 0, 0, 0] nil) (fork (steps [0, 0, 0, 1, 0, 1, 1, 0, 0, 0, 0, 0, 0, 0] nil) (fork (steps [0, 0, 0, 1, 0, 1, 1, 0, 0, 0, 0, 0, 0, 0] nil) (steps [0, 2, 0, 1, 1, 0, 0, 0, 0, 0, 0, 0, 2, 0, 0, 0, 0, 0] (fork (steps [0, 2, 0, 0, 0, 0, 0, 0, 0, 0, 1, 0, 1, 1, 0, 0, 0, 0, 0, 0, 0] nil) (steps [0, 2, 0, 0, 0, 0, 0, 0, 0, 0, 1, 0, 1, 1, 0, 0, 0, 0, 0, 0, 0] nil)))))))))))
noncomputable def la_R (g o c : Nat) (l : List Nd) (gl n cap : Nat) (xs : List Value) (i t : Int) (i0 : Nat) (ns : Nat → Sy.Let) : Sy.Res (Value × List Blk) :=
 let z0 := Sy.Cont.seg o (ndCells l)
 let z1 := o + Int.toNat i * 4
 let z2 := ns 0
 let z3 := o + Int.toNat i * 4 + 1
 let z4 := o + Int.toNat i * 4 + 1 + 1
 let z5 := o + Int.toNat i * 4 + 1 + 1 + 1
 let z6 := n + List.length (numL t (ns 1).i)
 let z7 := ns 6
 let z8 := n + 1
 let z9 := isExpr 24 l ∧ goodN l
 let z10 := tr l (Int.toNat (ns 2).i)
 let z11 := lay z10 t
 let z12 := n + List.length z11 + (1 : Nat) ≤ 9223372036854775807
 let z13 := n + List.length z11 + 1
 let z14 := z13 * (48 : Nat) ≤ 140737488355328
 let z15 := ns 9
 let z16 := some (Addr.mk (ns 8).n 0 none)
 let z17 := xs.append (insCells z11)
 let z18 := n + List.length z11 + 2
 let z19 := tr l (Int.toNat (ns 3).i)
 let z20 := Ex.addQ t 1
 let z21 := Ex.wrapQ .i64 z20
 let z22 := lay z19 z21
 let z23 := n + List.length z11 + List.length z22 + 1
 let z24 := ns 11
 let z25 := some (Addr.mk (ns 10).n 0 none)
 let z26 := z17.append (insCells z22)
 let z27 := n + List.length z11 + List.length z22 + 2
 need (0 ≤ i ∧ i < (↑(List.length l) : Int)) (need (∃ (i_1 : Int), Sy.Cont.at z0 z1 = some (Value.int .i64 i_1)) (hyp (Sy.Cont.at z0 z1 = some (Value.int .i64 z2.i)) (need (∃ (i_1 : Int), Sy.Cont.at z0 z3 = some (Value.int .u64 i_1)) (hyp (Sy.Cont.at z0 z3 = some (Value.int .u64 (ns 1).i)) (need (∃ (i_1 : Int), Sy.Cont.at z0 z4 = some (Value.int .i64 i_1)) (hyp (Sy.Cont.at z0 z4 = some (Value.int .i64 (ns 2).i)) (need (∃ (i_1 : Int), Sy.Cont.at z0 z5 = some (Value.int .i64 i_1)) (hyp (Sy.Cont.at z0 z5 = some (Value.int .i64 (ns 3).i)) (br (Ex.eqQ z2.i 1) (need (goodU (ns 1).i ∧ n ≤ 1000000) (hyp (Nat.le z6 z7.n) (leaf (Value.slice (some ⟨(ns 5).n, 0, none⟩) z6 z7.n, [Blk.mk (ns 5).n (Sy.Cont.row 49 6 z6 z7.n (xs.append (insCells (numL t (ns 1).i)))) true])))) (br (Ex.eqQ z2.i 2) (need (n + (1 : Nat) ≤ 9223372036854775807) (need (z8 * (48 : Nat) ≤ 140737488355328) (hyp (Nat.le z8 (ns 7).n) (leaf (Value.slice (some (Addr.mk z7.n 0 none)) z8 (ns 7).n, [Blk.mk z7.n (Sy.Cont.row 49 6 z8 (ns 7).n (xs.append [Value.int .i64 6, Value.int .i64 t, Value.int .i64 31, Value.int .i64 (Ex.wrapQ .i64 (ns 1).i), Value.int .i64 0, Value.int .i64 0])) true]))))) (need ((z9 ∧ n + List.length z11 ≤ 900000) ∧ 0 ≤ (ns 2).i ∧ (ns 2).i < (↑(List.length l) : Int) ∧ (ns 2).i < (↑i0 : Int) ∧ 24 ≤ t ∧ t + (↑(E.needs z10) : Int) ≤ 29) (hyp (Nat.le (n + List.length z11) z7.n) (br (Ex.eqQ z2.i 3) (need z12 (need z14 (hyp (Nat.le z13 z15.n) (leaf (Value.slice z16 z13 z15.n, [Blk.mk (ns 8).n (Sy.Cont.row 49 6
 z13 z15.n (z17.append [Value.int .i64 4, Value.int .i64 t, Value.int .i64 31, Value.int .i64 t, Value.int .i64 0, Value.int .i64 0])) true]))))) (br (Ex.eqQ z2.i 4) (need z12 (need z14 (hyp (Nat.le z13 z15.n) (leaf (Value.slice z16 z13 z15.n, [Blk.mk (ns 8).n (Sy.Cont.row 49 6 z13 z15.n (z17.append [Value.int .i64 8, Value.int .i64 t, Value.int .i64 31, Value.int .i64 t, Value.int .i64 0, Value.int .i64 0])) true]))))) (br (Ex.eqQ z2.i 5) (need (n + List.length z11 + (2 : Nat) ≤ 9223372036854775807) (need (z18 * (48 : Nat) ≤ 140737488355328) (hyp (Nat.le z18 z15.n) (leaf (Value.slice z16 z18 z15.n, [Blk.mk (ns 8).n (Sy.Cont.row 49 6 z18 z15.n (z17.append [Value.int .i64 16, Value.int .i64 0, Value.int .i64 t, Value.int .i64 31, Value.int .i64 0, Value.int .i64 0, Value.int .i64 17, Value.int .i64 t, Value.int .i64 0, Value.int .i64 0, Value.int .i64 0, Value.int .i64 0])) true]))))) (need ((z9 ∧ n + List.length z11 + List.length z22 ≤ 900000) ∧ 0 ≤ (ns 3).i ∧ (ns 3).i < (↑(List.length l) : Int) ∧ (ns 3).i < (↑i0 : Int) ∧ 24 ≤ Ex.wrapQ .i64 z20 ∧ Ex.wrapQ .i64 z20 + (↑(E.needs z19) : Int) ≤ 29) (hyp (Nat.le (n + List.length z11 + List.length z22) (ns 8).n) (need True (hyp True (br (!Ex.eqQ (binOp z2.i) 0) (need True (hyp True (need (n + List.length z11 + List.length z22 + (1 : Nat) ≤ 9223372036854775807) (need (z23 * (48 : Nat) ≤ 140737488355328) (hyp (Nat.le z23 z24.n) (leaf (Value.slice z25 z23 z24.n, [Blk.mk (ns 10).n (Sy.Cont.row 49 6 z23 z24.n (z26.append [Value.int .i64
 (binOp z2.i), Value.int .i64 t, Value.int .i64 t, Value.int .i64 z21, Value.int .i64 0, Value.int .i64 0])) true]))))))) (need True (hyp True (need (n + List.length z11 + List.length z22 + (2 : Nat) ≤ 9223372036854775807) (need (z27 * (48 : Nat) ≤ 140737488355328) (hyp (Nat.le z27 z24.n) (leaf (Value.slice z25 z27 z24.n, [Blk.mk (ns 10).n (Sy.Cont.row 49 6 z27 z24.n (z26.append [Value.int .i64 16, Value.int .i64 0, Value.int .i64 t, Value.int .i64 z21, Value.int .i64 0, Value.int .i64 0, Value.int .i64 17, Value.int .i64 t, Value.int .i64 0, Value.int .i64 0, Value.int .i64 0, Value.int .i64 (binCond z2.i)])) true])))))))))))))))))))))))))))
theorem la_run (g o c : Nat) (l : List Nd) (gl n cap : Nat) (xs : List Value) (i t : Int) (i0 : Nat) : Sy.Ran (Sy.inT Tryz.prog (ctxY g o c l i0) 60 fLay (rlayA g o c l i0 gl n cap xs i t).args (Sy.blks (rlayA g o c l i0 gl n cap xs i t).mem) Sy.rowB) la_o (la_R g o c l gl n cap xs i t i0) := ⟨fun _ => by kernel_rfl, fun _ => by kernel_rfl⟩
def l0_o : Sy.O := (steps [0, 1, 0, 0, 1, 1, 1, 1, 1, 1, 0, 0, 0, 0, 0, 0] (fork (steps [0, 0, 0, 0, 0, 0, 0] nil) (steps [0, 0, 0] (fork (steps [0, 0, 0, 0, 0, 0, 0, 0, 0, 0, 0, 0, 0, 0] nil) (steps [0, 0, 0, 0, 1, 0, 0, 0, 0, 0, 2, 0] (fork (steps [0, 0, 0, 1, 0, 1, 1, 0, 0, 0, 0, 0, 0, 0] nil) (fork (steps [0, 0, 0, 1, 0, 1, 1, 0, 0, 0, 0, 0, 0, 0] nil) (fork (steps [0, 0, 0, 1, 0, 1, 1, 0, 0, 0, 0, 0, 0, 0] nil) (steps [0, 2, 0, 1, 1, 0, 0, 0, 0, 0, 0, 0, 2, 0, 0, 0, 0, 0] (fork (steps [0, 2, 0, 0, 0, 0, 0, 0, 0, 0, 1, 0, 1, 1, 0, 0, 0, 0, 0, 0, 0] nil) (steps [0, 2, 0, 0, 0, 0, 0, 0, 0, 0, 1, 0, 1, 1, 0, 0, 0, 0, 0, 0, 0] nil)))))))))))
noncomputable def l0_R (g o c : Nat) (l : List Nd) (i t : Int) (i0 : Nat) (ns : Nat → Sy.Let) : Sy.Res (Value × List Blk) :=
 let z0 := Sy.Cont.seg o (ndCells l)
 let z1 := o + Int.toNat i * 4
 let z2 := ns 0
 let z3 := o + Int.toNat i * 4 + 1
 let z4 := o + Int.toNat i * 4 + 1 + 1
 let z5 := o + Int.toNat i * 4 + 1 + 1 + 1
 let z6 := List.length (numL t (ns 1).i)
 let z7 := ns 6
 let z8 := ns 7
 let z9 := [Value.int .i64 6, Value.int .i64 t, Value.int .i64 31, Value.int .i64 (Ex.wrapQ .i64 (ns 1).i), Value.int .i64 0, Value.int .i64 0]
 let z10 := isExpr 24 l ∧ goodN l
 let z11 := tr l (Int.toNat (ns 2).i)
 let z12 := lay z11 t
 let z13 := List.length z12 + (1 : Nat) ≤ 9223372036854775807
 let z14 := List.length z12 + 1
 let z15 := z14 * (48 : Nat) ≤ 140737488355328
 let z16 := ns 9
 let z17 := some (Addr.mk (ns 8).n 0 none)
 let z18 := insCells z12
 let z19 := [Value.int .i64 4, Value.int .i64 t, Value.int .i64 31, Value.int .i64 t, Value.int .i64 0, Value.int .i64 0]
 let z20 := [Value.int .i64 8, Value.int .i64 t, Value.int .i64 31, Value.int .i64 t, Value.int .i64 0, Value.int .i64 0]
 let z21 := List.length z12 + 2
 let z22 := [Value.int .i64 16, Value.int .i64 0, Value.int .i64 t, Value.int .i64 31, Value.int .i64 0, Value.int .i64 0, Value.int .i64 17, Value.int .i64 t, Value.int .i64 0, Value.int .i64 0, Value.int .i64 0, Value.int .i64 0]
 let z23 := tr l (Int.toNat (ns 3).i)
 let z24 := Ex.addQ t 1
 let z25 := Ex.wrapQ .i64 z24
 let z26 := lay z23 z25
 let z27 := List.length z12 + List.length z26 + 1
 let z28 := ns 11
 let z29 := some (Addr.mk (ns 10).n 0 none)
 let z30 := z18.append (insCells z26)
 let z31 := [Value.int .i64 (binOp z2.i), Value.int .i64 t, Value.int .i64 t, Value.int .i64 z25, Value.int .i64 0, Value.int .i64 0]
 let z32 := List.length z12 + List.length z26 + 2
 let z33 := [Value.int .i64 16, Value.int .i64 0, Value.int .i64 t, Value.int .i64 z25, Value.int .i64 0, Value.int .i64 0, Value.int .i64 17, Value.int .i64 t, Value.int .i64 0, Value.int .i64 0, Value.int .i64 0, Value.int .i64 (binCond z2.i)]
 need (0 ≤ i ∧ i < (↑(List.length l) : Int)) (need (∃ (i_1 : Int), Sy.Cont.at z0 z1 = some (Value.int .i64 i_1)) (hyp (Sy.Cont.at z0 z1 = some (Value.int .i64 z2.i)) (need (∃ (i_1 : Int), Sy.Cont.at z0 z3 = some (Value.int .u64 i_1)) (hyp (Sy.Cont.at z0 z3 = some (Value.int .u64 (ns 1).i)) (need (∃ (i_1 : Int), Sy.Cont.at z0 z4 = some (Value.int .i64 i_1)) (hyp (Sy.Cont.at z0 z4 = some (Value.int .i64 (ns 2).i)) (need (∃ (i_1 : Int), Sy.Cont.at z0 z5 = some (Value.int .i64 i_1)) (hyp (Sy.Cont.at z0 z5 = some (Value.int .i64 (ns 3).i)) (br (Ex.eqQ z2.i 1) (need (0 ≤ (ns 1).i ∧ (ns 1).i < 18446744073709551616) (hyp (Nat.le z6 z7.n) (leaf (Value.slice (some ⟨(ns 5).n, 0, none⟩) z6 z7.n, [Blk.mk (ns 5).n (Sy.Cont.row 49 6 z6 z7.n (insCells (numL t (ns 1).i))) true])))) (br (Ex.eqQ z2.i 2) (hyp (Nat.le 1 z8.n) (leaf (Value.slice (some (Addr.mk z7.n 0 none)) 1 z8.n, [Blk.mk z7.n (Sy.Cont.row 49 6 1 z8.n z9) true, Blk.mk (ns 5).n (.obj (.cells (Array.mk z9) 49)) true]))) (need (z10 ∧ 0 ≤ (ns 2).i ∧ (ns 2).i < (↑(List.length l) : Int) ∧ (ns 2).i < (↑i0 : Int) ∧ 24 ≤ t ∧ t + (↑(E.needs z11) : Int) ≤ 29) (hyp (Nat.le (List.length z12) z7.n) (br (Ex.eqQ z2.i 3) (need z13 (need z15 (hyp (Nat.le z14 z16.n) (leaf (Value.slice z17 z14 z16.n, [Blk.mk (ns 8).n (Sy.Cont.row 49 6 z14 z16.n (z18.append z19)) true, Blk.mk z8.n (Sy.Cont.obj (Obj.cells (Array.mk z19) 49)) true]))))) (br (Ex.eqQ z2.i 4) (need z13 (need z15 (hyp (Nat.le z14 z16.n) (leaf (Value.slice z17 z14 z16.n, [Blk.mk (ns 8).n
 (Sy.Cont.row 49 6 z14 z16.n (z18.append z20)) true, Blk.mk z8.n (Sy.Cont.obj (Obj.cells (Array.mk z20) 49)) true]))))) (br (Ex.eqQ z2.i 5) (need (List.length z12 + (2 : Nat) ≤ 9223372036854775807) (need (z21 * (48 : Nat) ≤ 140737488355328) (hyp (Nat.le z21 z16.n) (leaf (Value.slice z17 z21 z16.n, [Blk.mk (ns 8).n (Sy.Cont.row 49 6 z21 z16.n (z18.append z22)) true, Blk.mk z8.n (Sy.Cont.obj (Obj.cells (Array.mk z22) 49)) true]))))) (need ((z10 ∧ List.length z12 + List.length z26 ≤ 900000) ∧ 0 ≤ (ns 3).i ∧ (ns 3).i < (↑(List.length l) : Int) ∧ (ns 3).i < (↑i0 : Int) ∧ 24 ≤ Ex.wrapQ .i64 z24 ∧ Ex.wrapQ .i64 z24 + (↑(E.needs z23) : Int) ≤ 29) (hyp (Nat.le (List.length z12 + List.length z26) (ns 8).n) (need True (hyp True (br (!Ex.eqQ (binOp z2.i) 0) (need True (hyp True (need (List.length z12 + List.length z26 + (1 : Nat) ≤ 9223372036854775807) (need (z27 * (48 : Nat) ≤ 140737488355328) (hyp (Nat.le z27 z28.n) (leaf (Value.slice z29 z27 z28.n, [Blk.mk (ns 10).n (Sy.Cont.row 49 6 z27 z28.n (z30.append z31)) true, Blk.mk z16.n (Sy.Cont.obj (Obj.cells (Array.mk z31) 49)) true]))))))) (need True (hyp True (need (List.length z12 + List.length z26 + (2 : Nat) ≤ 9223372036854775807) (need (z32 * (48 : Nat) ≤ 140737488355328) (hyp (Nat.le z32 z28.n) (leaf (Value.slice z29 z32 z28.n, [Blk.mk (ns 10).n (Sy.Cont.row 49 6 z32 z28.n (z30.append z33)) true, Blk.mk z16.n (Sy.Cont.obj (Obj.cells (Array.mk z33) 49)) true])))))))))))))))))))))))))))
theorem l0_run (g o c : Nat) (l : List Nd) (i t : Int) (i0 : Nat) : Sy.Ran (Sy.inT Tryz.prog (ctxY g o c l i0) 60 fLay (rlay0 g o c l i0 i t).args (Sy.blks (rlay0 g o c l i0 i t).mem) (Sy.rowT tI)) l0_o (l0_R g o c l i t i0) := ⟨fun _ => by kernel_rfl, fun _ => by kernel_rfl⟩
theorem ctxY_holds (g o c : Nat) (l : List Nd) (i0 : Nat) (h0 : ∀ i t, Sy.Meets Tryz.prog (rlay0 g o c l i0 i t)) (hA : ∀ gl n cap xs i t, Sy.Meets Tryz.prog (rlayA g o c l i0 gl n cap xs i t)) : (ctxY g o c l i0).holds Tryz.prog := Sy.mkS_holds (fun p hp a L => by
 rcases List.mem_cons.1 hp with rfl | hp
 ·exact h0 _ _
 rcases List.mem_cons.1 hp with rfl | hp
 ·exact hA _ _ _ _ _ _
 rcases List.mem_cons.1 hp with rfl | hp
 ·exact rnum0_met _ _
 rcases List.mem_cons.1 hp with rfl | hp
 ·exact rnumA_met _ _ _ _ _ _
 rcases List.mem_cons.1 hp with rfl | hp
 ·exact plC_met _
 rcases List.mem_singleton.1 hp with rfl
 exact cdC_met _) (fun _ h => (by cases h)) (fun _ h => (by cases h))
theorem rlayA_step (g o c : Nat) (l : List Nd) (i0 : Nat) (ih0 : ∀ i t, Sy.Meets Tryz.prog (rlay0 g o c l i0 i t)) (ihA : ∀ gl n cap xs i t, Sy.Meets Tryz.prog (rlayA g o c l i0 gl n cap xs i t)) (gl n cap : Nat) (xs : List Value) (i t : Int) : Sy.Meets Tryz.prog (rlayA g o c l (i0 + 1) gl n cap xs i t) := by
 refine Sy.meets_of (ctxY_holds g o c l i0 ih0 ihA) mixed (la_run g o c l gl n cap xs i t i0) fun hok ns => ?_
 obtain ⟨⟨⟨hE, hG⟩, hn⟩, h0, h1, h2, h3, h4⟩ : ((isExpr 24 l ∧ goodN l) ∧ n + (lay (tr l i.toNat) t).length ≤ 900000) ∧ 0 ≤ i ∧ i < l.length ∧ i < ((i0 + 1 : Nat) : Int) ∧ 24 ≤ t ∧ t + (tr l i.toNat).needs ≤ 29 := hok
 have hok := hE.1
 simp only [la_R, Sy.Res.holds, Int.ofNat_eq_natCast, Sy.b_and, Sy.b_or, Sy.b_not, Sy.b_f, Sy.b_and', Sy.b_or', Sy.q_lt, Sy.q_le, Sy.q_eq, Sy.b_tt, Sy.b_ft, not_true_eq_false, not_false_eq_true]
 have hlt : i.toNat < l.length := by omega
 have ea : l[i.toNat]? = some l[i.toNat] := List.getElem?_eq_getElem hlt
 obtain ⟨a0, a1, a2, a3⟩ := nd_atI ea o
 simp only [a0, a1, a2, a3, some_int, some_bool, exists_eq', true_and]
 have hxv : goodU l[i.toNat].val := hG _ (List.getElem_mem hlt)
 generalize l[i.toNat] = x at *
 refine ⟨⟨h0, h1⟩, fun e0 e1 e2 e3 => ?_⟩
 have hnp := (tr l i.toNat).needs_pos
 have w25 : Ex.wrapQ .i64 (Ex.addQ t 1) = t + 1 := add_small (by omega) (by omega)
 simp only [← e0, ← e1, ← e2, ← e3, w25]
 have hx := hok _ x ea
 have un : 3 ≤ x.op → x.op ≤ 5 → 0 ≤ x.a ∧ x.a < i ∧ tr l i.toNat = .un x.op (tr l x.a.toNat) := fun u1 u2 => by
  have ha := ok_a hx u1
  exact ⟨ha.1, by omega, tr_un ea u1 u2 (by omega)⟩
 have whole := lay_fits hE (i := i.toNat) hlt t
 refine ⟨fun c1 => ⟨⟨hxv, by omega⟩, fun hc => Sy.rowO_leaf' (Sy.mS _) rfl 0 rfl rfl ?_ ?_ hc⟩, fun c1 => ⟨fun c2 => ⟨by omega, by omega, fun hc => Sy.rowO_leaf' (Sy.mS _) rfl 0 rfl rfl ?_ ?_ hc⟩, fun c2 => ?_⟩⟩
 ·rw [tr_num ea (by omega)]; rfl
 ·rw [tr_num ea (by omega)]; rfl
 ·rw [tr_loc ea c2]; rfl
 ·rw [tr_loc ea c2]
  have hv : Ex.wrapQ .i64 x.val = x.val := by
   unfold nodeOk at hx
   unfold goodU at hxv
   exact wrap_small hxv.1 (by omega)
  rw [hv]; rfl
 by_cases h6 : x.op ≤ 5
 ·have hop : 3 ≤ x.op := by unfold nodeOk at hx; omega
  obtain ⟨ha0, ha1, eT⟩ := un hop h6
  have hf := lay_fits hE (i := x.a.toNat) (by omega) t
  rw [eT, E.needs] at h4
  rw [eT] at whole
  simp only [lay, List.length_append] at whole
  rw [eT] at hn
  simp only [lay, List.length_append] at hn
  have hu := unL_pos x.op t
  refine ⟨⟨⟨⟨hE, hG⟩, by omega⟩, ha0, by omega, by omega, h3, h4⟩, fun hc0 => ⟨fun c3 => ⟨by omega, by omega, fun hc1 => Sy.rowO_leaf' (Sy.mS _) rfl 0 rfl rfl ?_ ?_ hc1⟩, fun c3 => ⟨fun c4 => ⟨by omega, by omega, fun hc1 => Sy.rowO_leaf' (Sy.mS _) rfl 0 rfl rfl ?_ ?_ hc1⟩,
   fun c4 => ⟨fun c5 => ⟨by omega, by omega, fun hc1 => Sy.rowO_leaf' (Sy.mS _) rfl 0 rfl rfl ?_ ?_ hc1⟩, fun c5 => absurd h6 (by omega)⟩⟩⟩⟩
  ·rw [eT]; simp [lay, unL, c3]; try omega
  ·rw [eT]; simp [lay, unL, insCells, I.cells, c3]
  ·rw [eT]; simp [lay, unL, c4]; try omega
  ·rw [eT]; simp [lay, unL, insCells, I.cells, c4]
  ·rw [eT]; simp [lay, unL, c5]; try omega
  ·rw [eT]; simp [lay, unL, insCells, I.cells, c5]
 ·have h19 : x.op ≤ 19 := by unfold nodeOk at hx; omega
  have ha := ok_a hx (by omega)
  have hb := ok_b hx (by omega)
  have eT : tr l i.toNat = .bin x.op (tr l x.a.toNat) (tr l x.b.toNat) := tr_bin ea (by omega) (by omega) (by omega)
  have hf := lay_fits hE (i := x.a.toNat) (by omega) t
  have hf2 := lay_fits hE (i := x.b.toNat) (by omega) (t + 1)
  rw [eT, E.needs] at h4
  rw [eT] at whole
  simp only [lay, List.length_append] at whole
  rw [eT] at hn
  simp only [lay, List.length_append] at hn
  refine ⟨⟨⟨⟨hE, hG⟩, by omega⟩, ha.1, by omega, by omega, h3, by omega⟩, fun hc0 => ⟨fun c3 => absurd c3 (by omega), fun c3 => ⟨fun c4 => absurd c4 (by omega), fun c4 => ⟨fun c5 => absurd c5 (by omega), fun c5 => ⟨⟨⟨⟨hE, hG⟩, by omega⟩, hb.1, by omega, by omega, by omega, by omega⟩, fun hc1 => fun _ =>
   ⟨fun hz => fun _ => ⟨by omega, by omega, fun hc2 => Sy.rowO_leaf' (Sy.mS _) rfl 0 rfl rfl ?_ ?_ hc2⟩, fun hz => fun _ => ⟨by omega, by omega, fun hc2 => Sy.rowO_leaf' (Sy.mS _) rfl 0 rfl rfl ?_ ?_ hc2⟩⟩⟩⟩⟩⟩⟩
  ·rw [eT]; simp only [lay, binL, if_neg hz, List.length_append, List.length_cons, List.length_nil]; omega
  ·rw [eT]; simp [lay, binL, if_neg hz, insCells, I.cells]
  ·have hz : binOp x.op = 0 := Classical.byContradiction hz
   rw [eT]; simp only [lay, binL, if_pos hz, List.length_append, List.length_cons, List.length_nil]; omega
  ·have hz : binOp x.op = 0 := Classical.byContradiction hz
   rw [eT]; simp [lay, binL, if_pos hz, insCells, I.cells]
theorem rlay0_step (g o c : Nat) (l : List Nd) (i0 : Nat) (ih0 : ∀ i t, Sy.Meets Tryz.prog (rlay0 g o c l i0 i t)) (ihA : ∀ gl n cap xs i t, Sy.Meets Tryz.prog (rlayA g o c l i0 gl n cap xs i t)) (i t : Int) : Sy.Meets Tryz.prog (rlay0 g o c l (i0 + 1) i t) := by
 refine Sy.meets_of (ctxY_holds g o c l i0 ih0 ihA) mixed (l0_run g o c l i t i0) fun hok ns => ?_
 obtain ⟨⟨hE, hG⟩, h0, h1, h2, h3, h4⟩ : (isExpr 24 l ∧ goodN l) ∧ 0 ≤ i ∧ i < l.length ∧ i < ((i0 + 1 : Nat) : Int) ∧ 24 ≤ t ∧ t + (tr l i.toNat).needs ≤ 29 := hok
 have hok := hE.1
 simp only [l0_R, Sy.Res.holds, Int.ofNat_eq_natCast, Sy.b_and, Sy.b_or, Sy.b_not, Sy.b_f, Sy.b_and', Sy.b_or', Sy.q_lt, Sy.q_le, Sy.q_eq, Sy.b_tt, Sy.b_ft, not_true_eq_false, not_false_eq_true]
 have hlt : i.toNat < l.length := by omega
 have ea : l[i.toNat]? = some l[i.toNat] := List.getElem?_eq_getElem hlt
 obtain ⟨a0, a1, a2, a3⟩ := nd_atI ea o
 simp only [a0, a1, a2, a3, some_int, some_bool, exists_eq', true_and]
 have hxv : goodU l[i.toNat].val := hG _ (List.getElem_mem hlt)
 generalize l[i.toNat] = x at *
 refine ⟨⟨h0, h1⟩, fun e0 e1 e2 e3 => ?_⟩
 have hnp := (tr l i.toNat).needs_pos
 have w25 : Ex.wrapQ .i64 (Ex.addQ t 1) = t + 1 := add_small (by omega) (by omega)
 simp only [← e0, ← e1, ← e2, ← e3, w25]
 have hx := hok _ x ea
 have un : 3 ≤ x.op → x.op ≤ 5 → 0 ≤ x.a ∧ x.a < i ∧ tr l i.toNat = .un x.op (tr l x.a.toNat) := fun u1 u2 => by
  have ha := ok_a hx u1
  exact ⟨ha.1, by omega, tr_un ea u1 u2 (by omega)⟩
 have whole := lay_fits hE (i := i.toNat) hlt t
 refine ⟨fun c1 => ⟨hxv, fun hc => Sy.rowO_leaf' (Sy.mS _) rfl 0 rfl rfl ?_ ?_ hc⟩, fun c1 => ⟨fun c2 => fun hc => Sy.rowO_leaf' (Sy.mS _) rfl 0 rfl rfl ?_ ?_ hc, fun c2 => ?_⟩⟩
 ·rw [tr_num ea (by omega)]; rfl
 ·rw [tr_num ea (by omega)]; rfl
 ·rw [tr_loc ea c2]; rfl
 ·rw [tr_loc ea c2]
  have hv : Ex.wrapQ .i64 x.val = x.val := by
   unfold nodeOk at hx
   unfold goodU at hxv
   exact wrap_small hxv.1 (by omega)
  rw [hv]; rfl
 by_cases h6 : x.op ≤ 5
 ·have hop : 3 ≤ x.op := by unfold nodeOk at hx; omega
  obtain ⟨ha0, ha1, eT⟩ := un hop h6
  have hf := lay_fits hE (i := x.a.toNat) (by omega) t
  rw [eT, E.needs] at h4
  rw [eT] at whole
  simp only [lay, List.length_append] at whole
  refine ⟨⟨⟨hE, hG⟩, ha0, by omega, by omega, h3, h4⟩, fun hc0 => ⟨fun c3 => ⟨by omega, by omega, fun hc1 => Sy.rowO_leaf' (Sy.mS _) rfl 0 rfl rfl ?_ ?_ hc1⟩, fun c3 => ⟨fun c4 => ⟨by omega, by omega, fun hc1 => Sy.rowO_leaf' (Sy.mS _) rfl 0 rfl rfl ?_ ?_ hc1⟩,
   fun c4 => ⟨fun c5 => ⟨by omega, by omega, fun hc1 => Sy.rowO_leaf' (Sy.mS _) rfl 0 rfl rfl ?_ ?_ hc1⟩, fun c5 => absurd h6 (by omega)⟩⟩⟩⟩
  ·rw [eT]; simp [lay, unL, c3]
  ·rw [eT]; simp [lay, unL, insCells, I.cells, c3]
  ·rw [eT]; simp [lay, unL, c4]
  ·rw [eT]; simp [lay, unL, insCells, I.cells, c4]
  ·rw [eT]; simp [lay, unL, c5]
  ·rw [eT]; simp [lay, unL, insCells, I.cells, c5]
 ·have h19 : x.op ≤ 19 := by unfold nodeOk at hx; omega
  have ha := ok_a hx (by omega)
  have hb := ok_b hx (by omega)
  have eT : tr l i.toNat = .bin x.op (tr l x.a.toNat) (tr l x.b.toNat) := tr_bin ea (by omega) (by omega) (by omega)
  have hf := lay_fits hE (i := x.a.toNat) (by omega) t
  have hf2 := lay_fits hE (i := x.b.toNat) (by omega) (t + 1)
  rw [eT, E.needs] at h4
  rw [eT] at whole
  simp only [lay, List.length_append] at whole
  refine ⟨⟨⟨hE, hG⟩, ha.1, by omega, by omega, h3, by omega⟩, fun hc0 => ⟨fun c3 => absurd c3 (by omega), fun c3 => ⟨fun c4 => absurd c4 (by omega), fun c4 => ⟨fun c5 => absurd c5 (by omega), fun c5 => ⟨⟨⟨⟨hE, hG⟩, by omega⟩, hb.1, by omega, by omega, by omega, by omega⟩, fun hc1 => fun _ =>
   ⟨fun hz => fun _ => ⟨by omega, by omega, fun hc2 => Sy.rowO_leaf' (Sy.mS _) rfl 0 rfl rfl ?_ ?_ hc2⟩, fun hz => fun _ => ⟨by omega, by omega, fun hc2 => Sy.rowO_leaf' (Sy.mS _) rfl 0 rfl rfl ?_ ?_ hc2⟩⟩⟩⟩⟩⟩⟩
  ·rw [eT]; simp only [lay, binL, if_neg hz, List.length_append, List.length_cons, List.length_nil]; omega
  ·rw [eT]; simp [lay, binL, if_neg hz, insCells, I.cells]
  ·have hz : binOp x.op = 0 := Classical.byContradiction hz
   rw [eT]; simp only [lay, binL, if_pos hz, List.length_append, List.length_cons, List.length_nil]; omega
  ·have hz : binOp x.op = 0 := Classical.byContradiction hz
   rw [eT]; simp [lay, binL, if_pos hz, insCells, I.cells]
theorem rlay_met (g o c : Nat) (l : List Nd) : ∀ i0 : Nat, (∀ i t, Sy.Meets Tryz.prog (rlay0 g o c l i0 i t)) ∧ (∀ gl n cap xs i t, Sy.Meets Tryz.prog (rlayA g o c l i0 gl n cap xs i t))
 | 0 => ⟨fun i t hok => absurd hok.2.2.2.1 (by have := hok.2.1; omega), fun gl n cap xs i t hok => absurd hok.2.2.2.1 (by have := hok.2.1; omega)⟩
 | i0 + 1 => ⟨fun i t => rlay0_step g o c l i0 (rlay_met g o c l i0).1 (rlay_met g o c l i0).2 i t, fun gl n cap xs i t => rlayA_step g o c l i0 (rlay_met g o c l i0).1 (rlay_met g o c l i0).2 gl n cap xs i t⟩
open Go Go.RowKit
open Go.Proofs.YtlpcnaeknbmjdaaGreat.Sy (Let Blk)
abbrev fTX : FuncId := 132
abbrev fRTX : FuncId := 109
def lenOk (l : List Nd) : Prop := (0 < l.length ∧ l.length ≤ 4398046511104) ∧ goodN l
def ctxQ (g o c : Nat) (l : List Nd) : Sy.Ctx := Sy.mkS [(fMay, fun _ _ => mayC g o c l), (fNeeds, fun a _ => needsC g o c l 24 l.length (Sy.argI a 1)), (fExpr, fun a _ => exprC g o c l l.length (Sy.argI a 1) (Sy.argI a 2)),
 (fRX, fun a _ => rxC g o c l (Sy.argI a 1)), (fRN, fun _ _ => rnC g o c l), (fLay, fun a _ => rlay0 g o c l l.length (Sy.argI a 2) (Sy.argI a 3))] [] []
def txArgs (g o c : Nat) (l : List Nd) (k : Int) : Array Value := #[.slice (some ⟨g, o, none⟩) l.length c, .int .i64 k]
def rtxArgs (g o c : Nat) (l : List Nd) (k : Int) : Array Value := #[.slice none 0 0, .slice (some ⟨g, o, none⟩) l.length c, .int .i64 k]
def tx_o : Sy.O := (steps [0, 0, 0, 0, 0, 0] (fork (steps [0, 0, 0, 0, 0, 0, 0, 0, 0] nil) (steps [0, 0, 0, 0, 0, 0, 0, 0, 0, 0, 0, 1] (fork nil (fork nil (steps [0, 0, 0, 0, 0, 0, 0] nil))))))
noncomputable def tx_R (g o c : Nat) (l : List Nd) (k : Int) (ns : Nat → Sy.Let) : Sy.Res (Value × List Blk) :=
 let z0 := leaf (Value.tuple (Array.mk [.slice none 0 0, .int .i64 1]), [])
 let z1 := Ex.subQ' (Int.ofNat (List.length l)) 1
 let z2 := tr l (Int.toNat (Ex.wrapQ .i64 z1))
 let z3 := lay z2 (24 + k)
 let z4 := List.length z3
 need (0 < List.length l ∧ List.length l ≤ 4398046511104) (hyp True (br (!tru (isExpr 24 l)) z0 (need (isExpr 24 l ∧ 0 ≤ Ex.wrapQ .i64 z1 ∧ Ex.wrapQ .i64 z1 < (↑(List.length l) : Int) ∧ Ex.wrapQ .i64 z1 < (↑(List.length l) : Int)) (hyp True (br (bif bif false then true else Ex.ltQ k 0 then true else Ex.leQ 5 k) z0 (br (Ex.ltQ 5 (Ex.wrapQ .i64 (Ex.addQ k (↑(E.needs z2) : Int)))) (leaf (Value.tuple (Array.mk [.slice none 0 0, .int .i64 30]), [])) (need ((isExpr 24 l ∧ goodN l) ∧ 0 ≤ Ex.wrapQ .i64 z1 ∧ Ex.wrapQ .i64 z1 < (↑(List.length l) : Int) ∧ Ex.wrapQ .i64 z1 < (↑(List.length l) : Int) ∧ 0 ≤ k ∧ k + (↑(E.needs z2) : Int) ≤ 5) (hyp (Nat.le z4 (ns 1).n) (leaf (Value.tuple (Array.mk [.slice (some ⟨(ns 0).n, 0, none⟩) z4 (ns 1).n, .int .i64 0]), [Blk.mk (ns 0).n (Sy.Cont.row 49 6 z4 (ns 1).n (insCells z3)) true]))))))))))
theorem tx_run (g o c : Nat) (l : List Nd) (k : Int) : Sy.Ran (Sy.inT Tryz.prog (ctxQ g o c l) 60 fTX (txArgs g o c l k) [⟨g, .seg o (ndCells l), false⟩] (Sy.rowT tI)) tx_o (tx_R g o c l k) := ⟨fun _ => by kernel_rfl, fun _ => by kernel_rfl⟩
def rtx_o : Sy.O := (steps [0, 0, 0, 0, 0, 0, 1, 1] (fork nil (steps [0, 0, 0, 0, 0, 0] (fork nil (steps [0, 0, 0, 0, 0, 0, 0] nil)))))
noncomputable def rtx_R (g o c : Nat) (l : List Nd) (k : Int) (ns : Nat → Sy.Let) : Sy.Res (Value × List Blk) :=
 let z0 := Ex.subQ' (Int.ofNat (List.length l)) 1
 let z1 := Ex.addQ 24 k
 let z2 := tr l (Int.toNat (Ex.wrapQ .i64 z0))
 let z3 := lay z2 (Ex.wrapQ .i64 z1)
 let z4 := List.length z3
 need (((0 : Int) ≤ 24 ∧ (24 : Int) ≤ 1000 ∧ goodN l) ∧ 0 < List.length l) (hyp True (br (bif bif !tru (isExpr 24 l) then true else Ex.ltQ k 0 then true else Ex.ltQ 4 k) (leaf (Value.tuple (Array.mk [.slice none 0 0, .int .i64 1]), [])) (need (nodesOk 24 l ∧ 0 < List.length l ∧ List.length l ≤ 65536 ∧ onceOk l) (hyp True (br (Ex.ltQ 5 (Ex.wrapQ .i64 (Ex.addQ k (↑(E.needs (tr l (List.length l - 1))) : Int)))) (leaf (Value.tuple (Array.mk [.slice none 0 0, .int .i64 30]), [])) (need ((isExpr 24 l ∧ goodN l) ∧ 0 ≤ Ex.wrapQ .i64 z0 ∧ Ex.wrapQ .i64 z0 < (↑(List.length l) : Int) ∧ Ex.wrapQ .i64 z0 < (↑(List.length l) : Int) ∧ 24 ≤ Ex.wrapQ .i64 z1 ∧ Ex.wrapQ .i64 z1 + (↑(E.needs z2) : Int) ≤ 29) (hyp (Nat.le z4 (ns 1).n) (leaf (Value.tuple (Array.mk [.slice (some ⟨(ns 0).n, 0, none⟩) z4 (ns 1).n, .int .i64 0]), [Blk.mk (ns 0).n (Sy.Cont.row 49 6 z4 (ns 1).n (insCells z3)) true])))))))))
theorem rtx_run (g o c : Nat) (l : List Nd) (k : Int) : Sy.Ran (Sy.inT Tryz.prog (ctxQ g o c l) 60 fRTX (rtxArgs g o c l k) [⟨g, .seg o (ndCells l), false⟩] (Sy.rowT tI)) rtx_o (rtx_R g o c l k) := ⟨fun _ => by kernel_rfl, fun _ => by kernel_rfl⟩
theorem leftE {l : List Nd} (h : lenOk l) : Ex.wrapQ .i64 (Ex.subQ' (l.length : Int) 1) = ((l.length - 1 : Nat) : Int) := dec_q l.length h.1.1 (by have := h.1.2; omega)
theorem ctxQ_holds (g o c : Nat) (l : List Nd) : (ctxQ g o c l).holds Tryz.prog := Sy.mkS_holds (fun p hp a L => by
 rcases List.mem_cons.1 hp with rfl | hp
 ·exact mayC_met _ _ _ _
 rcases List.mem_cons.1 hp with rfl | hp
 ·exact needsC_met _ _ _ _ _ _ _
 rcases List.mem_cons.1 hp with rfl | hp
 ·exact exprC_met _ _ _ _ _ _ _
 rcases List.mem_cons.1 hp with rfl | hp
 ·exact rxC_met _ _ _ _ _
 rcases List.mem_cons.1 hp with rfl | hp
 ·exact rnC_met _ _ _ _
 rcases List.mem_singleton.1 hp with rfl
 exact (rlay_met _ _ _ _ _).1 _ _) (fun _ h => (by cases h)) (fun _ h => (by cases h))
def regX (l : List Nd) (k : Int) : Prop := isExpr 24 l ∧ 0 ≤ k ∧ k < 5 ∧ 5 < k + (tr l (l.length - 1)).needs
def okX (l : List Nd) (k : Int) : Prop := isExpr 24 l ∧ 0 ≤ k ∧ k + (tr l (l.length - 1)).needs ≤ 5
def outL (l : List Nd) (k : Int) : List I := lay (tr l (l.length - 1)) (24 + k)
def xReg (f : FuncId) (args : Array Value) (g o : Nat) (l : List Nd) (k : Int) : Sy.CallC := ⟨f, args, lenOk l ∧ regX l k, ⟨[(g, .seg o (ndCells l))], [], 0, []⟩, [Sy.plainO (.tuple #[.slice none 0 0, .int .i64 30])]⟩
def xOk (f : FuncId) (args : Array Value) (g o : Nat) (l : List Nd) (k : Int) : Sy.CallC := ⟨f, args, lenOk l ∧ okX l k, ⟨[(g, .seg o (ndCells l))], [], 2, []⟩, [Sy.rowO tI 6 (outL l k).length (insCells (outL l k)) fun s => .tuple #[s, .int .i64 0]]⟩
theorem txReg_met (g o c : Nat) (l : List Nd) (k : Int) : Sy.Meets Tryz.prog (xReg fTX (txArgs g o c l k) g o l k) := by
 refine Sy.meets_of (ctxQ_holds g o c l) mixed (tx_run g o c l k) fun hok ns => ?_
 obtain ⟨hl, hb⟩ : lenOk l ∧ regX l k := hok
 have h0 := hl.1.1
 have hE := hb.1
 have hm := hE.2.2.1
 have hx := tr_small hE (i := l.length - 1) (by omega)
 have hn := (tr l (l.length - 1)).needs_le
 simp only [tx_R, Sy.Res.holds, Int.ofNat_eq_natCast, Sy.b_and, Sy.b_or, Sy.b_not, Sy.b_f, Sy.b_and', Sy.b_or', Sy.q_lt, Sy.q_le, Sy.q_eq, Sy.b_tt, Sy.b_ft, not_true_eq_false, not_false_eq_true, some_int, some_bool, exists_eq', true_and, tru_t, leftE hl, Int.toNat_natCast, false_or]
 refine ⟨hl.1, fun _ => ?_⟩
 obtain ⟨-, b0, b1, b2⟩ := hb
 refine ⟨fun h => absurd hE h, fun h => ⟨⟨hE, by omega, by omega, by omega⟩, fun _ => ⟨fun h => absurd h (by omega), fun h => ?_⟩⟩⟩
 rw [add_small (by omega) (by omega)]
 exact ⟨fun _ => Sy.plainO_leaf (Sy.mS _) rfl rfl, fun h => absurd b2 h⟩
theorem txOk_met (g o c : Nat) (l : List Nd) (k : Int) : Sy.Meets Tryz.prog (xOk fTX (txArgs g o c l k) g o l k) := by
 refine Sy.meets_of (ctxQ_holds g o c l) mixed (tx_run g o c l k) fun hok ns => ?_
 obtain ⟨hl, hb⟩ : lenOk l ∧ okX l k := hok
 have h0 := hl.1.1
 have hE := hb.1
 have hm := hE.2.2.1
 have hx := tr_small hE (i := l.length - 1) (by omega)
 have hn := (tr l (l.length - 1)).needs_le
 simp only [tx_R, Sy.Res.holds, Int.ofNat_eq_natCast, Sy.b_and, Sy.b_or, Sy.b_not, Sy.b_f, Sy.b_and', Sy.b_or', Sy.q_lt, Sy.q_le, Sy.q_eq, Sy.b_tt, Sy.b_ft, not_true_eq_false, not_false_eq_true, some_int, some_bool, exists_eq', true_and, tru_t, leftE hl, Int.toNat_natCast, false_or]
 refine ⟨hl.1, fun _ => ?_⟩
 obtain ⟨-, b0, b1⟩ := hb
 have hp := (tr l (l.length - 1)).needs_pos
 refine ⟨fun h => absurd hE h, fun h => ⟨⟨hE, by omega, by omega, by omega⟩, fun _ => ⟨fun h => absurd h (by omega), fun h => ?_⟩⟩⟩
 rw [add_small (by omega) (by omega)]
 exact ⟨fun h => absurd h (by omega), fun h => ⟨⟨⟨hE, hl.2⟩, by omega, by omega, by omega, b0, b1⟩, fun hc => Sy.rowO_leaf' (Sy.mS _) rfl 0 rfl rfl rfl rfl hc⟩⟩
theorem rtxReg_met (g o c : Nat) (l : List Nd) (k : Int) : Sy.Meets Tryz.prog (xReg fRTX (rtxArgs g o c l k) g o l k) := by
 refine Sy.meets_of (ctxQ_holds g o c l) mixed (rtx_run g o c l k) fun hok ns => ?_
 obtain ⟨hl, hb⟩ : lenOk l ∧ regX l k := hok
 have h0 := hl.1.1
 have hE := hb.1
 have hm := hE.2.2.1
 have hx := tr_small hE (i := l.length - 1) (by omega)
 have hn := (tr l (l.length - 1)).needs_le
 have hw : 0 ≤ k → k < 5 → Ex.wrapQ .i64 (Ex.addQ 24 k) = 24 + k := fun a b => add_small (by omega) (by omega)
 simp only [rtx_R, Sy.Res.holds, Int.ofNat_eq_natCast, Sy.b_and, Sy.b_or, Sy.b_not, Sy.b_f, Sy.b_and', Sy.b_or', Sy.q_lt, Sy.q_le, Sy.q_eq, Sy.b_tt, Sy.b_ft, not_true_eq_false, not_false_eq_true, some_int, some_bool, exists_eq', true_and, tru_t, leftE hl, Int.toNat_natCast, false_or]
 refine ⟨⟨⟨by omega, by omega, hl.2⟩, h0⟩, fun _ => ?_⟩
 obtain ⟨-, b0, b1, b2⟩ := hb
 refine ⟨fun h => absurd h fun h => h.elim (fun h => h.elim (fun h => h hE) (by omega)) (by omega), fun h => ⟨hE, fun _ => ?_⟩⟩
 rw [add_small (by omega) (by omega)]
 exact ⟨fun _ => Sy.plainO_leaf (Sy.mS _) rfl rfl, fun h => absurd b2 h⟩
theorem rtxOk_met (g o c : Nat) (l : List Nd) (k : Int) : Sy.Meets Tryz.prog (xOk fRTX (rtxArgs g o c l k) g o l k) := by
 refine Sy.meets_of (ctxQ_holds g o c l) mixed (rtx_run g o c l k) fun hok ns => ?_
 obtain ⟨hl, hb⟩ : lenOk l ∧ okX l k := hok
 have h0 := hl.1.1
 have hE := hb.1
 have hm := hE.2.2.1
 have hx := tr_small hE (i := l.length - 1) (by omega)
 have hn := (tr l (l.length - 1)).needs_le
 have hw : 0 ≤ k → k < 5 → Ex.wrapQ .i64 (Ex.addQ 24 k) = 24 + k := fun a b => add_small (by omega) (by omega)
 simp only [rtx_R, Sy.Res.holds, Int.ofNat_eq_natCast, Sy.b_and, Sy.b_or, Sy.b_not, Sy.b_f, Sy.b_and', Sy.b_or', Sy.q_lt, Sy.q_le, Sy.q_eq, Sy.b_tt, Sy.b_ft, not_true_eq_false, not_false_eq_true, some_int, some_bool, exists_eq', true_and, tru_t, leftE hl, Int.toNat_natCast, false_or]
 refine ⟨⟨⟨by omega, by omega, hl.2⟩, h0⟩, fun _ => ?_⟩
 obtain ⟨-, b0, b1⟩ := hb
 have hp := (tr l (l.length - 1)).needs_pos
 refine ⟨fun h => absurd h fun h => h.elim (fun h => h.elim (fun h => h hE) (by omega)) (by omega), fun h => ⟨hE, fun _ => ?_⟩⟩
 rw [add_small (by omega) (by omega), hw (by omega) (by omega)]
 exact ⟨fun h => absurd h (by omega), fun h => ⟨⟨⟨hE, hl.2⟩, by omega, by omega, by omega, by omega, by omega⟩, fun hc => Sy.rowO_leaf' (Sy.mS _) rfl 0 rfl rfl rfl rfl hc⟩⟩
open Go Go.RowKit
open Go.Proofs.YtlpcnaeknbmjdaaGreat.Sy (Let Blk)
abbrev fPow : FuncId := 39
def isPow (n : Int) : Prop := n = 1 ∨ n = 2 ∨ n = 4 ∨ n = 8 ∨ n = 16 ∨ n = 32 ∨ n = 64 ∨ n = 128 ∨ n = 256 ∨ n = 512 ∨ n = 1024
def pwC (n : Int) : Sy.CallC := ⟨fPow, #[.int .i64 n], True, ⟨[], [], 0, []⟩, [Sy.plainO (.bool (tru (isPow n)))]⟩
def pw_o : Sy.O := (steps [0] (fork nil (steps [0] (fork nil (steps [0] (fork nil (steps [0] (fork nil (steps [0] (fork nil (steps [0] (fork nil (steps [0] (fork nil (steps [0] (fork nil (steps [0] (fork nil (steps [0] (fork nil (steps [0] (fork nil (steps [0] nil)))))))))))))))))))))))
noncomputable def pw_R (n : Int) (ns : Nat → Sy.Let) : Sy.Res (Value × List Blk) :=
 let z0 := leaf (Value.bool true, [])
 br (Ex.eqQ 1 n) z0 (br (Ex.eqQ 2 n) z0 (br (Ex.eqQ 4 n) z0 (br (Ex.eqQ 8 n) z0 (br (Ex.eqQ 16 n) z0 (br (Ex.eqQ 32 n) z0 (br (Ex.eqQ 64 n) z0 (br (Ex.eqQ 128 n) z0 (br (Ex.eqQ 256 n) z0 (br (Ex.eqQ 512 n) z0 (br (Ex.eqQ 1024 n) z0 (leaf (Value.bool false, []))))))))))))
theorem pw_run (n : Int) : Sy.Ran (Sy.inT Tryz.prog Sy.S0 60 fPow (pwC n).args [] Sy.noB) pw_o (pw_R n) := ⟨fun _ => by kernel_rfl, fun _ => by kernel_rfl⟩
theorem pwC_met (n : Int) : Sy.Meets Tryz.prog (pwC n) := by
 refine Sy.meets_of Sy.S0_holds mixed (pw_run n) fun hok ns => ?_
 simp only [pw_R, Sy.Res.holds, Int.ofNat_eq_natCast, Sy.b_and, Sy.b_or, Sy.b_not, Sy.b_f, Sy.b_and', Sy.b_or', Sy.q_lt, Sy.q_le, Sy.q_eq, Sy.b_tt, Sy.b_ft, not_true_eq_false, not_false_eq_true]
 repeat' refine And.intro (fun h => ?_) (fun h => ?_)
 all_goals first
  | exact Sy.plainO_leaf (Sy.mS _) rfl (by rw [tru_pos (by unfold isPow; omega)])
  | exact Sy.plainO_leaf (Sy.mS _) rfl (by rw [tru_neg (by unfold isPow; omega)])
abbrev fAd : FuncId := 133
abbrev fRAd : FuncId := 108
def Sy.tW (k : Int) : Int := Ex.wrapQ .i64 (Ex.addQ 24 k)
def Sy.L1 (l : List Nd) (k : Int) : List I := lay (tr l (Int.toNat (Ex.wrapQ .i64 (Ex.subQ' (l.length : Int) 1)))) (Sy.tW k)
def Sy.L2 (s k : Int) : List I := numL (Ex.wrapQ .i64 (Ex.addQ (Sy.tW k) 1)) (Ex.wrapQ .u64 (Ex.wrapQ .i64 (Ex.subQ' s 1)))
def Sy.L3 (k : Int) : List Value := [.int .i64 5, .int .i64 (Sy.tW k), .int .i64 (Sy.tW k), .int .i64 (Ex.wrapQ .i64 (Ex.addQ (Sy.tW k) 1)), .int .i64 0, .int .i64 0, .int .i64 14, .int .i64 (Sy.tW k), .int .i64 (Sy.tW k), .int .i64 0, .int .i64 3, .int .i64 0]
def ctxI (s k : Int) (g o c : Nat) (l : List Nd) : Sy.Ctx := Sy.mkS [(fMay, fun _ _ => mayC g o c l), (fNeeds, fun a _ => needsC g o c l 24 l.length (Sy.argI a 1)), (fExpr, fun a _ => exprC g o c l l.length (Sy.argI a 1) (Sy.argI a 2)),
 (fRX, fun a _ => rxC g o c l (Sy.argI a 1)), (fRN, fun _ _ => rnC g o c l), (fLay, fun a _ => rlay0 g o c l l.length (Sy.argI a 2) (Sy.argI a 3)), (159, fun a _ => numC (Sy.argI a 0) (Sy.argI a 1)),
 (fRNum, fun a _ => rnum0 (Sy.argI a 1) (Sy.argI a 2)), (fRNum, fun a _ => rnumA (Sy.ptrN (Sy.argV a 0)) (Sy.L1 l k).length (Sy.capN (Sy.argV a 0)) (insCells (Sy.L1 l k)) (Sy.argI a 1) (Sy.argI a 2)), (fRNum, fun a _ => rnumA (Sy.ptrN (Sy.argV a 0)) ((Sy.L1 l k).length + (Sy.L2 s k).length + 2) (Sy.capN (Sy.argV a 0)) ((insCells (Sy.L1 l k) ++ insCells (Sy.L2 s k)) ++ Sy.L3 k) (Sy.argI a 1) (Sy.argI a 2)), (fPow, fun a _ => pwC (Sy.argI a 0))] [] []
def adArgs (g o c : Nat) (l : List Nd) (b s k : Int) : Array Value := #[.int .i64 b, .int .i64 s, .slice (some ⟨g, o, none⟩) l.length c, .int .i64 k]
def radArgs (g o c : Nat) (l : List Nd) (b s k : Int) : Array Value := #[.slice none 0 0, .int .i64 b, .int .i64 s, .slice (some ⟨g, o, none⟩) l.length c, .int .i64 k]
def adP_o : Sy.O := (steps [0, 0] (fork (steps [0, 0, 0, 0, 0, 0, 0, 0, 0, 0, 0, 0, 0, 0, 0, 0, 0, 0, 0, 0, 0, 0, 0, 0] nil) (steps [0, 0, 0, 0] (fork (steps [0, 0, 0, 0, 0, 0, 0, 0, 0, 0, 0, 0, 0, 0, 0, 0, 0, 0, 0] nil) (steps [0] (fork (steps [0, 0, 0, 0, 0, 0, 0, 0, 0, 0, 0, 0, 0, 0, 0, 0, 0] nil) (steps [0, 0, 0, 0] (fork (steps [0, 0, 0, 0, 0, 0, 0, 0, 0, 0, 0, 0] nil) (steps [0] (fork (steps [0, 0, 0, 0, 0, 0, 0, 0, 0, 0] nil) (steps [0] (fork (steps [0, 0, 0, 0, 0, 0, 0, 0] nil) (steps [0, 0, 0, 0, 0, 0, 0, 0, 0, 0, 0, 0, 0, 0, 0, 0, 0, 0, 0] (fork nil (steps [0, 0, 0, 0, 0, 0, 0, 1, 0, 0, 0, 0] (fork nil (steps [0, 0, 0, 0, 0, 0, 0, 0, 0, 0, 0, 0, 0, 0, 0, 0, 0, 0, 0, 5, 1, 1, 1, 1, 5, 0, 0, 0, 0, 0, 0, 0, 0, 2, 0, 0, 6, 1, 0, 0, 1, 1, 6, 0, 0, 0, 0, 0, 0, 0, 0, 0, 0, 3, 0, 0, 6, 0, 0, 0] (steps [1, 1, 6, 0, 0, 0, 0, 0, 0, 0, 0, 0, 0, 4, 0, 0, 6, 0, 0, 0, 1, 1, 6, 0, 0, 0, 0, 0, 0, 0, 0, 0, 0, 5, 0, 0, 8, 1, 0, 0, 1, 1, 8, 0, 0, 0, 0, 0, 0, 0, 0, 0, 0, 6, 0, 0, 7, 0, 0, 0] (steps [1, 1, 7, 0, 0, 0, 0, 0, 0, 0] nil)))))))))))))))))))
noncomputable def adP_R (g o c : Nat) (l : List Nd) (b k : Int) (p : Nat) (ns : Nat → Sy.Let) : Sy.Res (Value × List Blk) :=
 let z0 := Int.ofNat (Nat.succ p)
 let z1 := leaf (Value.tuple (Array.mk [.slice none 0 0, .int .i64 1]), [])
 let z2 := Ex.wrapQ .i64 (Ex.subQ' z0 1)
 let z3 := Ex.wrapQ .i64 (Ex.addQ 65536 (Ex.wrapQ .i64 (Ex.mulQ 8 b)))
 let z4 := numL 29 (Ex.wrapQ .u64 z3)
 let z5 := Ex.subQ' (Int.ofNat (List.length l)) 1
 let z6 := tr l (Int.toNat (Ex.wrapQ .i64 z5))
 let z7 := insCells z4
 let z8 := Sy.Cont.row 49 6 (List.length z4) (ns 1).n z7
 let z9 := lay z6 (24 + k)
 let z10 := Ex.wrapQ .i64 (Ex.addQ 24 k)
 let z11 := Ex.wrapQ .i64 (Ex.addQ z10 1)
 let z12 := numL z11 (Ex.wrapQ .u64 z2)
 let z13 := 0 + List.length z9
 let z14 := insCells z12
 let z15 := 0 + List.length z9 + List.length z12
 let z16 := 0 + List.length z9 + List.length z12 + 1
 let z17 := 0 + List.length z9 + List.length z12 + 1 + 1
 let z18 := 0 + List.length z9 + List.length z12 + 1 + 1 + List.length z4
 let z19 := 0 + List.length z9 + List.length z12 + 1 + 1 + List.length z4 + 1
 let z20 := [Value.int .i64 5, Value.int .i64 z10, Value.int .i64 z10, Value.int .i64 z11, Value.int .i64 0, Value.int .i64 0]
 let z21 := [Value.int .i64 14, Value.int .i64 z10, Value.int .i64 z10, Value.int .i64 0, Value.int .i64 3, Value.int .i64 0]
 let z22 := [Value.int .i64 3, Value.int .i64 29, Value.int .i64 29, Value.int .i64 z10, Value.int .i64 0, Value.int .i64 0]
 br (bif false then true else Ex.ltQ 1024 z0) z1 (br (bif false then true else !Ex.eqQ (Ex.andQ .i64 z0 z2) 0) z1 (br (bif false then true else Ex.ltQ b 0) z1 (br (bif false then true else Ex.ltQ (Ex.wrapQ .i64 (Ex.subQ' 4096 (bif Ex.ltQ 1 z0 then Int.ofNat (Nat.succ p) else 1))) b) z1 (br (bif false then true else Ex.ltQ k 0) z1 (br (bif false then true else Ex.leQ 5 k) z1 (need (0 < List.length l ∧ List.length l ≤ 4398046511104) (hyp True (br (bif false then true else bif true then !tru (isExpr 24 l) else false) z1 (need (0 ≤ Ex.wrapQ .u64 z3 ∧ Ex.wrapQ .u64 z3 < 18446744073709551616) (hyp (Nat.le (List.length z4) (ns 1).n) (need (isExpr 24 l ∧ 0 ≤ Ex.wrapQ .i64 z5 ∧ Ex.wrapQ .i64 z5 < (↑(List.length l) : Int) ∧ Ex.wrapQ .i64 z5 < (↑(List.length l) : Int)) (hyp True (br (Ex.ltQ 5 (Ex.wrapQ .i64 (Ex.addQ k (bif Ex.ltQ 2 (↑(E.needs z6) : Int) then (↑(E.needs z6) : Int) else 2)))) (leaf (Value.tuple (Array.mk [.slice none 0 0, .int .i64 30]), [Blk.mk (ns 0).n z8 true])) (need ((isExpr 24 l ∧ goodN l) ∧ 0 ≤ Ex.wrapQ .i64 z5 ∧ Ex.wrapQ .i64 z5 < (↑(List.length l) : Int) ∧ Ex.wrapQ .i64 z5 < (↑(List.length l) : Int) ∧ 0 ≤ k ∧ k + (↑(E.needs z6) : Int) ≤ 5) (hyp (Nat.le (List.length z9) (ns 3).n) (need (0 ≤ Ex.wrapQ .u64 z2 ∧ Ex.wrapQ .u64 z2 < 18446744073709551616) (hyp (Nat.le (List.length z12) (ns 5).n) (need ((0 : Nat) = 0 ∧ List.length (insCells z9) = List.length z9 * 6 ∧ ∀ (u : Value), u ∈ insCells z9 → Value.oneCell' u = true) (need (1 ≤ List.length z9) (need (0 +
 List.length z9 ≤ 9223372036854775807) (need (z13 * (48 : Nat) ≤ 140737488355328) (hyp (Nat.le z13 (ns 11).n) (need ((0 : Nat) = 0 ∧ List.length z14 = List.length z12 * 6 ∧ ∀ (u : Value), u ∈ insCells z12 → Value.oneCell' u = true) (need (0 + List.length z9 + List.length z12 ≤ 9223372036854775807) (need (z15 * (48 : Nat) ≤ 140737488355328) (hyp (Nat.le z15 (ns 13).n) (need (0 + List.length z9 + List.length z12 + (1 : Nat) ≤ 9223372036854775807) (need (z16 * (48 : Nat) ≤ 140737488355328) (hyp (Nat.le z16 (ns 15).n) (need (0 + List.length z9 + List.length z12 + 1 + (1 : Nat) ≤ 9223372036854775807) (need (z17 * (48 : Nat) ≤ 140737488355328) (hyp (Nat.le z17 (ns 17).n) (need ((0 : Nat) = 0 ∧ List.length z7 = List.length z4 * 6 ∧ ∀ (u : Value), u ∈ insCells z4 → Value.oneCell' u = true) (need (0 + List.length z9 + List.length z12 + 1 + 1 + List.length z4 ≤ 9223372036854775807) (need (z18 * (48 : Nat) ≤ 140737488355328) (hyp (Nat.le z18 (ns 19).n) (need (0 + List.length z9 + List.length z12 + 1 + 1 + List.length z4 + (1 : Nat) ≤ 9223372036854775807) (need (z19 * (48 : Nat) ≤ 140737488355328) (hyp (Nat.le z19 (ns 21).n) (leaf (Value.tuple (Array.mk [.slice (some ⟨(ns 20).n, 0, none⟩) z19 (ns 21).n, .int .i64 0]), [Blk.mk (ns 20).n (Sy.Cont.row 49 6 z19 (ns 21).n (List.append (List.append (List.append ((List.append ([] ++ insCells z9) z14).append z20) z21) z7) z22)) true, Blk.mk (ns 8).n (.obj (.cells (Array.mk z22) 49)) true, Blk.mk (ns 0).n z8 true, Blk.mk (ns 7).n (.obj (.cells
 (Array.mk z21) 49)) true, Blk.mk (ns 6).n (.obj (.cells (Array.mk z20) 49)) true, Blk.mk (ns 4).n (Sy.Cont.row 49 6 (List.length z12) (ns 5).n z14) true, Blk.mk (ns 2).n (Sy.Cont.row 49 6 (List.length z9) (ns 3).n (insCells z9)) true])))))))))))))))))))))))))))))))))))))))))
theorem adP_run (g o c : Nat) (l : List Nd) (b k : Int) (p : Nat) : Sy.Ran (Sy.inT Tryz.prog (ctxI (.ofNat (.succ p)) k g o c l) 60 fAd (adArgs g o c l b (.ofNat (.succ p)) k) [⟨g, .seg o (ndCells l), false⟩] (Sy.rowT tI)) adP_o (adP_R g o c l b k p) := ⟨fun _ => by kernel_rfl, fun _ => by kernel_rfl⟩
def radP_o : Sy.O := (steps [0] (fork (steps [0, 0, 0, 0, 0, 0] (fork (steps [0, 0, 0, 0, 0, 0, 0, 0, 0, 0, 0, 0, 0, 0, 0, 0, 0, 0] nil) (steps [0] (fork (steps [0, 0, 0, 0, 0, 0, 0, 0, 0, 0, 0, 0, 0, 0, 0, 0] nil) (steps [0, 0, 0] (fork (steps [0, 0, 0, 0, 0, 0, 0, 0, 0, 0, 0, 0] nil) (steps [0] (fork (steps [0, 0, 0, 0, 0, 0, 0, 0, 0, 0] nil) (steps [0] (fork (steps [0, 0, 0, 0, 0, 0, 0, 0] nil) (steps [0, 0, 0, 0, 0, 0, 0, 0, 0, 0, 0, 0, 0, 0, 0, 0, 0, 0, 0] (fork nil (steps [0, 0, 0, 0, 0, 0, 0] (fork (fork nil (steps [0, 0, 0, 0, 0, 0, 0, 1, 0, 0, 0, 0, 0, 0, 0, 0, 1, 0, 1, 1, 0, 0, 0, 0, 0, 0, 0, 2, 0, 0, 0, 0, 0, 0, 0, 0, 1, 0, 1, 1, 0, 0, 0, 0, 0, 0, 0] nil)) (fork nil (steps [0, 0, 0, 0, 0, 0, 0, 1, 0, 0, 0, 0, 0, 0, 0, 0, 1, 0, 1, 1, 0, 0, 0, 0, 0, 0, 0, 2, 0, 0, 0, 0, 0, 0, 0, 0, 1, 0, 1, 1, 0, 0, 0, 0, 0, 0, 0] nil)))))))))))))))) (steps [0, 0, 0, 0] (fork (steps [0, 0, 0, 0, 0, 0, 0, 0, 0, 0, 0, 0, 0, 0, 0, 0] nil) (steps [0, 0, 0] (fork (steps [0, 0, 0, 0, 0, 0, 0, 0, 0, 0, 0, 0] nil) (steps [0] (fork (steps [0, 0, 0, 0, 0, 0, 0, 0, 0, 0] nil) (steps [0] (fork (steps [0, 0, 0, 0, 0, 0, 0, 0] nil) (steps [0, 0, 0, 0, 0, 0, 0, 0, 0, 0, 0, 0, 0, 0, 0, 0, 0, 0, 0] (fork nil (steps [0, 0, 0, 0, 0, 0, 0] (fork (fork nil (steps [0, 0, 0, 0, 0, 0, 0, 1, 0, 0, 0, 0, 0, 0, 0, 0, 1, 0, 1, 1, 0, 0, 0, 0, 0, 0, 0, 2, 0, 0, 0, 0, 0, 0, 0, 0, 1, 0, 1, 1, 0, 0, 0, 0, 0, 0, 0] nil)) (fork nil (steps [0, 0, 0, 0, 0, 0, 0, 1, 0, 0, 0, 0, 0, 0, 0, 0, 1, 0, 1, 1, 0, 0, 0, 0, 0, 0, 0, 2, 0, 0, 0, 0, 0, 0, 0, 0, 1, 0, 1, 1, 0, 0, 0, 0, 0, 0, 0] nil))))))))))))))))
noncomputable def radP_R (g o c : Nat) (l : List Nd) (b k : Int) (p : Nat) (ns : Nat → Sy.Let) : Sy.Res (Value × List Blk) :=
 let z0 := Int.ofNat (Nat.succ p)
 let z1 := leaf (Value.tuple (Array.mk [.slice none 0 0, .int .i64 1]), [])
 let z2 := leaf (Value.tuple (Array.mk [.slice none 0 0, .int .i64 30]), [])
 let z3 := Ex.subQ' (Int.ofNat (List.length l)) 1
 let z4 := Ex.addQ 24 k
 let z5 := tr l (Int.toNat (Ex.wrapQ .i64 z3))
 let z6 := Ex.wrapQ .i64 z4
 let z7 := Ex.wrapQ .i64 (Ex.subQ' z0 1)
 let z8 := Ex.wrapQ .u64 z7
 let z9 := lay (tr l (Int.toNat (Ex.wrapQ .i64 (Ex.subQ' (↑(List.length l) : Int) 1)))) z6
 let z10 := Ex.wrapQ .i64 (Ex.addQ z6 1)
 let z11 := numL z10 z8
 let z12 := List.length z9 + List.length z11 + 2
 let z13 := Ex.wrapQ .u64 (Ex.wrapQ .i64 (Ex.addQ 65536 (Ex.wrapQ .i64 (Ex.mulQ 8 b))))
 let z14 := I.mk 1 z10 0 0 (Ex.wrapQ .u64 z7 % 65536) 0 :: (movk z10 (Ex.wrapQ .u64 z7 / 65536 % 65536) 1).append ((movk z10 (Ex.wrapQ .u64 z7 / 4294967296 % 65536) 2).append (movk z10 (Ex.wrapQ .u64 z7 / 281474976710656 % 65536) 3))
 let z15 := numL 29 z13
 let z16 := List.length z9 + List.length z14 + 2 + List.length z15 + 1
 let z17 := [Value.int .i64 5, Value.int .i64 z6, Value.int .i64 z6, Value.int .i64 z10, Value.int .i64 0, Value.int .i64 0, Value.int .i64 14, Value.int .i64 z6, Value.int .i64 z6, Value.int .i64 0, Value.int .i64 3, Value.int .i64 0]
 let z18 := [Value.int .i64 3, Value.int .i64 29, Value.int .i64 29, Value.int .i64 z6, Value.int .i64 0, Value.int .i64 0]
 let z19 := need ((isExpr 24 l ∧ goodN l) ∧ 0 ≤ Ex.wrapQ .i64 z3 ∧ Ex.wrapQ .i64 z3 < (↑(List.length l) : Int) ∧ Ex.wrapQ .i64 z3 < (↑(List.length l) : Int) ∧ 24 ≤ Ex.wrapQ .i64 z4 ∧ Ex.wrapQ .i64 z4 + (↑(E.needs z5) : Int) ≤ 29) (hyp (Nat.le (List.length (lay z5 z6)) (ns 1).n) (need (goodU z8 ∧ List.length z9 ≤ 1000000) (hyp (Nat.le (List.length z9 + List.length z11) (ns 3).n) (need (List.length z9 + List.length z11 + (2 : Nat) ≤ 9223372036854775807) (need (z12 * (48 : Nat) ≤ 140737488355328) (hyp (Nat.le z12 (ns 6).n) (need (goodU z13 ∧ List.length z9 + List.length z14 + (2 : Nat) ≤ 1000000) (hyp (Nat.le (List.length z9 + List.length z14 + 2 + List.length z15) (ns 8).n) (need (List.length z9 + List.length z14 + 2 + List.length z15 + (1 : Nat) ≤ 9223372036854775807) (need (z16 * (48 : Nat) ≤ 140737488355328) (hyp (Nat.le z16 (ns 11).n) (leaf (Value.tuple (Array.mk [.slice (some ⟨(ns 10).n, 0, none⟩) z16 (ns 11).n, .int .i64 0]), [Blk.mk (ns 10).n (Sy.Cont.row 49 6 z16 (ns 11).n (List.append (List.append ((List.append (insCells z9) (insCells z14)).append z17) (insCells z15)) z18)) true, Blk.mk (ns 9).n (.obj (.cells (Array.mk z18) 49)) true, Blk.mk (ns 4).n (.obj (.cells (Array.mk z17) 49)) true])))))))))))))
 let z20 := br (bif false then true else Ex.ltQ b 0) z1 (br (bif false then true else Ex.ltQ (Ex.wrapQ .i64 (Ex.subQ' 4096 z0)) b) z1 (br (bif false then true else Ex.ltQ k 0) z1 (br (bif false then true else Ex.ltQ 4 k) z1 (need (((0 : Int) ≤ 24 ∧ (24 : Int) ≤ 1000 ∧ goodN l) ∧ 0 < List.length l) (hyp True (br (bif false then true else bif true then !tru (isExpr 24 l) else false) z1 (need (nodesOk 24 l ∧ 0 < List.length l ∧ List.length l ≤ 65536 ∧ onceOk l) (hyp True (br (Ex.ltQ (↑(E.needs (tr l (List.length l - 1))) : Int) 2) (br (Ex.ltQ 5 (Ex.wrapQ .i64 (Ex.addQ k 2))) z2 z19) (br (Ex.ltQ 5 (Ex.wrapQ .i64 (Ex.addQ k (↑(E.needs (tr l (List.length l - 1))) : Int)))) z2 z19))))))))))
 br (!Ex.eqQ z0 1) (need True (hyp True (br (bif true then !tru (isPow z0) else false) z1 z20))) z20
theorem radP_run (g o c : Nat) (l : List Nd) (b k : Int) (p : Nat) : Sy.Ran (Sy.inT Tryz.prog (ctxI (.ofNat (.succ p)) k g o c l) 60 fRAd (radArgs g o c l b (.ofNat (.succ p)) k) [⟨g, .seg o (ndCells l), false⟩] (Sy.rowT tI)) radP_o (radP_R g o c l b k p) := ⟨fun _ => by kernel_rfl, fun _ => by kernel_rfl⟩
open Go Go.RowKit
open Go.Proofs.YtlpcnaeknbmjdaaGreat.Sy (Let Blk)
instance (n : Int) : Decidable (isPow n) := by unfold isPow; infer_instance
theorem pow_tab : ∀ n : Nat, n < 1025 → 0 < n → (Ex.andQ .i64 (n : Int) (Ex.wrapQ .i64 (Ex.subQ' (n : Int) 1)) = 0 ↔ isPow n) := by decide +kernel
theorem pow_iff {s : Int} (h0 : 0 < s) (h1 : s ≤ 1024) : Ex.andQ .i64 s (Ex.wrapQ .i64 (Ex.subQ' s 1)) = 0 ↔ isPow s := by
 obtain ⟨n, rfl⟩ : ∃ n : Nat, s = n := ⟨s.toNat, by omega⟩
 exact pow_tab n (by omega) (by omega)
theorem isPow.bound {s : Int} (h : isPow s) : 1 ≤ s ∧ s ≤ 1024 := by unfold isPow at h; omega
def geoOk (b s : Int) (l : List Nd) (k : Int) : Prop := (isPow s ∧ 0 ≤ b ∧ b ≤ 4096 - s) ∧ (0 ≤ k ∧ k < 5) ∧ isExpr 24 l
def need2 (l : List Nd) : Int := if (tr l (l.length - 1)).needs < 2 then 2 else ((tr l (l.length - 1)).needs : Int)
def aReg (b s : Int) (l : List Nd) (k : Int) : Prop := geoOk b s l k ∧ 5 < k + need2 l
def aOk (b s : Int) (l : List Nd) (k : Int) : Prop := geoOk b s l k ∧ k + need2 l ≤ 5
def addrL (b s : Int) (l : List Nd) (k : Int) : List I :=
 lay (tr l (l.length - 1)) (24 + k) ++ (numL (24 + k + 1) (s - 1) ++ (⟨5, 24 + k, 24 + k, 24 + k + 1, 0, 0⟩ :: ⟨14, 24 + k, 24 + k, 0, 3, 0⟩ :: (numL 29 (65536 + 8 * b) ++ [⟨3, 29, 29, 24 + k, 0, 0⟩])))
def adReg (f : FuncId) (args : Array Value) (g o : Nat) (l : List Nd) (b s k : Int) : Sy.CallC := ⟨f, args, lenOk l ∧ aReg b s l k, ⟨[(g, .seg o (ndCells l))], [], 0, []⟩, [Sy.plainO (.tuple #[.slice none 0 0, .int .i64 30])]⟩
def adOk (f : FuncId) (args : Array Value) (g o : Nat) (l : List Nd) (b s k : Int) : Sy.CallC := ⟨f, args, lenOk l ∧ aOk b s l k, ⟨[(g, .seg o (ndCells l))], [], 2, []⟩, [Sy.rowO tI 6 (addrL b s l k).length (insCells (addrL b s l k)) fun v => .tuple #[v, .int .i64 0]]⟩
theorem wU {a : Int} (h0 : 0 ≤ a) (h1 : a < 1000000) : Ex.wrapQ .u64 a = a := wrapU h0 (by omega)
theorem place_q {b : Int} (h0 : 0 ≤ b) (h1 : b ≤ 4096) : Ex.wrapQ .u64 (Ex.wrapQ .i64 (Ex.addQ 65536 (Ex.wrapQ .i64 (Ex.mulQ 8 b)))) = 65536 + 8 * b := by
 have e : Ex.wrapQ .i64 (Ex.mulQ 8 b) = 8 * b := by rw [Ex.mulQ_eq]; exact wrap_small (by omega) (by omega)
 rw [e, add_small (by omega) (by omega), wU (by omega) (by omega)]
theorem sub_small {a b : Int} (h0 : 0 ≤ a - b) (h1 : a - b < 1000000) : Ex.wrapQ .i64 (Ex.subQ' a b) = a - b := by
 rw [Ex.wrapQ_eq, Ex.subQ_eq]
 simp [IntKind.wrap, IntKind.signed, IntKind.bits]
 omega
theorem low_q {s : Int} (h0 : 1 ≤ s) (h1 : s ≤ 1024) : Ex.wrapQ .u64 (Ex.wrapQ .i64 (Ex.subQ' s 1)) = s - 1 := by
 rw [sub_small (by omega) (by omega), wU (by omega) (by omega)]
theorem need2_pos (l : List Nd) : 2 ≤ need2 l ∧ ((tr l (l.length - 1)).needs : Int) ≤ need2 l := by unfold need2; split <;> omega
theorem max1 {s : Int} (h : 1 ≤ s) : (bif Ex.ltQ 1 s then s else 1) = s := by
 cases hc : Ex.ltQ 1 s
 ·have := (Sy.b_f (b := Ex.ltQ 1 s)).symm ▸ hc
  rw [Ex.ltQ_eq] at hc
  simp at hc
  simp
  omega
 ·rfl
theorem numE (r v : Int) : (I.mk 1 r 0 0 (v % 65536) 0 :: (movk r (v / 65536 % 65536) 1 ++ (movk r (v / 4294967296 % 65536) 2 ++ movk r (v / 281474976710656 % 65536) 3))) = numL r v := rfl
theorem ctxI_holds (s k : Int) (g o c : Nat) (l : List Nd) : (ctxI s k g o c l).holds Tryz.prog := Sy.mkS_holds (fun p hp a L => by
 rcases List.mem_cons.1 hp with rfl | hp
 ·exact mayC_met _ _ _ _
 rcases List.mem_cons.1 hp with rfl | hp
 ·exact needsC_met _ _ _ _ _ _ _
 rcases List.mem_cons.1 hp with rfl | hp
 ·exact exprC_met _ _ _ _ _ _ _
 rcases List.mem_cons.1 hp with rfl | hp
 ·exact rxC_met _ _ _ _ _
 rcases List.mem_cons.1 hp with rfl | hp
 ·exact rnC_met _ _ _ _
 rcases List.mem_cons.1 hp with rfl | hp
 ·exact (rlay_met _ _ _ _ _).1 _ _
 rcases List.mem_cons.1 hp with rfl | hp
 ·exact numC_met _ _
 rcases List.mem_cons.1 hp with rfl | hp
 ·exact rnum0_met _ _
 rcases List.mem_cons.1 hp with rfl | hp
 ·exact rnumA_met _ _ _ _ _ _
 rcases List.mem_cons.1 hp with rfl | hp
 ·exact rnumA_met _ _ _ _ _ _
 rcases List.mem_singleton.1 hp with rfl
 exact pwC_met _) (fun _ h => (by cases h)) (fun _ h => (by cases h))
theorem max2 (l : List Nd) : (bif Ex.ltQ 2 ((tr l (l.length - 1)).needs : Int) then ((tr l (l.length - 1)).needs : Int) else 2) = need2 l := by
 unfold need2
 generalize ((tr l (l.length - 1)).needs) = n
 cases hc : Ex.ltQ 2 (n : Int)
 ·rw [Ex.ltQ_eq] at hc
  simp at hc
  simp
  omega
 ·rw [Ex.ltQ_eq] at hc
  simp at hc
  simp
  omega
theorem adP_reg (g o c : Nat) (l : List Nd) (b k : Int) (p : Nat) : Sy.Meets Tryz.prog (adReg fAd (adArgs g o c l b (.ofNat (.succ p)) k) g o l b (.ofNat (.succ p)) k) := by
 refine Sy.meets_of (ctxI_holds _ _ _ _ _ _) mixed (adP_run g o c l b k p) fun hok ns => ?_
 obtain ⟨hl, ⟨⟨hq, hb0, hb1⟩, hk, hE⟩, hr⟩ : lenOk l ∧ aReg b (.ofNat (.succ p)) l k := hok
 have hp : (0 : Int) < .ofNat (.succ p) := by show (0 : Int) < ((p + 1 : Nat) : Int); omega
 simp only [adP_R]
 generalize Int.ofNat (Nat.succ p) = s at *
 have hs := hq.bound
 have h0 := hl.1.1
 have hm := hE.2.2.1
 have hx := tr_small hE (i := l.length - 1) (by omega)
 have hn := (tr l (l.length - 1)).needs_le
 have h2 : need2 l ≤ 65536 := by unfold need2; split <;> omega
 have h3 := need2_pos l
 have leaf : ∀ L, Sy.leafC (adReg fAd (adArgs g o c l b s k) g o l b s k) (.tuple #[.slice none 0 0, .int .i64 30], L) := fun L => Sy.plainO_leaf (Sy.mS _) rfl rfl
 simp only [Sy.Res.holds, Int.ofNat_eq_natCast, Sy.b_and, Sy.b_or, Sy.b_not, Sy.b_f, Sy.b_and', Sy.b_or', Sy.q_lt, Sy.q_le, Sy.q_eq, Sy.b_tt, Sy.b_ft, not_true_eq_false, not_false_eq_true, some_int, some_bool, exists_eq', true_and, tru_t, leftE hl, Int.toNat_natCast, false_or, max1 (show 1 ≤ s by omega), max2, place_q hb0 (show b ≤ 4096 by omega), low_q hs.1 hs.2, sub_small (a := 4096) (b := s) (by omega) (by omega), (pow_iff hp hs.2).2 hq, add_small (a := k) (b := need2 l) (by omega) (by omega)]
 refine ⟨fun h => absurd h (by omega), fun _ => ⟨fun h => h.elim, fun _ => ⟨fun h => absurd h (by omega), fun _ => ⟨fun h => absurd h (by omega), fun _ => ⟨fun h => absurd h (by omega), fun _ => ⟨fun h => absurd h (by omega), fun _ => ⟨hl.1, fun _ => ⟨fun h => absurd hE h, fun _ => ?_⟩⟩⟩⟩⟩⟩⟩⟩
 refine ⟨by omega, fun _ => ⟨⟨hE, by omega, by omega, by omega⟩, fun _ => ⟨fun _ => leaf _, fun h => absurd hr h⟩⟩⟩
theorem adP_ok (g o c : Nat) (l : List Nd) (b k : Int) (p : Nat) : Sy.Meets Tryz.prog (adOk fAd (adArgs g o c l b (.ofNat (.succ p)) k) g o l b (.ofNat (.succ p)) k) := by
 refine Sy.meets_of (ctxI_holds _ _ _ _ _ _) mixed (adP_run g o c l b k p) fun hok ns => ?_
 obtain ⟨hl, ⟨⟨hq, hb0, hb1⟩, hk, hE⟩, hr⟩ : lenOk l ∧ aOk b (.ofNat (.succ p)) l k := hok
 have hp : (0 : Int) < .ofNat (.succ p) := by show (0 : Int) < ((p + 1 : Nat) : Int); omega
 simp only [adP_R]
 generalize Int.ofNat (Nat.succ p) = s at *
 have hs := hq.bound
 have h0 := hl.1.1
 have hm := hE.2.2.1
 have h3 := need2_pos l
 have hf := lay_fits hE (i := l.length - 1) (by omega) (24 + k)
 have hn1 := numL_le (24 + k + 1) (s - 1)
 have hn2 := numL_le 29 (65536 + 8 * b)
 have hq1 := numL_pos (24 + k + 1) (s - 1)
 have hq2 := numL_pos 29 (65536 + 8 * b)
 have hnp := (tr l (l.length - 1)).needs_pos
 have hlen : (addrL b s l k).length = (lay (tr l (l.length - 1)) (24 + k)).length + ((numL (24 + k + 1) (s - 1)).length + ((numL 29 (65536 + 8 * b)).length + 3)) := by
  simp only [addrL, List.length_append, List.length_cons, List.length_nil]
 have hcs : insCells (addrL b s l k) = insCells (lay (tr l (l.length - 1)) (24 + k)) ++ (insCells (numL (24 + k + 1) (s - 1)) ++ ((I.mk 5 (24 + k) (24 + k) (24 + k + 1) 0 0).cells ++ ((I.mk 14 (24 + k) (24 + k) 0 3 0).cells ++ (insCells (numL 29 (65536 + 8 * b)) ++ (I.mk 3 29 29 (24 + k) 0 0).cells)))) := by
  simp [addrL, insCells]
 simp only [Sy.Res.holds, Int.ofNat_eq_natCast, Sy.b_and, Sy.b_or, Sy.b_not, Sy.b_f, Sy.b_and', Sy.b_or', Sy.q_lt, Sy.q_le, Sy.q_eq, Sy.b_tt, Sy.b_ft, not_true_eq_false, not_false_eq_true, some_int, some_bool, exists_eq', true_and, tru_t, leftE hl, Int.toNat_natCast, false_or, max1 (show 1 ≤ s by omega), max2, place_q hb0 (show b ≤ 4096 by omega), low_q hs.1 hs.2, sub_small (a := 4096) (b := s) (by omega) (by omega), (pow_iff hp hs.2).2 hq, add_small (a := k) (b := need2 l) (by omega) (by omega), add_small (a := 24) (b := k) (by omega) (by omega), add_small (a := 24 + k) (b := 1) (by omega) (by omega)]
 refine ⟨fun h => absurd h (by omega), fun _ => ⟨fun h => h.elim, fun _ => ⟨fun h => absurd h (by omega), fun _ => ⟨fun h => absurd h (by omega), fun _ => ⟨fun h => absurd h (by omega), fun _ => ⟨fun h => absurd h (by omega), fun _ => ⟨hl.1, fun _ => ⟨fun h => absurd hE h, fun _ => ?_⟩⟩⟩⟩⟩⟩⟩⟩
 refine ⟨by omega, fun _ => ⟨⟨hE, by omega, by omega, by omega⟩, fun _ => ⟨fun h => absurd h (by omega), fun _ => ?_⟩⟩⟩
 generalize lay (tr l (l.length - 1)) (24 + k) = A at *
 generalize numL (24 + k + 1) (s - 1) = B at *
 generalize numL 29 (65536 + 8 * b) = C at *
 have hA := insC_len A
 have hB := insC_len B
 have hC := insC_len C
 refine ⟨⟨⟨hE, hl.2⟩, by omega, by omega, by omega, by omega, by omega⟩, fun _ => ⟨by omega, fun _ => ⟨⟨hA, insC_one _⟩, by omega, by omega, by omega, fun _ => ⟨⟨hB, insC_one _⟩, by omega, by omega, fun _ => ⟨by omega, by omega, fun _ => ⟨by omega, by omega, fun _ => ⟨⟨hC, insC_one _⟩, by omega, by omega, fun _ => ⟨by omega, by omega, fun hc => ?_⟩⟩⟩⟩⟩⟩⟩⟩
 refine Sy.rowO_leaf' (Sy.mS _) rfl 0 rfl rfl ?_ ?_ hc
 ·rw [hlen]; omega
 ·rw [hcs]; simp [I.cells]
theorem radP_reg (g o c : Nat) (l : List Nd) (b k : Int) (p : Nat) : Sy.Meets Tryz.prog (adReg fRAd (radArgs g o c l b (.ofNat (.succ p)) k) g o l b (.ofNat (.succ p)) k) := by
 refine Sy.meets_of (ctxI_holds _ _ _ _ _ _) mixed (radP_run g o c l b k p) fun hok ns => ?_
 obtain ⟨hl, ⟨⟨hq, hb0, hb1⟩, hk, hE⟩, hr⟩ : lenOk l ∧ aReg b (.ofNat (.succ p)) l k := hok
 have hp : (0 : Int) < .ofNat (.succ p) := by show (0 : Int) < ((p + 1 : Nat) : Int); omega
 simp only [radP_R]
 generalize Int.ofNat (Nat.succ p) = s at *
 have hs := hq.bound
 have h0 := hl.1.1
 have hm := hE.2.2.1
 have hx := tr_small hE (i := l.length - 1) (by omega)
 have hn := (tr l (l.length - 1)).needs_le
 have h2 : need2 l ≤ 65536 := by unfold need2; split <;> omega
 have h3 := need2_pos l
 have leaf : ∀ L, Sy.leafC (adReg fRAd (radArgs g o c l b s k) g o l b s k) (.tuple #[.slice none 0 0, .int .i64 30], L) := fun L => Sy.plainO_leaf (Sy.mS _) rfl rfl
 simp only [Sy.Res.holds, Int.ofNat_eq_natCast, Sy.b_and, Sy.b_or, Sy.b_not, Sy.b_f, Sy.b_and', Sy.b_or', Sy.q_lt, Sy.q_le, Sy.q_eq, Sy.b_tt, Sy.b_ft, not_true_eq_false, not_false_eq_true, some_int, some_bool, exists_eq', true_and, tru_t, leftE hl, Int.toNat_natCast, false_or, sub_small (a := 4096) (b := s) (by omega) (by omega), add_small (a := k) (b := 2) (by omega) (by omega), add_small (a := k) (b := ((tr l (l.length - 1)).needs : Int)) (by omega) (by omega)]
 refine ⟨fun _ => fun _ => ⟨fun h => absurd hq h, fun _ => ⟨fun h => absurd h (by omega), fun _ => ⟨fun h => absurd h (by omega), fun _ => ⟨fun h => absurd h (by omega), fun _ => ⟨fun h => absurd h (by omega), fun _ => ⟨⟨⟨by omega, by omega, hl.2⟩, h0⟩, fun _ => ⟨fun h => absurd hE h, fun _ => ⟨hE, fun _ => ⟨fun u => ⟨fun _ => leaf _, fun h => absurd h (by unfold need2 at hr; rw [if_pos (by omega)] at hr; omega)⟩, fun u => ⟨fun _ => leaf _, fun h => absurd h (by unfold need2 at hr; rw [if_neg (by omega)] at hr; omega)⟩⟩⟩⟩⟩⟩⟩⟩⟩⟩, fun _ => ⟨fun h => absurd h (by omega), fun _ => ⟨fun h => absurd h (by omega), fun _ => ⟨fun h => absurd h (by omega), fun _ => ⟨fun h => absurd h (by omega), fun _ => ⟨⟨⟨by omega, by omega, hl.2⟩, h0⟩, fun _ => ⟨fun h => absurd hE h, fun _ => ⟨hE, fun _ => ⟨fun u => ⟨fun _ => leaf _, fun h => absurd h (by unfold need2 at hr; rw [if_pos (by omega)] at hr; omega)⟩, fun u => ⟨fun _ => leaf _, fun h => absurd h (by unfold need2 at hr; rw [if_neg (by omega)] at hr; omega)⟩⟩⟩⟩⟩⟩⟩⟩⟩⟩
theorem radP_ok (g o c : Nat) (l : List Nd) (b k : Int) (p : Nat) : Sy.Meets Tryz.prog (adOk fRAd (radArgs g o c l b (.ofNat (.succ p)) k) g o l b (.ofNat (.succ p)) k) := by
 refine Sy.meets_of (ctxI_holds _ _ _ _ _ _) mixed (radP_run g o c l b k p) fun hok ns => ?_
 obtain ⟨hl, ⟨⟨hq, hb0, hb1⟩, hk, hE⟩, hr⟩ : lenOk l ∧ aOk b (.ofNat (.succ p)) l k := hok
 have hp : (0 : Int) < .ofNat (.succ p) := by show (0 : Int) < ((p + 1 : Nat) : Int); omega
 simp only [radP_R]
 generalize Int.ofNat (Nat.succ p) = s at *
 have hs := hq.bound
 have h0 := hl.1.1
 have hm := hE.2.2.1
 have h3 := need2_pos l
 have hx := tr_small hE (i := l.length - 1) (by omega)
 have hn := (tr l (l.length - 1)).needs_le
 have hf := lay_fits hE (i := l.length - 1) (by omega) (24 + k)
 have hn1 := numL_le (24 + k + 1) (s - 1)
 have hn2 := numL_le 29 (65536 + 8 * b)
 have hq1 := numL_pos (24 + k + 1) (s - 1)
 have hq2 := numL_pos 29 (65536 + 8 * b)
 have hnp := (tr l (l.length - 1)).needs_pos
 have hlen : (addrL b s l k).length = (lay (tr l (l.length - 1)) (24 + k)).length + ((numL (24 + k + 1) (s - 1)).length + ((numL 29 (65536 + 8 * b)).length + 3)) := by
  simp only [addrL, List.length_append, List.length_cons, List.length_nil]
 have hcs : insCells (addrL b s l k) = insCells (lay (tr l (l.length - 1)) (24 + k)) ++ (insCells (numL (24 + k + 1) (s - 1)) ++ ((I.mk 5 (24 + k) (24 + k) (24 + k + 1) 0 0).cells ++ ((I.mk 14 (24 + k) (24 + k) 0 3 0).cells ++ (insCells (numL 29 (65536 + 8 * b)) ++ (I.mk 3 29 29 (24 + k) 0 0).cells)))) := by
  simp [addrL, insCells]
 have hgo1 : goodU (s - 1) := by unfold goodU; omega
 have hgo2 : goodU (65536 + 8 * b) := by unfold goodU; omega
 simp only [Sy.Res.holds, Int.ofNat_eq_natCast, Sy.b_and, Sy.b_or, Sy.b_not, Sy.b_f, Sy.b_and', Sy.b_or', Sy.q_lt, Sy.q_le, Sy.q_eq, Sy.b_tt, Sy.b_ft, not_true_eq_false, not_false_eq_true, some_int, some_bool, exists_eq', true_and, tru_t, leftE hl, Int.toNat_natCast, false_or, sub_small (a := 4096) (b := s) (by omega) (by omega), add_small (a := k) (b := 2) (by omega) (by omega), add_small (a := k) (b := ((tr l (l.length - 1)).needs : Int)) (by omega) (by omega), place_q hb0 (show b ≤ 4096 by omega), low_q hs.1 hs.2, add_small (a := 24) (b := k) (by omega) (by omega), add_small (a := 24 + k) (b := 1) (by omega) (by omega)]
 refine ⟨fun _ => fun _ => ⟨fun h => absurd hq h, fun _ => ⟨fun h => absurd h (by omega), fun _ => ⟨fun h => absurd h (by omega), fun _ => ⟨fun h => absurd h (by omega), fun _ => ⟨fun h => absurd h (by omega), fun _ => ⟨⟨⟨by omega, by omega, hl.2⟩, h0⟩, fun _ => ⟨fun h => absurd hE h, fun _ => ⟨hE, fun _ => ⟨fun u => ⟨fun h => absurd h (by omega), fun _ => ?_⟩, fun u => ⟨fun h => absurd h (by omega), fun _ => ?_⟩⟩⟩⟩⟩⟩⟩⟩⟩⟩, fun _ => ⟨fun h => absurd h (by omega), fun _ => ⟨fun h => absurd h (by omega), fun _ => ⟨fun h => absurd h (by omega), fun _ => ⟨fun h => absurd h (by omega), fun _ => ⟨⟨⟨by omega, by omega, hl.2⟩, h0⟩, fun _ => ⟨fun h => absurd hE h, fun _ => ⟨hE, fun _ => ⟨fun u => ⟨fun h => absurd h (by omega), fun _ => ?_⟩, fun u => ⟨fun h => absurd h (by omega), fun _ => ?_⟩⟩⟩⟩⟩⟩⟩⟩⟩⟩
 all_goals
  try simp only [List.append_eq, numE]
  generalize lay (tr l (l.length - 1)) (24 + k) = A at *
  generalize numL (24 + k + 1) (s - 1) = B at *
  generalize numL 29 (65536 + 8 * b) = C at *
  refine ⟨⟨⟨hE, hl.2⟩, by omega, by omega, by omega, by omega, by omega⟩, fun _ => ⟨⟨hgo1, by omega⟩, fun _ => ⟨by omega, by omega, fun _ => ⟨⟨hgo2, by omega⟩, fun _ => ⟨by omega, by omega, fun hc => ?_⟩⟩⟩⟩⟩
  refine Sy.rowO_leaf' (Sy.mS _) rfl 0 rfl rfl ?_ ?_ hc
  ·rw [hlen]; omega
  ·rw [hcs]; simp [I.cells]
end Go.Proofs.YtlpcnaeknbmjdaaGreat.Lw
namespace Go.Proofs.YtlpcnaeknbmjdaaGreat
open Go Go.RowKit
open Sy (Let Blk)
def Sim : List Blk → List Blk → Prop
 | [], [] => True
 | a :: A, b :: B => (b.nm = a.nm ∧ b.own = a.own ∧ ∀ h, a.ct.sat h → b.ct.sat h) ∧ Sim A B
 | _, _ => False
theorem Sim.mem : ∀ {A B : List Blk}, Sim A B → ∀ b ∈ B, ∃ a ∈ A, b.nm = a.nm ∧ b.own = a.own ∧ ∀ h, a.ct.sat h → b.ct.sat h
 | [], [], _, b, hb => by cases hb
 | a :: A, b :: B, ⟨h1, h2⟩, c, hc => by
   rcases List.mem_cons.1 hc with rfl | hc
   ·exact ⟨a, Sy.mH, h1⟩
   ·obtain ⟨x, hx, h⟩ := Sim.mem h2 c hc
    exact ⟨x, Sy.mC _ hx, h⟩
 | [], _ :: _, h, _, _ => h.elim
 | _ :: _, [], h, _, _ => h.elim
theorem Sim.far : ∀ {A B : List Blk}, Sim A B → A.Pairwise Sy.Far → B.Pairwise Sy.Far
 | [], [], _, _ => List.Pairwise.nil
 | a :: A, b :: B, ⟨⟨h1, h2, _⟩, hs⟩, hp => by
   rw [List.pairwise_cons] at hp ⊢
   refine ⟨fun c hc ho => ?_, Sim.far hs hp.2⟩
   obtain ⟨x, hx, e1, e2, -⟩ := Sim.mem hs c hc
   rw [h1, e1]
   rw [h2, e2] at ho
   exact hp.1 x hx ho
 | [], _ :: _, h, _ => h.elim
 | _ :: _, [], h, _ => h.elim
theorem ent_sim {A B : List Blk} (h : Sim A B) : Sy.Ent A B := fun w0 keep W hr => by
 refine ⟨hr.os, hr.tape, hr.output, hr.size, hr.old, fun p hp => ?_, h.far hr.far⟩
 obtain ⟨a, ha, e1, e2, e3⟩ := h.mem p hp
 rw [e1, e2]
 exact ⟨e3 _ (hr.blk a ha).1, (hr.blk a ha).2⟩
end Go.Proofs.YtlpcnaeknbmjdaaGreat
namespace Go.Proofs.YtlpcnaeknbmjdaaGreat.Gn
open Sy.O (bz fork nil pack step steps)
open Sy.Res (need hyp br leaf both)
open Go Go.RowKit
open Go.Proofs.YtlpcnaeknbmjdaaGreat.Sy (Let Blk HasL)
open Lw (I insCells tI)
def slP (v : Value) : Option Addr := match v with
 | .slice p _ _ => p
 | _ => none
def slC (v : Value) : Nat := match v with
 | .slice _ _ c => c
 | _ => 0
abbrev slV (v : Value) : Value := .slice (slP v) (Sy.lenS v) (slC v)
def rowB (v : Value) (X : List I) : List (Nat × Sy.Cont) := match slP v with
 | some ⟨g, 0, none⟩ => [(g, .row tI 6 X.length (slC v) (insCells X))]
 | _ => []
def RowV (v : Value) (X : List I) : Prop := (X = [] ∧ slP v = none ∧ Sy.lenS v = 0 ∧ slC v = 0) ∨ (∃ g, slP v = some ⟨g, 0, none⟩ ∧ Sy.lenS v = X.length ∧ X.length ≤ slC v ∧ X ≠ [])
structure Rw where
 B : Value → List I → List (Nat × Sy.Cont)
 V : Value → List I → Prop
def rowQ : Rw := ⟨rowB, RowV⟩
abbrev tY : TypeId := 132
def layC (lv mp tv : Value) (e : Int) (b : Bool) : Sy.Cont := .obj (.cells #[lv, mp, tv, .int .i64 e, .bool b] tY (0, 0))
abbrev fPut : FuncId := 60
def pNR_o : Sy.O := (bz 25 0x1cfaaaf nil)
noncomputable def pNR_R (y s m c : Nat) (mp tv : Value) (e : Int) (b : Bool) (Z : List I) (ns : Nat → Sy.Let) : Sy.Res (Value × List Blk) :=
 let z0 := 0 + m
 need ((0 : Nat) = 0 ∧ List.length (insCells Z) = m * 6 ∧ ∀ (u : Value), u ∈ insCells Z → Value.oneCell' u = true) (need (1 ≤ m) (need (0 + m ≤ 9223372036854775807) (need (z0 * (48 : Nat) ≤ 140737488355328) (hyp (Nat.le z0 (ns 1).n) (leaf (Value.tuple (Array.mk []), [Blk.mk (ns 0).n (Sy.Cont.row 49 6 z0 (ns 1).n ([] ++ insCells Z)) true, Blk.mk s (Sy.Cont.seg 0 (insCells Z)) false, Blk.mk y (.obj (.cells (Array.mk [.slice (some ⟨(ns 0).n, 0, none⟩) z0 (ns 1).n, mp, tv, .int .i64 e, .bool b]) 132)) true]))))))
theorem pNR_run (y s m c : Nat) (mp tv : Value) (e : Int) (b : Bool) (Z : List I) : Sy.Ran (Sy.inB Tryz.prog Sy.S0 50 fPut #[.pointer (some ⟨y, 0, none⟩), .slice (some ⟨s, 0, none⟩) m c] [⟨y, layC (.slice none 0 0) mp tv e b, true⟩, ⟨s, .seg 0 (insCells Z), false⟩]) pNR_o (pNR_R y s m c mp tv e b Z) := ⟨fun _ => by kernel_rfl, fun _ => by kernel_rfl⟩
def pRR_o : Sy.O := (bz 32 0xe7d9554f nil)
noncomputable def pRR_R (y s m c g n cap : Nat) (mp tv : Value) (e : Int) (b : Bool) (xs : List Value) (Z : List I) (ns : Nat → Sy.Let) : Sy.Res (Value × List Blk) :=
 let z0 := insCells Z
 need ((0 : Nat) = 0 ∧ List.length z0 = m * 6 ∧ ∀ (u : Value), u ∈ insCells Z → Value.oneCell' u = true) (need (1 ≤ m) (need (n + m ≤ 9223372036854775807) (need ((n + m) * (48 : Nat) ≤ 140737488355328) (hyp (Nat.le (n + m) (ns 1).n) (leaf (Value.tuple (Array.mk []), [Blk.mk (ns 0).n (Sy.Cont.row 49 6 (n + m) (ns 1).n (xs.append z0)) true, Blk.mk s (Sy.Cont.seg 0 z0) false, Blk.mk y (.obj (.cells (Array.mk [.slice (some ⟨(ns 0).n, 0, none⟩) (n + m) (ns 1).n, mp, tv, .int .i64 e, .bool b]) 132)) true]))))))
theorem pRR_run (y s m c g n cap : Nat) (mp tv : Value) (e : Int) (b : Bool) (xs : List Value) (Z : List I) : Sy.Ran (Sy.inB Tryz.prog Sy.S0 50 fPut #[.pointer (some ⟨y, 0, none⟩), .slice (some ⟨s, 0, none⟩) m c] [⟨y, layC (.slice (some ⟨g, 0, none⟩) n cap) mp tv e b, true⟩, ⟨g, .row tI 6 n cap xs, true⟩, ⟨s, .seg 0 (insCells Z), false⟩]) pRR_o (pRR_R y s m c g n cap mp tv e b xs Z) := ⟨fun _ => by kernel_rfl, fun _ => by kernel_rfl⟩
def pNN_o : Sy.O := (bz 8 0xf7 nil)
noncomputable def pNN_R (y : Nat) (mp tv : Value) (e : Int) (b : Bool) (ns : Nat → Sy.Let) : Sy.Res (Value × List Blk) :=
 leaf (Value.tuple (Array.mk []), [Blk.mk y (.obj (.cells (Array.mk [.slice none 0 0, mp, tv, .int .i64 e, .bool b]) 132)) true])
theorem pNN_run (y : Nat) (mp tv : Value) (e : Int) (b : Bool) : Sy.Ran (Sy.inB Tryz.prog Sy.S0 50 fPut #[.pointer (some ⟨y, 0, none⟩), .slice none 0 0] [⟨y, layC (.slice none 0 0) mp tv e b, true⟩]) pNN_o (pNN_R y mp tv e b) := ⟨fun _ => by kernel_rfl, fun _ => by kernel_rfl⟩
def pRN_o : Sy.O := (bz 16 0xefaf nil)
noncomputable def pRN_R (y g n cap : Nat) (mp tv : Value) (e : Int) (b : Bool) (xs : List Value) (ns : Nat → Sy.Let) : Sy.Res (Value × List Blk) :=
 hyp True (leaf (Value.tuple (Array.mk []), [Blk.mk g (Sy.Cont.row 49 6 n cap xs) true, Blk.mk y (.obj (.cells (Array.mk [.slice (some ⟨g, 0, none⟩) n cap, mp, tv, .int .i64 e, .bool b]) 132)) true]))
theorem pRN_run (y g n cap : Nat) (mp tv : Value) (e : Int) (b : Bool) (xs : List Value) : Sy.Ran (Sy.inB Tryz.prog Sy.S0 50 fPut #[.pointer (some ⟨y, 0, none⟩), .slice none 0 0] [⟨y, layC (.slice (some ⟨g, 0, none⟩) n cap) mp tv e b, true⟩, ⟨g, .row tI 6 n cap xs, true⟩]) pRN_o (pRN_R y g n cap mp tv e b xs) := ⟨fun _ => by kernel_rfl, fun _ => by kernel_rfl⟩
open Go Go.RowKit
open Go.Proofs.YtlpcnaeknbmjdaaGreat.Sy (Let Blk HasL)
open Lw (I insCells tI)
theorem RowV.lit {v : Value} {X : List I} (h : RowV v X) : (X = [] ∧ slV v = .slice none 0 0 ∧ rowB v X = []) ∨ ∃ g cap, slV v = .slice (some ⟨g, 0, none⟩) X.length cap ∧ rowB v X = [(g, .row tI 6 X.length cap (insCells X))] ∧ X.length ≤ cap ∧ X ≠ [] := by
 rcases h with ⟨h1, h2, h3, h4⟩ | ⟨g, h2, h3, h4, h5⟩
 ·refine .inl ⟨h1, ?_, ?_⟩
  ·rw [slV, h2, h3, h4]
  ·unfold rowB
   rw [h2]
 ·refine .inr ⟨g, slC v, ?_, ?_, h4, h5⟩
  ·rw [slV, h2, h3]
  ·unfold rowB
   rw [h2]
   rfl
theorem rowV_nil : RowV (.slice none 0 0) [] := .inl ⟨rfl, rfl, rfl, rfl⟩
theorem rowV_some {g cap : Nat} {X : List I} (h : X.length ≤ cap) (hne : X ≠ []) : RowV (.slice (some ⟨g, 0, none⟩) X.length cap) X := .inr ⟨g, rfl, rfl, h, hne⟩
theorem ins_len (l : List I) : (insCells l).length = l.length * 6 := Lw.insC_len l
theorem ins_app (a b : List I) : insCells (a ++ b) = insCells a ++ insCells b := Lw.insC_app a b
theorem ins_one (l : List I) : ∀ u ∈ insCells l, u.oneCell' = true := Lw.insC_one l
def letV (v : Value) : Let := ⟨0, 0, false, v, []⟩
def lv0 (ns : List Let) : Value := (ns.getD 0 Let.none).v
def putO (q : Rw) (y : Nat) (mp tv : Value) (e : Int) (b : Bool) (X : List I) : Sy.OutM × (List Let → Value) :=
 (⟨fun ns => q.V (lv0 ns) X, fun ns => [(y, layC (slV (lv0 ns)) mp tv e b)], fun ns => q.B (lv0 ns) X⟩, fun _ => .tuple #[])
def putL (q : Rw) (y s c : Nat) (v mp tv : Value) (e : Int) (b : Bool) (X Z : List I) : Sy.CallC :=
 ⟨fPut, #[.pointer (some ⟨y, 0, none⟩), .slice (some ⟨s, 0, none⟩) Z.length c], q.V v X ∧ Z ≠ [] ∧ X.length + Z.length ≤ 2000000, ⟨[(s, .seg 0 (insCells Z))], (y, layC (slV v) mp tv e b) :: q.B v X, 1, []⟩, [putO q y mp tv e b (X ++ Z)]⟩
def putW (q : Rw) (y : Nat) (v w mp tv : Value) (e : Int) (b : Bool) (X Z : List I) : Sy.CallC :=
 ⟨fPut, #[.pointer (some ⟨y, 0, none⟩), slV w], q.V v X ∧ q.V w Z ∧ X.length + Z.length ≤ 2000000, ⟨[], (y, layC (slV v) mp tv e b) :: q.B v X, 1, q.B w Z⟩, [putO q y mp tv e b (X ++ Z)]⟩
theorem put_leaf {c : Sy.CallC} {y : Nat} {mp tv : Value} {e : Int} {b : Bool} {X : List I} (ho : putO rowQ y mp tv e b X ∈ c.outs) (hm : c.mem.m = 1) {g n cap : Nat} {xs : List Value} {r : Value × List Blk} (hv : r.1 = .tuple #[]) (hn : n = X.length) (hxs : xs = insCells X) (hc : n ≤ cap) (hne : X ≠ [])
  {x : List Blk} (hr : r.2 = ⟨g, .row tI 6 n cap xs, true⟩ :: (x ++ [⟨y, layC (.slice (some ⟨g, 0, none⟩) n cap) mp tv e b, true⟩])) : Sy.leafB c r := by
 subst hn hxs
 refine ⟨_, ho, [letV (.slice (some ⟨g, 0, none⟩) X.length cap)], hm.symm, hv, ?_, rowV_some hc hne⟩
 rw [hr]
 show Sy.Ent _ [⟨y, layC (.slice (some ⟨g, 0, none⟩) X.length cap) mp tv e b, true⟩, ⟨g, .row tI 6 X.length cap (insCells X), true⟩]
 refine Sy.Ent.trans (Sy.Ent.sub (B := [⟨g, .row tI 6 X.length cap (insCells X), true⟩, ⟨y, layC (.slice (some ⟨g, 0, none⟩) X.length cap) mp tv e b, true⟩]) ?_) (Sy.Ent.perm (List.Perm.swap _ _ _))
 exact List.Sublist.cons_cons _ (List.sublist_append_right _ _)
theorem putL_met (y s c : Nat) (v mp tv : Value) (e : Int) (b : Bool) (X Z : List I) : Sy.Meets Tryz.prog (putL rowQ y s c v mp tv e b X Z) := fun hok => by
 obtain ⟨hX, hZ, hb⟩ := id hok
 have hpos : 1 ≤ Z.length := List.length_pos_iff.2 hZ
 rcases hX.lit with ⟨rfl, h1, h2⟩ | ⟨g, cap, h1, h2, hc, hne⟩
 ·refine Sy.meets_ofB (c := putL rowQ y s c v mp tv e b [] Z) Sy.S0_holds mixed (L := [⟨y, layC (.slice none 0 0) mp tv e b, true⟩, ⟨s, .seg 0 (insCells Z), false⟩]) ?_ (pNR_run y s Z.length c mp tv e b Z) (fun _ ns => ?_) hok
  ·show Sy.Ent (⟨s, .seg 0 (insCells Z), false⟩ :: ((((y, layC (slV v) mp tv e b) :: rowB v []).map Sy.ownOf) ++ [])) _
   rw [h1, h2]
   exact Sy.Ent.perm (List.Perm.swap _ _ _)
  ·simp only [pNR_R, Sy.Res.holds]
   exact ⟨⟨trivial, ins_len Z, ins_one Z⟩, hpos, by omega, by omega, fun hc => put_leaf (x := [_]) (Sy.mS _) rfl rfl (by simp) (by simp) hc (by simpa using hZ) rfl⟩
 ·refine Sy.meets_ofB (c := putL rowQ y s c v mp tv e b X Z) Sy.S0_holds mixed (L := [⟨y, layC (.slice (some ⟨g, 0, none⟩) X.length cap) mp tv e b, true⟩, ⟨g, .row tI 6 X.length cap (insCells X), true⟩, ⟨s, .seg 0 (insCells Z), false⟩]) ?_ (pRR_run y s Z.length c g X.length cap mp tv e b (insCells X) Z) (fun _ ns => ?_) hok
  ·show Sy.Ent (⟨s, .seg 0 (insCells Z), false⟩ :: ((((y, layC (slV v) mp tv e b) :: rowB v X).map Sy.ownOf) ++ [])) _
   rw [h1, h2]
   exact Sy.Ent.perm ((List.Perm.swap _ _ _).trans ((List.Perm.swap _ _ _).cons _))
  ·simp only [pRR_R, Sy.Res.holds]
   exact ⟨⟨trivial, ins_len Z, ins_one Z⟩, hpos, by omega, by omega, fun hc => put_leaf (x := [_]) (Sy.mS _) rfl rfl List.length_append.symm (ins_app X Z).symm hc (by simp [hne]) rfl⟩
theorem ent_seg {A : List Blk} {s n cap : Nat} {Z : List I} {b : Bool} : Sy.Ent (A ++ [⟨s, .row tI 6 n cap (insCells Z), b⟩]) (A ++ [⟨s, .seg 0 (insCells Z), b⟩]) := by
 have key : ∀ A : List Blk, Sim (A ++ [⟨s, .row tI 6 n cap (insCells Z), b⟩]) (A ++ [⟨s, .seg 0 (insCells Z), b⟩]) := fun A => by
  induction A with
  | nil => exact ⟨⟨rfl, rfl, fun _ h => Sy.Cont.sat_seg h⟩, trivial⟩
  | cons a A ih => exact ⟨⟨rfl, rfl, fun _ h => h⟩, ih⟩
 exact ent_sim (key A)
theorem putW_met (y : Nat) (v w mp tv : Value) (e : Int) (b : Bool) (X Z : List I) : Sy.Meets Tryz.prog (putW rowQ y v w mp tv e b X Z) := fun hok => by
 obtain ⟨hX, hW, hb⟩ := id hok
 rcases hW.lit with ⟨rfl, k1, k2⟩ | ⟨s, c, k1, k2, hc', hZ⟩
 ·have hargs : (putW rowQ y v w mp tv e b X []).args = #[.pointer (some ⟨y, 0, none⟩), .slice none 0 0] := by
   show #[_, slV w] = _
   rw [k1]
  rcases hX.lit with ⟨rfl, h1, h2⟩ | ⟨g, cap, h1, h2, hc, hne⟩
  ·refine Sy.meets_ofB (c := putW rowQ y v w mp tv e b [] []) Sy.S0_holds mixed (L := [⟨y, layC (.slice none 0 0) mp tv e b, true⟩]) ?_ (by rw [hargs]; exact pNN_run y mp tv e b) (fun _ ns => ?_) hok
   ·show Sy.Ent ((((y, layC (slV v) mp tv e b) :: rowB v []).map Sy.ownOf) ++ rdOf (rowB w [])) _
    rw [h1, h2, k2]
    exact Sy.Ent.refl _
   ·simp only [pNN_R, Sy.Res.holds]
    exact ⟨_, Sy.mS _, [letV (.slice none 0 0)], rfl, rfl, Sy.Ent.refl _, rowV_nil⟩
  ·refine Sy.meets_ofB (c := putW rowQ y v w mp tv e b X []) Sy.S0_holds mixed (L := [⟨y, layC (.slice (some ⟨g, 0, none⟩) X.length cap) mp tv e b, true⟩, ⟨g, .row tI 6 X.length cap (insCells X), true⟩]) ?_ (by rw [hargs]; exact pRN_run y g X.length cap mp tv e b (insCells X)) (fun _ ns => ?_) hok
   ·show Sy.Ent ((((y, layC (slV v) mp tv e b) :: rowB v X).map Sy.ownOf) ++ rdOf (rowB w [])) _
    rw [h1, h2, k2]
    exact Sy.Ent.refl _
   ·simp only [pRN_R, Sy.Res.holds]
    exact fun _ => put_leaf (x := []) (Sy.mS _) rfl rfl (by simp) (by simp) hc (by simpa using hne) rfl
 ·have hpos : 1 ≤ Z.length := List.length_pos_iff.2 hZ
  have hargs : (putW rowQ y v w mp tv e b X Z).args = #[.pointer (some ⟨y, 0, none⟩), .slice (some ⟨s, 0, none⟩) Z.length c] := by
   show #[_, slV w] = _
   rw [k1]
  rcases hX.lit with ⟨rfl, h1, h2⟩ | ⟨g, cap, h1, h2, hc, hne⟩
  ·refine Sy.meets_ofB (c := putW rowQ y v w mp tv e b [] Z) Sy.S0_holds mixed (L := [⟨y, layC (.slice none 0 0) mp tv e b, true⟩, ⟨s, .seg 0 (insCells Z), false⟩]) ?_ (by rw [hargs]; exact pNR_run y s Z.length c mp tv e b Z) (fun _ ns => ?_) hok
   ·show Sy.Ent ((((y, layC (slV v) mp tv e b) :: rowB v []).map Sy.ownOf) ++ rdOf (rowB w Z)) _
    rw [h1, h2, k2]
    exact ent_seg (A := [_])
   ·simp only [pNR_R, Sy.Res.holds]
    exact ⟨⟨trivial, ins_len Z, ins_one Z⟩, hpos, by omega, by omega, fun hc => put_leaf (x := [_]) (Sy.mS _) rfl rfl (by simp) (by simp) hc (by simpa using hZ) rfl⟩
  ·refine Sy.meets_ofB (c := putW rowQ y v w mp tv e b X Z) Sy.S0_holds mixed (L := [⟨y, layC (.slice (some ⟨g, 0, none⟩) X.length cap) mp tv e b, true⟩, ⟨g, .row tI 6 X.length cap (insCells X), true⟩, ⟨s, .seg 0 (insCells Z), false⟩]) ?_ (by rw [hargs]; exact pRR_run y s Z.length c g X.length cap mp tv e b (insCells X) Z) (fun _ ns => ?_) hok
   ·show Sy.Ent ((((y, layC (slV v) mp tv e b) :: rowB v X).map Sy.ownOf) ++ rdOf (rowB w Z)) _
    rw [h1, h2, k2]
    exact ent_seg (A := [_, _])
   ·simp only [pRR_R, Sy.Res.holds]
    exact ⟨⟨trivial, ins_len Z, ins_one Z⟩, hpos, by omega, by omega, fun hc => put_leaf (x := [_]) (Sy.mS _) rfl rfl List.length_append.symm (ins_app X Z).symm hc (by simp [hne]) rfl⟩
end Go.Proofs.YtlpcnaeknbmjdaaGreat.Gn
end
