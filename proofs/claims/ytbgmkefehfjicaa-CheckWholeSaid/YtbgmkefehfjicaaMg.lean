/-
  The reference: the same nodes. And what follows it.
-/
import Derived.Test.YtbgmkefehfjicaaMf
import Derived.Test.YtbgmkefehfjicaaMd

/-
  The reference: the same nodes.
-/
namespace Go.Proofs.Ytbgmkefehfjicaa
set_option linter.unusedVariables false
set_option linter.unusedSimpArgs false
open Go Go.RowKit
open Sy (Let Blk HasL)

abbrev fSameN : FuncId := 21
noncomputable def bodySN : Code := Sy.loopBody Try.f21 0
def slSN (v w : Value) (i : Nat) : List (Nat × Value) := [(0, v), (1, w), (4, .bool false), (5, .int .i64 (Int.ofNat i))]

def sn_o : Sy.O := (Sy.O.steps [1] (Sy.O.fork (Sy.O.pack 21 0x8004e1098a4004610882008021 (Sy.O.fork Sy.O.nil Sy.O.nil)) Sy.O.nil))
noncomputable def sn_R (v : Value) (w : Value) (i : Nat) (f : Nat → Value) (B : List (Nat × Sy.Cont)) (ns : Nat → Sy.Let) : Sy.Res (Exit × Nat × List Value × List Blk) := .need (∃ (p : Option Addr), ∃ (n : Nat), ∃ (c : Nat), v = Value.slice p n c) (.br (Ex.ltQ (Int.ofNat i) (Int.ofNat (Sy.lenS v))) (.need ((∃ (n : Nat), ∃ (c : Nat), v = Value.slice (some (Addr.mk (Sy.ptrS v) (Sy.offS v) none)) n c) ∧ (0 : Int) ≤ Int.ofNat i ∧ Int.ofNat i < (↑(Sy.lenS v) : Int)) (.need (∃ (i_1 : Int), HasL (rdOf B) (Sy.ptrS v) (Sy.offS v + Int.toNat (Int.ofNat i) * (4 : Nat)) (.int .i64 i_1)) (.hyp (∀ (u : Value), HasL (rdOf B) (Sy.ptrS v) (Sy.offS v + Int.toNat (Int.ofNat i) * (4 : Nat)) u → u = Value.int .i64 (Let.i (ns 0))) (.need (∃ (i_1 : Int), HasL (rdOf B) (Sy.ptrS v) (Sy.offS v + Int.toNat (Int.ofNat i) * (4 : Nat) + (1 : Nat)) (.int .u64 i_1)) (.hyp (∀ (u : Value), HasL (rdOf B) (Sy.ptrS v) (Sy.offS v + Int.toNat (Int.ofNat i) * (4 : Nat) + (1 : Nat)) u → u = Value.int .u64 (Let.i (ns 1))) (.need (∃ (i_1 : Int), HasL (rdOf B) (Sy.ptrS v) (Sy.offS v + Int.toNat (Int.ofNat i) * (4 : Nat) + (1 : Nat) + (1 : Nat)) (.int .i64 i_1)) (.hyp (∀ (u : Value), HasL (rdOf B)
 (Sy.ptrS v) (Sy.offS v + Int.toNat (Int.ofNat i) * (4 : Nat) + (1 : Nat) + (1 : Nat)) u → u = Value.int .i64 (Let.i (ns 2))) (.need (∃ (i_1 : Int), HasL (rdOf B) (Sy.ptrS v) (Sy.offS v + Int.toNat (Int.ofNat i) * (4 : Nat) + (1 : Nat) + (1 : Nat) + (1 : Nat)) (.int .i64 i_1)) (.hyp (∀ (u : Value), HasL (rdOf B) (Sy.ptrS v) (Sy.offS v + Int.toNat (Int.ofNat i) * (4 : Nat) + (1 : Nat) + (1 : Nat) + (1 : Nat)) u → u = Value.int .i64 (Let.i (ns 3))) (.need ((∃ (n : Nat), ∃ (c : Nat), w = Value.slice (some (Addr.mk (Sy.ptrS w) (Sy.offS w) none)) n c) ∧ (0 : Int) ≤ Int.ofNat i ∧ Int.ofNat i < (↑(Sy.lenS w) : Int)) (.need (∃ (i_1 : Int), HasL (rdOf B) (Sy.ptrS w) (Sy.offS w + Int.toNat (Int.ofNat i) * (4 : Nat)) (.int .i64 i_1)) (.hyp (∀ (u : Value), HasL (rdOf B) (Sy.ptrS w) (Sy.offS w + Int.toNat (Int.ofNat i) * (4 : Nat)) u → u = Value.int .i64 (Let.i (ns 4))) (.need (∃ (i_1 : Int), HasL (rdOf B) (Sy.ptrS w) (Sy.offS w + Int.toNat (Int.ofNat i) * (4 : Nat) + (1 : Nat)) (.int .u64 i_1))
 (.hyp (∀ (u : Value), HasL (rdOf B) (Sy.ptrS w) (Sy.offS w + Int.toNat (Int.ofNat i) * (4 : Nat) + (1 : Nat)) u → u = Value.int .u64 (Let.i (ns 5))) (.need (∃ (i_1 : Int), HasL (rdOf B) (Sy.ptrS w) (Sy.offS w + Int.toNat (Int.ofNat i) * (4 : Nat) + (1 : Nat) + (1 : Nat)) (.int .i64 i_1)) (.hyp (∀ (u : Value), HasL (rdOf B) (Sy.ptrS w) (Sy.offS w + Int.toNat (Int.ofNat i) * (4 : Nat) + (1 : Nat) + (1 : Nat)) u → u = Value.int .i64 (Let.i (ns 6))) (.need (∃ (i_1 : Int), HasL (rdOf B) (Sy.ptrS w) (Sy.offS w + Int.toNat (Int.ofNat i) * (4 : Nat) + (1 : Nat) + (1 : Nat) + (1 : Nat)) (.int .i64 i_1)) (.hyp (∀ (u : Value), HasL (rdOf B) (Sy.ptrS w) (Sy.offS w + Int.toNat (Int.ofNat i) * (4 : Nat) + (1 : Nat) + (1 : Nat) + (1 : Nat)) u → u = Value.int .i64 (Let.i (ns 7))) (.br (!(Ex.eqQ (Let.i (ns 0)) (Let.i (ns 4)) && (Ex.eqQ (Let.i (ns 1)) (Let.i (ns 5)) && (Ex.eqQ (Let.i (ns 2)) (Let.i (ns 6)) && (Ex.eqQ (Let.i (ns 3)) (Let.i (ns 7)) && true))))) (.leaf (Exit.ret, (26 : Nat), [v, w,
 Value.bool false, .int .i64 (Int.ofNat i)], rdOf B)) (.leaf (Exit.normal, (26 : Nat), [v, w, Value.bool false, .int .i64 (Ex.wrapQ .i64 (Ex.addQ (Int.ofNat i) (1 : Int)))], rdOf B))))))))))))))))))))) (.leaf (Exit.exit (0 : Nat), (26 : Nat), [v, w, Value.bool false, .int .i64 (Int.ofNat i)], rdOf B)))

theorem sn_run (v w : Value) (i : Nat) (f : Nat → Value) (B : List (Nat × Sy.Cont)) : Sy.Ran (Sy.pieceT Try.prog Sy.S0 50 fSameN bodySN 26 (slSN v w i) ((List.range 26).map f) (rdOf B) [0, 1, 4, 5]) sn_o (sn_R v w i f B) := ⟨fun ns => by kernel_rfl, fun ns => by kernel_rfl⟩

end Go.Proofs.Ytbgmkefehfjicaa

/-
  The reference: the same nodes: the loop.
-/
namespace Go.Proofs.Ytbgmkefehfjicaa
open Go Go.RowKit
open Sy (Let Blk HasL)

/-- Both slices hold these nodes. -/
def BothX (B : List (Nat × Sy.Cont)) (v w : Value) (l : List NodeD) : Prop := OkX B v l ∧ OkX B w l

noncomputable def loopSN (B : List (Nat × Sy.Cont)) (v w : Value) (l : List NodeD) : Sy.LoopC :=
  ⟨.loop bodySN, 26, slSN v w 0, BothX B v w l, ⟨[], [], 0, B⟩,
    [(⟨fun _ => True, fun _ => [], fun _ => []⟩, .exit 0, fun _ => [(4, .bool false)])]⟩

theorem loopSN_met (B : List (Nat × Sy.Cont)) (v w : Value) (l : List NodeD) : Sy.MeetsL Try.prog (loopSN B v w l) := by
  refine Sy.loop_ofB (S := fun _ : Nat => Sy.S0) (n := 50) (fn := fSameN) (fun _ => Sy.S0_holds) mixed (body := bodySN) rfl [0, 1, 4, 5] (fun k : Nat => slSN v w k)
    (fun _ => rdOf B) (fun k => k ≤ l.length ∧ BothX B v w l) (fun k => l.length - k)
    0 (fun h => ⟨Nat.zero_le _, h⟩) (fun p hp => hp) (Sy.Ent.refl _) (o := fun _ => sn_o) (R := fun k f => sn_R v w k f B) (fun k f _ => sn_run v w k f B) ?_
  rintro - k f ⟨hk, ⟨hR, hlen⟩, ⟨hS, hlen2⟩⟩ ns
  simp only [sn_R, Sy.Res.holds]
  refine ⟨hR.sl, fun hlt => ?_, fun hge => ?_⟩
  · have hlt : k < l.length := by rw [Ex.ltQ_eq, hR.len] at hlt; simpa using hlt
    obtain ⟨n, hn⟩ : ∃ n, l[k]? = some n := ⟨_, List.getElem?_eq_getElem hlt⟩
    have hne : l ≠ [] := fun h => by rw [h] at hlt; simp at hlt
    refine ⟨⟨hR.at_ hne, by simp, by rw [hR.len]; simpa using hlt⟩, ⟨n.op, hR.op k n hn⟩, fun e0 => ⟨⟨n.val, hR.val k n hn⟩, fun e1 => ⟨⟨n.a, hR.a k n hn⟩, fun e2 => ⟨⟨n.b, hR.b k n hn⟩, fun e3 => ?_⟩⟩⟩⟩
    refine ⟨⟨hS.at_ hne, by simp, by rw [hS.len]; simpa using hlt⟩, ⟨n.op, hS.op k n hn⟩, fun d0 => ⟨⟨n.val, hS.val k n hn⟩, fun d1 => ⟨⟨n.a, hS.a k n hn⟩, fun d2 => ⟨⟨n.b, hS.b k n hn⟩, fun d3 => ?_⟩⟩⟩⟩
    have e0 := e0 _ (hR.op k n hn)
    have e1 := e1 _ (hR.val k n hn)
    have e2 := e2 _ (hR.a k n hn)
    have e3 := e3 _ (hR.b k n hn)
    have d0 := d0 _ (hS.op k n hn)
    have d1 := d1 _ (hS.val k n hn)
    have d2 := d2 _ (hS.a k n hn)
    have d3 := d3 _ (hS.b k n hn)
    simp only [Value.int.injEq, true_and] at e0 e1 e2 e3 d0 d1 d2 d3
    rw [← e0, ← e1, ← e2, ← e3, ← d0, ← d1, ← d2, ← d3]
    refine ⟨fun h => ?_, fun h => ?_⟩
    · simp [Ex.eqQ_eq] at h
    · refine ⟨rfl, .inl ⟨rfl, k + 1, ⟨by omega, ⟨hR, hlen⟩, ⟨hS, hlen2⟩⟩, by show l.length - (k + 1) < l.length - k; omega, ?_, Sy.Ent.refl _⟩⟩
      rw [w_succ (by omega)]
      rfl
  · exact ⟨rfl, .inr ⟨by simp, _, List.mem_singleton_self _, rfl, [], rfl, ⟨[2], rfl⟩, Sy.Ent.sub (List.nil_sublist _), trivial⟩⟩

noncomputable def ctxSN (B : List (Nat × Sy.Cont)) (v w : Value) (l : List NodeD) : Sy.Ctx := Sy.mkS [] [(fSameN, fun _ _ => loopSN B v w l)] []
theorem ctxSN_holds (B : List (Nat × Sy.Cont)) (v w : Value) (l : List NodeD) : (ctxSN B v w l).holds Try.prog := Sy.mkS_holds (fun _ h => (by cases h)) (fun p hp a L => by
  rcases List.mem_singleton.1 hp with rfl
  exact loopSN_met _ _ _ _) (fun _ h => (by cases h))

end Go.Proofs.Ytbgmkefehfjicaa

/-
  The reference: the same nodes, the whole run.
-/
namespace Go.Proofs.Ytbgmkefehfjicaa
set_option linter.unusedVariables false
set_option linter.unusedSimpArgs false
open Go Go.RowKit
open Sy (Let Blk HasL)

def snw_o : Sy.O := (Sy.O.steps [1, 1] (Sy.O.fork Sy.O.nil (Sy.O.pack 5 0x100020 Sy.O.nil)))
noncomputable def snw_R (B : List (Nat × Sy.Cont)) (v : Value) (w : Value) (l : List NodeD) (ns : Nat → Sy.Let) : Sy.Res (Value × List Blk) := .need (∃ (p : Option Addr), ∃ (n : Nat), ∃ (c : Nat), v = Value.slice p n c) (.need (∃ (p : Option Addr), ∃ (n : Nat), ∃ (c : Nat), w = Value.slice p n c) (.br (!Ex.eqQ (Int.ofNat (Sy.lenS v)) (Int.ofNat (Sy.lenS w))) (.leaf (Value.bool false, rdOf B)) (.need (OkX B v l ∧ OkX B w l) (.need (Sy.GotL ([] ++ rdOf B) B) (.hyp True (.leaf (Value.bool true, [] ++ ([] ++ rdOf B))))))))

theorem snw_run (B : List (Nat × Sy.Cont)) (v w : Value) (l : List NodeD) : Sy.Ran (Sy.inB Try.prog (ctxSN B v w l) 50 fSameN #[v, w] (rdOf B)) snw_o (snw_R B v w l) := ⟨fun ns => by kernel_rfl, fun ns => by kernel_rfl⟩

end Go.Proofs.Ytbgmkefehfjicaa

/-
  The reference: the same nodes, the contract.
-/
namespace Go.Proofs.Ytbgmkefehfjicaa
open Go Go.RowKit
open Sy (Let Blk HasL)

/-- Two slices that hold the same nodes are the same. -/
noncomputable def sameNC (B : List (Nat × Sy.Cont)) (v w : Value) (l : List NodeD) : Sy.CallC := ⟨fSameN, #[v, w], BothX B v w l, ⟨[], [], 0, B⟩, [Sy.plainO (.bool true)]⟩
theorem sameNC_met (B : List (Nat × Sy.Cont)) (v w : Value) (l : List NodeD) : Sy.Meets Try.prog (sameNC B v w l) := by
  refine Sy.meets_ofB (ctxSN_holds B v w l) mixed (L := rdOf B) (Sy.Ent.refl _) (snw_run B v w l) fun hok ns => ?_
  have leaf : ∀ (L : List Blk), Sy.leafB (sameNC B v w l) (.bool true, L) := fun L => plainB_leaf (List.mem_singleton_self _) rfl rfl
  have hR : NodesR B v l := hok.1.1
  have hS : NodesR B w l := hok.2.1
  have hb : BothX B v w l := hok
  simp only [snw_R, Sy.Res.holds, hR.len, hS.len]
  repeat' (first | exact gotL_of (fun p hp => by simp [hp]) | exact hR.sl | exact hS.sl | exact hb | exact leaf _ | apply And.intro | intro _)
  all_goals (rename_i h; simp [Ex.eqQ_eq] at h)

end Go.Proofs.Ytbgmkefehfjicaa

/-
  The reference: the same program: the acts of a thread.
-/
namespace Go.Proofs.Ytbgmkefehfjicaa
set_option linter.unusedVariables false
set_option linter.unusedSimpArgs false
open Go Go.RowKit
open Sy (Let Blk HasL)

abbrev fSame : FuncId := 12
noncomputable def bodyST : Code := Sy.loopBody Try.f12 0
noncomputable def bodySA : Code := Sy.loopBody Try.f12 1

noncomputable def sameBy (B : List (Nat × Sy.Cont)) (args : Array Value) : Sy.CallC := ⟨fSameN, args, ∃ v w l, args = #[v, w] ∧ BothX B v w l, ⟨[], [], 0, B⟩, [Sy.plainO (.bool true)]⟩
theorem sameBy_met (B : List (Nat × Sy.Cont)) (args : Array Value) : Sy.Meets Try.prog (sameBy B args) := fun ⟨v, w, l, h, hok⟩ => by
  subst h
  exact sameNC_met B v w l hok

noncomputable def ctxSA (B : List (Nat × Sy.Cont)) : Sy.Ctx := Sy.mkS [(fSameN, fun args _ => sameBy B args)] [] []
theorem ctxSA_holds (B : List (Nat × Sy.Cont)) : (ctxSA B).holds Try.prog := Sy.mkS_holds (fun p hp args L => by
  rcases List.mem_singleton.1 hp with rfl
  exact sameBy_met _ _) (fun _ h => (by cases h)) (fun _ h => (by cases h))

def slSA (p2 p3 p6 p7 : Nat) (i k : Nat) : List (Nat × Value) := [(2, .pointer (some ⟨p2, 0, none⟩)), (3, .pointer (some ⟨p3, 0, none⟩)), (4, .bool false), (5, .int .i64 (Int.ofNat i)), (6, .pointer (some ⟨p6, 0, none⟩)), (7, .pointer (some ⟨p7, 0, none⟩)), (8, .int .i64 (Int.ofNat k))]
def memSA (p2 p3 p6 p7 : Nat) (cells loc lod : Int) (tv tw av aw : Value) : List (Nat × Sy.Cont) := [(p2, .obj (.cells #[.int .i64 cells, tv] 27 (0, 0))), (p3, .obj (.cells #[.int .i64 cells, tw] 27 (0, 0))), (p6, .obj (.cells #[.int .i64 loc, av] 37 (0, 0))), (p7, .obj (.cells #[.int .i64 lod, aw] 37 (0, 0)))]

def sa_o : Sy.O := (Sy.O.pack 4 0x8040 (Sy.O.fork (Sy.O.pack 73 0x10040000020080000040100000080200000100400000200800000401000000802001421010010008108040 (Sy.O.fork Sy.O.nil (Sy.O.pack 46 0x80c100000000000800000406080000000000400004060800000020 Sy.O.nil))) Sy.O.nil))
noncomputable def sa_R (B : List (Nat × Sy.Cont)) (p2 : Nat) (p3 : Nat) (p6 : Nat) (p7 : Nat) (tv : Value) (tw : Value) (av : Value) (aw : Value) (i : Nat) (k : Nat) (cells : Int) (loc : Int) (lod : Int) (f : Nat → Value) (ns : Nat → Sy.Let) : Sy.Res (Exit × Nat × List Value × List Blk) := .need (∃ (p : Option Addr), ∃ (n : Nat), ∃ (c : Nat), av = Value.slice p n c) (.br (Ex.ltQ (Int.ofNat k) (Int.ofNat (Sy.lenS av))) (.need ((∃ (n : Nat), ∃ (c : Nat), av = Value.slice (some (Addr.mk (Sy.ptrS av) (Sy.offS av) none)) n c) ∧ (0 : Int) ≤ Int.ofNat k ∧ Int.ofNat k < (↑(Sy.lenS av) : Int)) (.need (∃ (i : Int), HasL (rdOf B) (Sy.ptrS av) (Sy.offS av + Int.toNat (Int.ofNat k) * (11 : Nat)) (.int .i64 i)) (.hyp (∀ (u : Value), HasL (rdOf B) (Sy.ptrS av) (Sy.offS av + Int.toNat (Int.ofNat k) * (11 : Nat)) u → u = Value.int .i64 (Let.i (ns 0))) (.need (∃ (i : Int), HasL (rdOf B) (Sy.ptrS av) (Sy.offS av + Int.toNat (Int.ofNat k) * (11 : Nat) + (1 : Nat)) (.int .i64 i)) (.hyp (∀ (u : Value), HasL (rdOf B) (Sy.ptrS av) (Sy.offS av + Int.toNat (Int.ofNat k) * (11 : Nat) + (1 : Nat)) u → u = Value.int .i64 (Let.i (ns 1))) (.need (∃ (i : Int), HasL (rdOf B) (Sy.ptrS av) (Sy.offS av + Int.toNat (Int.ofNat k) * (11 : Nat) + (1 : Nat) + (1 : Nat)) (.int .i64 i)) (.hyp (∀ (u : Value), HasL
 (rdOf B) (Sy.ptrS av) (Sy.offS av + Int.toNat (Int.ofNat k) * (11 : Nat) + (1 : Nat) + (1 : Nat)) u → u = Value.int .i64 (Let.i (ns 2))) (.need (∃ (i : Int), HasL (rdOf B) (Sy.ptrS av) (Sy.offS av + Int.toNat (Int.ofNat k) * (11 : Nat) + (1 : Nat) + (1 : Nat) + (1 : Nat)) (.int .i64 i)) (.hyp (∀ (u : Value), HasL (rdOf B) (Sy.ptrS av) (Sy.offS av + Int.toNat (Int.ofNat k) * (11 : Nat) + (1 : Nat) + (1 : Nat) + (1 : Nat)) u → u = Value.int .i64 (Let.i (ns 3))) (.need (∃ (v : Value), HasL (rdOf B) (Sy.ptrS av) (Sy.offS av + Int.toNat (Int.ofNat k) * (11 : Nat) + (1 : Nat) + (1 : Nat) + (1 : Nat) + (1 : Nat)) v) (.hyp (∀ (u : Value), HasL (rdOf B) (Sy.ptrS av) (Sy.offS av + Int.toNat (Int.ofNat k) * (11 : Nat) + (1 : Nat) + (1 : Nat) + (1 : Nat) + (1 : Nat)) u → u = Let.v (ns 4)) (.need (∃ (v : Value), HasL (rdOf B) (Sy.ptrS av) (Sy.offS av + Int.toNat (Int.ofNat k) * (11 : Nat) + (1 : Nat) + (1 : Nat) + (1 : Nat) + (1 : Nat) + (1 : Nat)) v) (.hyp (∀ (u : Value), HasL (rdOf B) (Sy.ptrS av)
 (Sy.offS av + Int.toNat (Int.ofNat k) * (11 : Nat) + (1 : Nat) + (1 : Nat) + (1 : Nat) + (1 : Nat) + (1 : Nat)) u → u = Let.v (ns 5)) (.need (∃ (v : Value), HasL (rdOf B) (Sy.ptrS av) (Sy.offS av + Int.toNat (Int.ofNat k) * (11 : Nat) + (1 : Nat) + (1 : Nat) + (1 : Nat) + (1 : Nat) + (1 : Nat) + (1 : Nat)) v) (.hyp (∀ (u : Value), HasL (rdOf B) (Sy.ptrS av) (Sy.offS av + Int.toNat (Int.ofNat k) * (11 : Nat) + (1 : Nat) + (1 : Nat) + (1 : Nat) + (1 : Nat) + (1 : Nat) + (1 : Nat)) u → u = Let.v (ns 6)) (.need (∃ (i : Int), HasL (rdOf B) (Sy.ptrS av) (Sy.offS av + Int.toNat (Int.ofNat k) * (11 : Nat) + (1 : Nat) + (1 : Nat) + (1 : Nat) + (1 : Nat) + (1 : Nat) + (1 : Nat) + (1 : Nat)) (.int .i64 i)) (.hyp (∀ (u : Value), HasL (rdOf B) (Sy.ptrS av) (Sy.offS av + Int.toNat (Int.ofNat k) * (11 : Nat) + (1 : Nat) + (1 : Nat) + (1 : Nat) + (1 : Nat) + (1 : Nat) + (1 : Nat) + (1 : Nat)) u → u = Value.int .i64 (Let.i (ns 7))) (.need (∃ (i : Int), HasL (rdOf B) (Sy.ptrS av) (Sy.offS av + Int.toNat
 (Int.ofNat k) * (11 : Nat) + (1 : Nat) + (1 : Nat) + (1 : Nat) + (1 : Nat) + (1 : Nat) + (1 : Nat) + (1 : Nat) + (1 : Nat)) (.int .i64 i)) (.hyp (∀ (u : Value), HasL (rdOf B) (Sy.ptrS av) (Sy.offS av + Int.toNat (Int.ofNat k) * (11 : Nat) + (1 : Nat) + (1 : Nat) + (1 : Nat) + (1 : Nat) + (1 : Nat) + (1 : Nat) + (1 : Nat) + (1 : Nat)) u → u = Value.int .i64 (Let.i (ns 8))) (.need (∃ (i : Int), HasL (rdOf B) (Sy.ptrS av) (Sy.offS av + Int.toNat (Int.ofNat k) * (11 : Nat) + (1 : Nat) + (1 : Nat) + (1 : Nat) + (1 : Nat) + (1 : Nat) + (1 : Nat) + (1 : Nat) + (1 : Nat) + (1 : Nat)) (.int .i64 i)) (.hyp (∀ (u : Value), HasL (rdOf B) (Sy.ptrS av) (Sy.offS av + Int.toNat (Int.ofNat k) * (11 : Nat) + (1 : Nat) + (1 : Nat) + (1 : Nat) + (1 : Nat) + (1 : Nat) + (1 : Nat) + (1 : Nat) + (1 : Nat) + (1 : Nat)) u → u = Value.int .i64 (Let.i (ns 9))) (.need (∃ (i : Int), HasL (rdOf B) (Sy.ptrS av) (Sy.offS av + Int.toNat (Int.ofNat k) * (11 : Nat) + (1 : Nat) + (1 : Nat) + (1 : Nat) + (1 : Nat) + (1 :
 Nat) + (1 : Nat) + (1 : Nat) + (1 : Nat) + (1 : Nat) + (1 : Nat)) (.int .i64 i)) (.hyp (∀ (u : Value), HasL (rdOf B) (Sy.ptrS av) (Sy.offS av + Int.toNat (Int.ofNat k) * (11 : Nat) + (1 : Nat) + (1 : Nat) + (1 : Nat) + (1 : Nat) + (1 : Nat) + (1 : Nat) + (1 : Nat) + (1 : Nat) + (1 : Nat) + (1 : Nat)) u → u = Value.int .i64 (Let.i (ns 10))) (.need ((11 : Nat) = (11 : Nat) ∧ (11 : Nat) = (11 : Nat) ∧ Array.all (Array.mk [.int .i64 (Let.i (ns 0)), .int .i64 (Let.i (ns 1)), .int .i64 (Let.i (ns 2)), .int .i64 (Let.i (ns 3)), Let.v (ns 4), Let.v (ns 5), Let.v (ns 6), .int .i64 (Let.i (ns 7)), .int .i64 (Let.i (ns 8)), .int .i64 (Let.i (ns 9)), .int .i64 (Let.i (ns 10))]) (fun (x : Value) => Value.oneCell' x) (0 : Nat) (11 : Nat) = true) (.need ((∃ (n : Nat), ∃ (c : Nat), aw = Value.slice (some (Addr.mk (Sy.ptrS aw) (Sy.offS aw) none)) n c) ∧ (0 : Int) ≤ Int.ofNat k ∧ Int.ofNat k < (↑(Sy.lenS aw) : Int)) (.need (∃ (i : Int), HasL (rdOf B) (Sy.ptrS aw) (Sy.offS aw + Int.toNat (Int.ofNat k) *
 (11 : Nat)) (.int .i64 i)) (.hyp (∀ (u : Value), HasL (rdOf B) (Sy.ptrS aw) (Sy.offS aw + Int.toNat (Int.ofNat k) * (11 : Nat)) u → u = Value.int .i64 (Let.i (ns 12))) (.need (∃ (i : Int), HasL (rdOf B) (Sy.ptrS aw) (Sy.offS aw + Int.toNat (Int.ofNat k) * (11 : Nat) + (1 : Nat)) (.int .i64 i)) (.hyp (∀ (u : Value), HasL (rdOf B) (Sy.ptrS aw) (Sy.offS aw + Int.toNat (Int.ofNat k) * (11 : Nat) + (1 : Nat)) u → u = Value.int .i64 (Let.i (ns 13))) (.need (∃ (i : Int), HasL (rdOf B) (Sy.ptrS aw) (Sy.offS aw + Int.toNat (Int.ofNat k) * (11 : Nat) + (1 : Nat) + (1 : Nat)) (.int .i64 i)) (.hyp (∀ (u : Value), HasL (rdOf B) (Sy.ptrS aw) (Sy.offS aw + Int.toNat (Int.ofNat k) * (11 : Nat) + (1 : Nat) + (1 : Nat)) u → u = Value.int .i64 (Let.i (ns 14))) (.need (∃ (i : Int), HasL (rdOf B) (Sy.ptrS aw) (Sy.offS aw + Int.toNat (Int.ofNat k) * (11 : Nat) + (1 : Nat) + (1 : Nat) + (1 : Nat)) (.int .i64 i)) (.hyp (∀ (u : Value), HasL (rdOf B) (Sy.ptrS aw) (Sy.offS aw + Int.toNat (Int.ofNat k) * (11 :
 Nat) + (1 : Nat) + (1 : Nat) + (1 : Nat)) u → u = Value.int .i64 (Let.i (ns 15))) (.need (∃ (v : Value), HasL (rdOf B) (Sy.ptrS aw) (Sy.offS aw + Int.toNat (Int.ofNat k) * (11 : Nat) + (1 : Nat) + (1 : Nat) + (1 : Nat) + (1 : Nat)) v) (.hyp (∀ (u : Value), HasL (rdOf B) (Sy.ptrS aw) (Sy.offS aw + Int.toNat (Int.ofNat k) * (11 : Nat) + (1 : Nat) + (1 : Nat) + (1 : Nat) + (1 : Nat)) u → u = Let.v (ns 16)) (.need (∃ (v : Value), HasL (rdOf B) (Sy.ptrS aw) (Sy.offS aw + Int.toNat (Int.ofNat k) * (11 : Nat) + (1 : Nat) + (1 : Nat) + (1 : Nat) + (1 : Nat) + (1 : Nat)) v) (.hyp (∀ (u : Value), HasL (rdOf B) (Sy.ptrS aw) (Sy.offS aw + Int.toNat (Int.ofNat k) * (11 : Nat) + (1 : Nat) + (1 : Nat) + (1 : Nat) + (1 : Nat) + (1 : Nat)) u → u = Let.v (ns 17)) (.need (∃ (v : Value), HasL (rdOf B) (Sy.ptrS aw) (Sy.offS aw + Int.toNat (Int.ofNat k) * (11 : Nat) + (1 : Nat) + (1 : Nat) + (1 : Nat) + (1 : Nat) + (1 : Nat) + (1 : Nat)) v) (.hyp (∀ (u : Value), HasL (rdOf B) (Sy.ptrS aw) (Sy.offS aw +
 Int.toNat (Int.ofNat k) * (11 : Nat) + (1 : Nat) + (1 : Nat) + (1 : Nat) + (1 : Nat) + (1 : Nat) + (1 : Nat)) u → u = Let.v (ns 18)) (.need (∃ (i : Int), HasL (rdOf B) (Sy.ptrS aw) (Sy.offS aw + Int.toNat (Int.ofNat k) * (11 : Nat) + (1 : Nat) + (1 : Nat) + (1 : Nat) + (1 : Nat) + (1 : Nat) + (1 : Nat) + (1 : Nat)) (.int .i64 i)) (.hyp (∀ (u : Value), HasL (rdOf B) (Sy.ptrS aw) (Sy.offS aw + Int.toNat (Int.ofNat k) * (11 : Nat) + (1 : Nat) + (1 : Nat) + (1 : Nat) + (1 : Nat) + (1 : Nat) + (1 : Nat) + (1 : Nat)) u → u = Value.int .i64 (Let.i (ns 19))) (.need (∃ (i : Int), HasL (rdOf B) (Sy.ptrS aw) (Sy.offS aw + Int.toNat (Int.ofNat k) * (11 : Nat) + (1 : Nat) + (1 : Nat) + (1 : Nat) + (1 : Nat) + (1 : Nat) + (1 : Nat) + (1 : Nat) + (1 : Nat)) (.int .i64 i)) (.hyp (∀ (u : Value), HasL (rdOf B) (Sy.ptrS aw) (Sy.offS aw + Int.toNat (Int.ofNat k) * (11 : Nat) + (1 : Nat) + (1 : Nat) + (1 : Nat) + (1 : Nat) + (1 : Nat) + (1 : Nat) + (1 : Nat) + (1 : Nat)) u → u = Value.int .i64 (Let.i (ns
 20))) (.need (∃ (i : Int), HasL (rdOf B) (Sy.ptrS aw) (Sy.offS aw + Int.toNat (Int.ofNat k) * (11 : Nat) + (1 : Nat) + (1 : Nat) + (1 : Nat) + (1 : Nat) + (1 : Nat) + (1 : Nat) + (1 : Nat) + (1 : Nat) + (1 : Nat)) (.int .i64 i)) (.hyp (∀ (u : Value), HasL (rdOf B) (Sy.ptrS aw) (Sy.offS aw + Int.toNat (Int.ofNat k) * (11 : Nat) + (1 : Nat) + (1 : Nat) + (1 : Nat) + (1 : Nat) + (1 : Nat) + (1 : Nat) + (1 : Nat) + (1 : Nat) + (1 : Nat)) u → u = Value.int .i64 (Let.i (ns (21 : Nat)))) (.need (∃ (i : Int), HasL (rdOf B) (Sy.ptrS aw) (Sy.offS aw + Int.toNat (Int.ofNat k) * (11 : Nat) + (1 : Nat) + (1 : Nat) + (1 : Nat) + (1 : Nat) + (1 : Nat) + (1 : Nat) + (1 : Nat) + (1 : Nat) + (1 : Nat) + (1 : Nat)) (.int .i64 i)) (.hyp (∀ (u : Value), HasL (rdOf B) (Sy.ptrS aw) (Sy.offS aw + Int.toNat (Int.ofNat k) * (11 : Nat) + (1 : Nat) + (1 : Nat) + (1 : Nat) + (1 : Nat) + (1 : Nat) + (1 : Nat) + (1 : Nat) + (1 : Nat) + (1 : Nat) + (1 : Nat)) u → u = Value.int .i64 (Let.i (ns (22 : Nat)))) (.need ((11
 : Nat) = (11 : Nat) ∧ (11 : Nat) = (11 : Nat) ∧ Array.all (Array.mk [.int .i64 (Let.i (ns (12 : Nat))), .int .i64 (Let.i (ns (13 : Nat))), .int .i64 (Let.i (ns (14 : Nat))), .int .i64 (Let.i (ns (15 : Nat))), Let.v (ns (16 : Nat)), Let.v (ns (17 : Nat)), Let.v (ns (18 : Nat)), .int .i64 (Let.i (ns (19 : Nat))), .int .i64 (Let.i (ns (20 : Nat))), .int .i64 (Let.i (ns (21 : Nat))), .int .i64 (Let.i (ns (22 : Nat)))]) (fun (x : Value) => Value.oneCell' x) (0 : Nat) (11 : Nat) = true) (.br (bif bif bif bif bif bif bif !Ex.eqQ (Let.i (ns (0 : Nat))) (Let.i (ns (12 : Nat))) then true else !Ex.eqQ (Let.i (ns (1 : Nat))) (Let.i (ns (13 : Nat))) then true else !Ex.eqQ (Let.i (ns (2 : Nat))) (Let.i (ns (14 : Nat))) then true else !Ex.eqQ (Let.i (ns (3 : Nat))) (Let.i (ns (15 : Nat))) then true else !Ex.eqQ (Let.i (ns (7 : Nat))) (Let.i (ns (19 : Nat))) then true else !Ex.eqQ (Let.i (ns (8 : Nat))) (Let.i (ns (20 : Nat))) then true else !Ex.eqQ (Let.i (ns (9 : Nat))) (Let.i (ns (21 : Nat))) then
 true else !Ex.eqQ (Let.i (ns (10 : Nat))) (Let.i (ns (22 : Nat)))) (.leaf (Exit.ret, (149 : Nat), [.pointer (some (Addr.mk p2 (0 : Nat) none)), .pointer (some (Addr.mk p3 (0 : Nat) none)), Value.bool false, .int .i64 (Int.ofNat i), .pointer (some (Addr.mk p6 (0 : Nat) none)), .pointer (some (Addr.mk p7 (0 : Nat) none)), .int .i64 (Int.ofNat k)], Blk.mk (Let.n (ns (23 : Nat))) (.obj (.cells (Array.mk [.int .i64 (Let.i (ns (12 : Nat))), .int .i64 (Let.i (ns (13 : Nat))), .int .i64 (Let.i (ns (14 : Nat))), .int .i64 (Let.i (ns (15 : Nat))), Let.v (ns (16 : Nat)), Let.v (ns (17 : Nat)), Let.v (ns (18 : Nat)), .int .i64 (Let.i (ns (19 : Nat))), .int .i64 (Let.i (ns (20 : Nat))), .int .i64 (Let.i (ns (21 : Nat))), .int .i64 (Let.i (ns (22 : Nat)))]) (67 : Nat))) true :: Blk.mk (Let.n (ns (11 : Nat))) (.obj (.cells (Array.mk [.int .i64 (Let.i (ns (0 : Nat))), .int .i64 (Let.i (ns (1 : Nat))), .int .i64 (Let.i (ns (2 : Nat))), .int .i64 (Let.i (ns (3 : Nat))), Let.v (ns (4 : Nat)), Let.v (ns (5
 : Nat)), Let.v (ns (6 : Nat)), .int .i64 (Let.i (ns (7 : Nat))), .int .i64 (Let.i (ns (8 : Nat))), .int .i64 (Let.i (ns (9 : Nat))), .int .i64 (Let.i (ns (10 : Nat)))]) (67 : Nat))) true :: Blk.mk p2 (.obj (.cells (Array.mk [.int .i64 cells, tv]) (27 : Nat))) true :: Blk.mk p3 (.obj (.cells (Array.mk [.int .i64 cells, tw]) (27 : Nat))) true :: Blk.mk p6 (.obj (.cells (Array.mk [.int .i64 loc, av]) (37 : Nat))) true :: Blk.mk p7 (.obj (.cells (Array.mk [.int .i64 lod, aw]) (37 : Nat))) true :: rdOf B)) (.need (∃ (v : Value), ∃ (w : Value), ∃ (l : List NodeD), Array.mk [Let.v (ns (4 : Nat)), Let.v (ns (16 : Nat))] = Array.mk [v, w] ∧ BothX B v w l) (.need (Sy.GotL (rdOf B) B) (.hyp True (.need (∃ (v : Value), ∃ (w : Value), ∃ (l : List NodeD), Array.mk [Let.v (ns (5 : Nat)), Let.v (ns (17 : Nat))] = Array.mk [v, w] ∧ BothX B v w l) (.need (Sy.GotL (rdOf B) B) (.hyp True (.need (∃ (v : Value), ∃ (w : Value), ∃ (l : List NodeD), Array.mk [Let.v (ns (6 : Nat)), Let.v (ns (18 : Nat))] =
 Array.mk [v, w] ∧ BothX B v w l) (.need (Sy.GotL (rdOf B) B) (.hyp True (.leaf (Exit.normal, (149 : Nat), [.pointer (some (Addr.mk p2 (0 : Nat) none)), .pointer (some (Addr.mk p3 (0 : Nat) none)), Value.bool false, .int .i64 (Int.ofNat i), .pointer (some (Addr.mk p6 (0 : Nat) none)), .pointer (some (Addr.mk p7 (0 : Nat) none)), .int .i64 (Ex.wrapQ .i64 (Ex.addQ (Int.ofNat k) (1 : Int)))], Blk.mk (Let.n (ns (23 : Nat))) (.obj (.cells (Array.mk [.int .i64 (Let.i (ns (12 : Nat))), .int .i64 (Let.i (ns (13 : Nat))), .int .i64 (Let.i (ns (14 : Nat))), .int .i64 (Let.i (ns (15 : Nat))), Let.v (ns (16 : Nat)), Let.v (ns (17 : Nat)), Let.v (ns (18 : Nat)), .int .i64 (Let.i (ns (19 : Nat))), .int .i64 (Let.i (ns (20 : Nat))), .int .i64 (Let.i (ns (21 : Nat))), .int .i64 (Let.i (ns (22 : Nat)))]) (67 : Nat))) true :: Blk.mk (Let.n (ns (11 : Nat))) (.obj (.cells (Array.mk [.int .i64 (Let.i (ns (0 : Nat))), .int .i64 (Let.i (ns (1 : Nat))), .int .i64 (Let.i (ns (2 : Nat))), .int .i64 (Let.i (ns (3
 : Nat))), Let.v (ns (4 : Nat)), Let.v (ns (5 : Nat)), Let.v (ns (6 : Nat)), .int .i64 (Let.i (ns (7 : Nat))), .int .i64 (Let.i (ns (8 : Nat))), .int .i64 (Let.i (ns (9 : Nat))), .int .i64 (Let.i (ns (10 : Nat)))]) (67 : Nat))) true :: Blk.mk p2 (.obj (.cells (Array.mk [.int .i64 cells, tv]) (27 : Nat))) true :: Blk.mk p3 (.obj (.cells (Array.mk [.int .i64 cells, tw]) (27 : Nat))) true :: Blk.mk p6 (.obj (.cells (Array.mk [.int .i64 loc, av]) (37 : Nat))) true :: Blk.mk p7 (.obj (.cells (Array.mk [.int .i64 lod, aw]) (37 : Nat))) true :: rdOf B)))))))))))))))))))))))))))))))))))))))))))))))))))))))))))) (.leaf (Exit.exit (2 : Nat), (149 : Nat), [.pointer (some (Addr.mk p2 0 none)), .pointer (some (Addr.mk p3 0 none)), Value.bool false, .int .i64 (Int.ofNat i), .pointer (some (Addr.mk p6 0 none)), .pointer (some (Addr.mk p7 0 none)), .int .i64 (Int.ofNat k)], Blk.mk p2 (.obj (.cells (Array.mk [.int .i64 cells, tv]) (27 : Nat))) true :: Blk.mk p3 (.obj (.cells (Array.mk [.int .i64 cells,
 tw]) (27 : Nat))) true :: Blk.mk p6 (.obj (.cells (Array.mk [.int .i64 loc, av]) (37 : Nat))) true :: Blk.mk p7 (.obj (.cells (Array.mk [.int .i64 lod, aw]) (37 : Nat))) true :: rdOf B)))

theorem sa_run (B : List (Nat × Sy.Cont)) (p2 p3 p6 p7 : Nat) (tv tw av aw : Value) (i k : Nat) (cells loc lod : Int) (f : Nat → Value) : Sy.Ran (Sy.pieceT Try.prog (ctxSA B) 50 fSame bodySA 149 (slSA p2 p3 p6 p7 i k) ((List.range 149).map f) ((memSA p2 p3 p6 p7 cells loc lod tv tw av aw).map Sy.ownOf ++ rdOf B) [2, 3, 4, 5, 6, 7, 8]) sa_o (sa_R B p2 p3 p6 p7 tv tw av aw i k cells loc lod f) := ⟨fun ns => by kernel_rfl, fun ns => by kernel_rfl⟩

end Go.Proofs.Ytbgmkefehfjicaa

/-
  The reference: the same program: the acts of a thread, the contract.
-/
namespace Go.Proofs.Ytbgmkefehfjicaa
open Go Go.RowKit
open Sy (Let Blk HasL)

noncomputable def loopSA (B : List (Nat × Sy.Cont)) (l : List ActD) (p2 p3 p6 p7 : Nat) (tv tw av aw : Value) (i : Nat) (cells loc lod : Int) : Sy.LoopC :=
  ⟨.loop bodySA, 149, slSA p2 p3 p6 p7 i 0, ActsR B av l ∧ ActsR B aw l, ⟨[], memSA p2 p3 p6 p7 cells loc lod tv tw av aw, 0, B⟩,
    [(⟨fun _ => True, fun _ => memSA p2 p3 p6 p7 cells loc lod tv tw av aw, fun _ => []⟩, .exit 2, fun _ => [(2, .pointer (some ⟨p2, 0, none⟩)), (3, .pointer (some ⟨p3, 0, none⟩)), (4, .bool false), (5, .int .i64 (Int.ofNat i)), (6, .pointer (some ⟨p6, 0, none⟩)), (7, .pointer (some ⟨p7, 0, none⟩))])]⟩

theorem loopSA_met (B : List (Nat × Sy.Cont)) (l : List ActD) (p2 p3 p6 p7 : Nat) (tv tw av aw : Value) (i : Nat) (cells loc lod : Int) : Sy.MeetsL Try.prog (loopSA B l p2 p3 p6 p7 tv tw av aw i cells loc lod) := by
  refine Sy.loop_ofB (S := fun _ : Nat => ctxSA B) (n := 50) (fn := fSame) (fun _ => ctxSA_holds _) mixed (body := bodySA) rfl [2, 3, 4, 5, 6, 7, 8] (fun k : Nat => slSA p2 p3 p6 p7 i k)
    (fun _ => (memSA p2 p3 p6 p7 cells loc lod tv tw av aw).map Sy.ownOf ++ rdOf B) (fun k => k ≤ l.length ∧ ActsR B av l ∧ ActsR B aw l) (fun k => l.length - k)
    0 (fun h => ⟨Nat.zero_le _, h⟩) (fun p hp => hp) (Sy.Ent.refl _) (o := fun _ => sa_o) (R := fun k f => sa_R B p2 p3 p6 p7 tv tw av aw i k cells loc lod f) (fun k f _ => sa_run B p2 p3 p6 p7 tv tw av aw i k cells loc lod f) ?_
  rintro - k f ⟨hk, hR, hS⟩ ns
  simp only [sa_R, Sy.Res.holds]
  refine ⟨hR.sl, fun hlt => ?_, fun hge => ?_⟩
  · have hlt : k < l.length := by rw [Ex.ltQ_eq, hR.len] at hlt; simpa using hlt
    obtain ⟨a, hn⟩ : ∃ n, l[k]? = some n := ⟨_, List.getElem?_eq_getElem hlt⟩
    have hne : l ≠ [] := fun h => by rw [h] at hlt; simp at hlt
    obtain ⟨iv, ev, fv, hA⟩ := hR.act k a hn
    obtain ⟨iw, ew, fw, hW⟩ := hS.act k a hn
    refine ⟨⟨hR.at_ hne, by simp, by rw [hR.len]; simpa using hlt⟩, ⟨_, hA.op⟩, fun e0 => ⟨⟨_, hA.dst⟩, fun e1 => ⟨⟨_, hA.base⟩, fun e2 => ⟨⟨_, hA.size⟩, fun e3 => ⟨⟨_, hA.ivc⟩, fun e4 => ⟨⟨_, hA.evc⟩, fun e5 => ⟨⟨_, hA.fvc⟩, fun e6 => ⟨⟨_, hA.mode⟩, fun e7 => ⟨⟨_, hA.to⟩, fun e8 => ⟨⟨_, hA.line⟩, fun e9 => ⟨⟨_, hA.col⟩, fun e10 => ?_⟩⟩⟩⟩⟩⟩⟩⟩⟩⟩⟩
    have e0 := e0 _ hA.op
    have e1 := e1 _ hA.dst
    have e2 := e2 _ hA.base
    have e3 := e3 _ hA.size
    have e4 := e4 _ hA.ivc
    have e5 := e5 _ hA.evc
    have e6 := e6 _ hA.fvc
    have e7 := e7 _ hA.mode
    have e8 := e8 _ hA.to
    have e9 := e9 _ hA.line
    have e10 := e10 _ hA.col
    simp only [Value.int.injEq, true_and] at e0 e1 e2 e3 e7 e8 e9 e10
    rw [← e0, ← e1, ← e2, ← e3, ← e4, ← e5, ← e6, ← e7, ← e8, ← e9, ← e10]
    refine ⟨?_, ⟨hS.at_ hne, by simp, by rw [hS.len]; simpa using hlt⟩, ⟨_, hW.op⟩, fun d0 => ⟨⟨_, hW.dst⟩, fun d1 => ⟨⟨_, hW.base⟩, fun d2 => ⟨⟨_, hW.size⟩, fun d3 => ⟨⟨_, hW.ivc⟩, fun d4 => ⟨⟨_, hW.evc⟩, fun d5 => ⟨⟨_, hW.fvc⟩, fun d6 => ⟨⟨_, hW.mode⟩, fun d7 => ⟨⟨_, hW.to⟩, fun d8 => ⟨⟨_, hW.line⟩, fun d9 => ⟨⟨_, hW.col⟩, fun d10 => ?_⟩⟩⟩⟩⟩⟩⟩⟩⟩⟩⟩
    · obtain ⟨_, _, _, h1⟩ := hA.i.1.sl
      obtain ⟨_, _, _, h2⟩ := hA.e.1.sl
      obtain ⟨_, _, _, h3⟩ := hA.f.1.sl
      simp [h1, h2, h3, Value.oneCell']
    have d0 := d0 _ hW.op
    have d1 := d1 _ hW.dst
    have d2 := d2 _ hW.base
    have d3 := d3 _ hW.size
    have d4 := d4 _ hW.ivc
    have d5 := d5 _ hW.evc
    have d6 := d6 _ hW.fvc
    have d7 := d7 _ hW.mode
    have d8 := d8 _ hW.to
    have d9 := d9 _ hW.line
    have d10 := d10 _ hW.col
    simp only [Value.int.injEq, true_and] at d0 d1 d2 d3 d7 d8 d9 d10
    rw [← d0, ← d1, ← d2, ← d3, ← d4, ← d5, ← d6, ← d7, ← d8, ← d9, ← d10]
    have got : Sy.GotL (rdOf B) B := gotL_of (fun p hp => hp)
    refine ⟨?_, fun h => ?_, fun h => ⟨⟨_, _, _, rfl, hA.i, hW.i⟩, got, fun _ => ⟨⟨_, _, _, rfl, hA.e, hW.e⟩, got, fun _ => ⟨⟨_, _, _, rfl, hA.f, hW.f⟩, got, fun _ => ?_⟩⟩⟩⟩
    · obtain ⟨_, _, _, h1⟩ := hW.i.1.sl
      obtain ⟨_, _, _, h2⟩ := hW.e.1.sl
      obtain ⟨_, _, _, h3⟩ := hW.f.1.sl
      simp [h1, h2, h3, Value.oneCell']
    · simp [Ex.eqQ_eq] at h
    · refine ⟨rfl, .inl ⟨rfl, k + 1, ⟨by omega, hR, hS⟩, by show l.length - (k + 1) < l.length - k; omega, ?_, Sy.Ent.sub ((List.sublist_cons_self _ _).trans (List.sublist_cons_self _ _))⟩⟩
      rw [w_succ (by have := hR.lt; omega)]
      rfl
  · exact ⟨rfl, .inr ⟨by simp, _, List.mem_singleton_self _, rfl, [], rfl, ⟨[0, 1, 2, 3, 4, 5], rfl⟩, Sy.Ent.sub (by simp only [List.append_nil]; exact List.sublist_append_left _ _), trivial⟩⟩

end Go.Proofs.Ytbgmkefehfjicaa

/-
  The reference: the same program: the threads.
-/
namespace Go.Proofs.Ytbgmkefehfjicaa
set_option linter.unusedVariables false
set_option linter.unusedSimpArgs false
open Go Go.RowKit
open Sy (Let Blk HasL)

noncomputable def Sy.av2L (L : List Blk) : Value := match L with
  | _ :: r => Sy.avL r
  | _ => undef

noncomputable def Sy.loc2L (L : List Blk) : Int := match L with
  | _ :: r => Sy.locL r
  | _ => 0

noncomputable def ctxST (B : List (Nat × Sy.Cont)) (l : List ActD) (p2 p3 : Nat) (tv tw : Value) (i : Nat) (cells : Int) : Sy.Ctx := Sy.mkS [] [(fSame, fun a L => loopSA B l p2 p3 (Sy.ptrN (a.get 6)) (Sy.ptrN (a.get 7)) tv tw (Sy.av2L L) (Sy.avL L) i cells (Sy.loc2L L) (Sy.locL L))] []
theorem ctxST_holds (B : List (Nat × Sy.Cont)) (l : List ActD) (p2 p3 : Nat) (tv tw : Value) (i : Nat) (cells : Int) : (ctxST B l p2 p3 tv tw i cells).holds Try.prog := Sy.mkS_holds (fun _ h => (by cases h)) (fun p hp a L => by
  rcases List.mem_singleton.1 hp with rfl
  exact loopSA_met _ _ _ _ _ _ _ _ _ _ _ _ _ _) (fun _ h => (by cases h))

def slST (p2 p3 : Nat) (i : Nat) : List (Nat × Value) := [(2, .pointer (some ⟨p2, 0, none⟩)), (3, .pointer (some ⟨p3, 0, none⟩)), (4, .bool false), (5, .int .i64 (Int.ofNat i))]
def memST (p2 p3 : Nat) (cells : Int) (tv tw : Value) : List (Nat × Sy.Cont) := [(p2, .obj (.cells #[.int .i64 cells, tv] 27 (0, 0))), (p3, .obj (.cells #[.int .i64 cells, tw] 27 (0, 0)))]

def st_o : Sy.O := (Sy.O.pack 4 0x8000 (Sy.O.fork (Sy.O.pack 33 0x10000100401000000802000c21008010004108000 (Sy.O.fork Sy.O.nil (Sy.O.pack 13 0x1000210042110440 Sy.O.nil))) Sy.O.nil))
noncomputable def st_R (B : List (Nat × Sy.Cont)) (l : List ActD) (p2 : Nat) (p3 : Nat) (tv : Value) (tw : Value) (i : Nat) (cells : Int) (f : Nat → Value) (ns : Nat → Sy.Let) : Sy.Res (Exit × Nat × List Value × List Blk) := .need (∃ (p : Option Addr), ∃ (n : Nat), ∃ (c : Nat), tv = Value.slice p n c) (.br (Ex.ltQ (Int.ofNat i) (Int.ofNat (Sy.lenS tv))) (.need ((∃ (n : Nat), ∃ (c : Nat), tv = Value.slice (some (Addr.mk (Sy.ptrS tv) (Sy.offS tv) none)) n c) ∧ (0 : Int) ≤ Int.ofNat i ∧ Int.ofNat i < (↑(Sy.lenS tv) : Int)) (.need (∃ (i_1 : Int), HasL (rdOf B) (Sy.ptrS tv) (Sy.offS tv + Int.toNat (Int.ofNat i) * (2 : Nat)) (.int .i64 i_1)) (.hyp (∀ (u : Value), HasL (rdOf B) (Sy.ptrS tv) (Sy.offS tv + Int.toNat (Int.ofNat i) * (2 : Nat)) u → u = Value.int .i64 (Let.i (ns 0))) (.need (∃ (v : Value), HasL (rdOf B) (Sy.ptrS tv) (Sy.offS tv + Int.toNat (Int.ofNat i) * (2 : Nat) + (1 : Nat)) v) (.hyp (∀ (u : Value), HasL (rdOf B) (Sy.ptrS tv) (Sy.offS tv + Int.toNat (Int.ofNat i) * (2 : Nat) + (1 : Nat)) u → u = Let.v (ns 1)) (.need ((2 : Nat) = (2 : Nat) ∧ (2 : Nat) = (2 : Nat) ∧ Array.all (Array.mk [.int .i64 (Let.i (ns 0)), Let.v (ns 1)]) (fun (x : Value) => Value.oneCell' x) (0 : Nat) (2 : Nat) = true) (.need
 ((∃ (n : Nat), ∃ (c : Nat), tw = Value.slice (some (Addr.mk (Sy.ptrS tw) (Sy.offS tw) none)) n c) ∧ (0 : Int) ≤ Int.ofNat i ∧ Int.ofNat i < (↑(Sy.lenS tw) : Int)) (.need (∃ (i_1 : Int), HasL (rdOf B) (Sy.ptrS tw) (Sy.offS tw + Int.toNat (Int.ofNat i) * (2 : Nat)) (.int .i64 i_1)) (.hyp (∀ (u : Value), HasL (rdOf B) (Sy.ptrS tw) (Sy.offS tw + Int.toNat (Int.ofNat i) * (2 : Nat)) u → u = Value.int .i64 (Let.i (ns 3))) (.need (∃ (v : Value), HasL (rdOf B) (Sy.ptrS tw) (Sy.offS tw + Int.toNat (Int.ofNat i) * (2 : Nat) + (1 : Nat)) v) (.hyp (∀ (u : Value), HasL (rdOf B) (Sy.ptrS tw) (Sy.offS tw + Int.toNat (Int.ofNat i) * (2 : Nat) + (1 : Nat)) u → u = Let.v (ns 4)) (.need ((2 : Nat) = (2 : Nat) ∧ (2 : Nat) = (2 : Nat) ∧ Array.all (Array.mk [.int .i64 (Let.i (ns 3)), Let.v (ns 4)]) (fun (x : Value) => Value.oneCell' x) (0 : Nat) (2 : Nat) = true) (.need (∃ (p : Option Addr), ∃ (n : Nat), ∃ (c : Nat), Let.v (ns 1) = Value.slice p n c) (.need (∃ (p : Option Addr), ∃ (n : Nat), ∃ (c : Nat),
 Let.v (ns 4) = Value.slice p n c) (.br (bif !Ex.eqQ (Let.i (ns 0)) (Let.i (ns 3)) then true else !Ex.eqQ (Int.ofNat (Sy.lenS (Let.v (ns 1)))) (Int.ofNat (Sy.lenS (Let.v (ns 4))))) (.leaf (Exit.ret, (149 : Nat), [.pointer (some (Addr.mk p2 0 none)), .pointer (some (Addr.mk p3 0 none)), Value.bool false, .int .i64 (Int.ofNat i)], Blk.mk (Let.n (ns 5)) (.obj (.cells (Array.mk [.int .i64 (Let.i (ns 3)), Let.v (ns 4)]) (37 : Nat))) true :: Blk.mk (Let.n (ns 2)) (.obj (.cells (Array.mk [.int .i64 (Let.i (ns 0)), Let.v (ns 1)]) (37 : Nat))) true :: Blk.mk p2 (.obj (.cells (Array.mk [.int .i64 cells, tv]) (27 : Nat))) true :: Blk.mk p3 (.obj (.cells (Array.mk [.int .i64 cells, tw]) (27 : Nat))) true :: rdOf B)) (.need (ActsR B (Let.v (ns 1)) l ∧ ActsR B (Let.v (ns 4)) l) (.need (Sy.GotL ([] ++ List.eraseIdx (Blk.mk p3 (.obj (.cells (Array.mk [.int .i64 cells, tw]) (27 : Nat))) true :: rdOf B) (nat_lit 0)) B) (.hyp True (.leaf (Exit.normal, (149 : Nat), [.pointer (some (Addr.mk p2 0 none)),
 .pointer (some (Addr.mk p3 0 none)), Value.bool false, .int .i64 (Ex.wrapQ .i64 (Ex.addQ (Int.ofNat i) (1 : Int)))], Blk.mk p2 (.obj (.cells (Array.mk [.int .i64 cells, tv]) (27 : Nat))) true :: Blk.mk p3 (.obj (.cells (Array.mk [.int .i64 cells, tw]) (27 : Nat))) true :: Blk.mk (Let.n (ns 2)) (.obj (.cells (Array.mk [.int .i64 (Let.i (ns 0)), Let.v (ns 1)]) (37 : Nat))) true :: Blk.mk (Let.n (ns 5)) (.obj (.cells (Array.mk [.int .i64 (Let.i (ns 3)), Let.v (ns 4)]) (37 : Nat))) true :: ([] ++ List.eraseIdx (Blk.mk p3 (.obj (.cells (Array.mk [.int .i64 cells, tw]) (27 : Nat))) true :: rdOf B) (nat_lit 0)))))))))))))))))))))) (.leaf (Exit.exit (0 : Nat), (149 : Nat), [.pointer (some (Addr.mk p2 0 none)), .pointer (some (Addr.mk p3 0 none)), Value.bool false, .int .i64 (Int.ofNat i)], Blk.mk p2 (.obj (.cells (Array.mk [.int .i64 cells, tv]) (27 : Nat))) true :: Blk.mk p3 (.obj (.cells (Array.mk [.int .i64 cells, tw]) (27 : Nat))) true :: rdOf B)))

theorem st_run (B : List (Nat × Sy.Cont)) (l : List ActD) (p2 p3 : Nat) (tv tw : Value) (i : Nat) (cells : Int) (f : Nat → Value) : Sy.Ran (Sy.pieceT Try.prog (ctxST B l p2 p3 tv tw i cells) 50 fSame bodyST 149 (slST p2 p3 i) ((List.range 149).map f) ((memST p2 p3 cells tv tw).map Sy.ownOf ++ rdOf B) [2, 3, 4, 5]) st_o (st_R B l p2 p3 tv tw i cells f) := ⟨fun ns => by kernel_rfl, fun ns => by kernel_rfl⟩

end Go.Proofs.Ytbgmkefehfjicaa

/-
  The reference: the same program: the threads, the contract.
-/
namespace Go.Proofs.Ytbgmkefehfjicaa
open Go Go.RowKit
open Sy (Let Blk HasL)

noncomputable def loopST (B : List (Nat × Sy.Cont)) (l : List ThreadD) (p2 p3 : Nat) (tv tw : Value) (cells : Int) : Sy.LoopC :=
  ⟨.loop bodyST, 149, slST p2 p3 0, ThreadsR B tv l ∧ ThreadsR B tw l, ⟨[], memST p2 p3 cells tv tw, 0, B⟩,
    [(⟨fun _ => True, fun _ => [], fun _ => []⟩, .exit 0, fun _ => [(4, .bool false)])]⟩

theorem loopST_met (B : List (Nat × Sy.Cont)) (l : List ThreadD) (p2 p3 : Nat) (tv tw : Value) (cells : Int) : Sy.MeetsL Try.prog (loopST B l p2 p3 tv tw cells) := by
  refine Sy.loop_ofB (σ := Nat × ThreadD) (S := fun s => ctxST B s.2.acts p2 p3 tv tw s.1 cells) (n := 50) (fn := fSame) (fun _ => ctxST_holds _ _ _ _ _ _ _ _) mixed (body := bodyST) rfl [2, 3, 4, 5] (fun s => slST p2 p3 s.1)
    (fun _ => (memST p2 p3 cells tv tw).map Sy.ownOf ++ rdOf B) (fun s => s.1 ≤ l.length ∧ (ThreadsR B tv l ∧ ThreadsR B tw l) ∧ ∀ t, l[s.1]? = some t → s.2 = t) (fun s => l.length - s.1)
    (0, l.headD ⟨0, []⟩) (fun h => ⟨Nat.zero_le _, h, fun a ha => by cases l <;> simp_all⟩) (fun p hp => hp) (Sy.Ent.refl _) (o := fun _ => st_o) (R := fun s f => st_R B s.2.acts p2 p3 tv tw s.1 cells f) (fun s f _ => st_run B s.2.acts p2 p3 tv tw s.1 cells f) ?_
  rintro - ⟨k, t⟩ f ⟨hk, ⟨hR, hS⟩, ha⟩ ns
  simp only at hk ha
  simp only [st_R, Sy.Res.holds]
  refine ⟨hR.sl, fun hlt => ?_, fun hge => ?_⟩
  · have hlt : k < l.length := by rw [Ex.ltQ_eq, hR.len] at hlt; simpa using hlt
    obtain ⟨t', hn⟩ : ∃ n, l[k]? = some n := ⟨_, List.getElem?_eq_getElem hlt⟩
    obtain rfl : t = t' := ha t' hn
    have hne : l ≠ [] := fun h => by rw [h] at hlt; simp at hlt
    obtain ⟨av, h0, h1, hA⟩ := hR.thr k t hn
    obtain ⟨aw, g0, g1, hW⟩ := hS.thr k t hn
    refine ⟨⟨hR.at_ hne, by simp, by rw [hR.len]; simpa using hlt⟩, ⟨_, h0⟩, fun e0 => ⟨⟨_, h1⟩, fun e1 => ?_⟩⟩
    have e0 := e0 _ h0
    have e1 := e1 _ h1
    simp only [Value.int.injEq, true_and] at e0
    rw [← e0, ← e1]
    obtain ⟨p, n, c, hav⟩ := hA.sl
    obtain ⟨p', n', c', haw⟩ := hW.sl
    refine ⟨by simp [hav, Value.oneCell'], ⟨hS.at_ hne, by simp, by rw [hS.len]; simpa using hlt⟩, ⟨_, g0⟩, fun d0 => ⟨⟨_, g1⟩, fun d1 => ?_⟩⟩
    have d0 := d0 _ g0
    have d1 := d1 _ g1
    simp only [Value.int.injEq, true_and] at d0
    rw [← d0, ← d1]
    refine ⟨by simp [haw, Value.oneCell'], hA.sl, hW.sl, fun hb => ?_, fun hb => ⟨⟨hA, hW⟩, gotL_of (fun p hp => hp), fun _ => ?_⟩⟩
    · rw [hA.len, hW.len] at hb
      simp [Ex.eqQ_eq] at hb
    · refine ⟨rfl, .inl ⟨rfl, (k + 1, l.getD (k + 1) t), ⟨by show k + 1 ≤ l.length; omega, ⟨hR, hS⟩, fun x hx => ?_⟩, by show l.length - (k + 1) < l.length - k; omega, ?_, Sy.Ent.sub ((((List.sublist_cons_self _ _).trans (List.sublist_cons_self _ _)).cons_cons _).cons_cons _)⟩⟩
      · simp only at hx
        show l.getD (k + 1) t = x
        rw [List.getD_eq_getElem?_getD, hx]
        rfl
      · rw [w_succ (by have := hR.lt; omega)]
        rfl
  · exact ⟨rfl, .inr ⟨by simp, _, List.mem_singleton_self _, rfl, [], rfl, ⟨[2], rfl⟩, Sy.Ent.sub (List.nil_sublist _), trivial⟩⟩

noncomputable def ctxSG (B : List (Nat × Sy.Cont)) (l : List ThreadD) (tv tw : Value) (cells : Int) : Sy.Ctx := Sy.mkS [] [(fSame, fun a _ => loopST B l (Sy.ptrN (a.get 2)) (Sy.ptrN (a.get 3)) tv tw cells)] []
theorem ctxSG_holds (B : List (Nat × Sy.Cont)) (l : List ThreadD) (tv tw : Value) (cells : Int) : (ctxSG B l tv tw cells).holds Try.prog := Sy.mkS_holds (fun _ h => (by cases h)) (fun p hp a L => by
  rcases List.mem_singleton.1 hp with rfl
  exact loopST_met _ _ _ _ _ _ _) (fun _ h => (by cases h))

end Go.Proofs.Ytbgmkefehfjicaa

/-
  The reference: the same program, the whole run.
-/
namespace Go.Proofs.Ytbgmkefehfjicaa
set_option linter.unusedVariables false
set_option linter.unusedSimpArgs false
open Go Go.RowKit
open Sy (Let Blk HasL)

def sg_o : Sy.O := (Sy.O.pack 15 0x400004010040000020 (Sy.O.fork Sy.O.nil (Sy.O.pack 9 0x10002100420 Sy.O.nil)))
noncomputable def sg_R (B : List (Nat × Sy.Cont)) (l : List ThreadD) (tv : Value) (tw : Value) (cells : Int) (ns : Nat → Sy.Let) : Sy.Res (Value × List Blk) := .need (∃ (p : Option Addr), ∃ (n : Nat), ∃ (c : Nat), tv = Value.slice p n c) (.need (∃ (p : Option Addr), ∃ (n : Nat), ∃ (c : Nat), tw = Value.slice p n c) (.br (bif !Ex.eqQ cells cells then true else !Ex.eqQ (Int.ofNat (Sy.lenS tv)) (Int.ofNat (Sy.lenS tw))) (.leaf (Value.bool false, Blk.mk (Let.n (ns 1)) (.obj (.cells (Array.mk [.int .i64 cells, tw]) (27 : Nat))) true :: Blk.mk (Let.n (ns 0)) (.obj (.cells (Array.mk [.int .i64 cells, tv]) (27 : Nat))) true :: rdOf B)) (.need (ThreadsR B tv l ∧ ThreadsR B tw l) (.need (Sy.GotL ([] ++ rdOf B) B) (.hyp True (.leaf (Value.bool true, [] ++ ([] ++ rdOf B))))))))

theorem sg_run (B : List (Nat × Sy.Cont)) (l : List ThreadD) (tv tw : Value) (cells : Int) : Sy.Ran (Sy.inB Try.prog (ctxSG B l tv tw cells) 50 fSame #[progV cells tv, progV cells tw] (rdOf B)) sg_o (sg_R B l tv tw cells) := ⟨fun ns => by kernel_rfl, fun ns => by kernel_rfl⟩

end Go.Proofs.Ytbgmkefehfjicaa

/-
  The reference: the same program, the contract.
-/
namespace Go.Proofs.Ytbgmkefehfjicaa
open Go Go.RowKit
open Sy (Let Blk HasL)

/-- Two programs of the same threads are the same. -/
noncomputable def sameC (B : List (Nat × Sy.Cont)) (tv tw : Value) (l : List ThreadD) (cells : Int) : Sy.CallC := ⟨fSame, #[progV cells tv, progV cells tw], ThreadsR B tv l ∧ ThreadsR B tw l, ⟨[], [], 0, B⟩, [Sy.plainO (.bool true)]⟩
theorem sameC_met (B : List (Nat × Sy.Cont)) (tv tw : Value) (l : List ThreadD) (cells : Int) : Sy.Meets Try.prog (sameC B tv tw l cells) := by
  refine Sy.meets_ofB (ctxSG_holds B l tv tw cells) mixed (L := rdOf B) (Sy.Ent.refl _) (sg_run B l tv tw cells) fun hok ns => ?_
  have leaf : ∀ (L : List Blk), Sy.leafB (sameC B tv tw l cells) (.bool true, L) := fun L => plainB_leaf (List.mem_singleton_self _) rfl rfl
  have hR : ThreadsR B tv l := hok.1
  have hS : ThreadsR B tw l := hok.2
  have hb : ThreadsR B tv l ∧ ThreadsR B tw l := hok
  simp only [sg_R, Sy.Res.holds, hR.len, hS.len]
  repeat' (first | exact gotL_of (fun p hp => by simp [hp]) | exact hR.sl | exact hS.sl | exact hR | exact hS | exact leaf _ | apply And.intro | intro _)
  all_goals (rename_i h; simp [Ex.eqQ_eq] at h)

end Go.Proofs.Ytbgmkefehfjicaa

/-
  What a bundle holds is held by each greater one.
-/
namespace Go.Proofs.Ytbgmkefehfjicaa
open Go Go.RowKit
open Sy (Let Blk HasL)

/-- Whatever the first holds, the second holds. -/
def LeB (B C : List (Nat × Sy.Cont)) : Prop := ∀ b o v, HasL (rdOf B) b o v → HasL (rdOf C) b o v

theorem nodesR_mono {B C : List (Nat × Sy.Cont)} (h : LeB B C) {v : Value} {l : List NodeD} (hR : NodesR B v l) : NodesR C v l :=
  ⟨hR.sl, hR.len, hR.at_, fun i n hi => h _ _ _ (hR.op i n hi), fun i n hi => h _ _ _ (hR.val i n hi), fun i n hi => h _ _ _ (hR.a i n hi), fun i n hi => h _ _ _ (hR.b i n hi)⟩
theorem okX_mono {B C : List (Nat × Sy.Cont)} (h : LeB B C) {v : Value} {l : List NodeD} (hR : OkX B v l) : OkX C v l := ⟨nodesR_mono h hR.1, hR.2⟩
theorem actAt_mono {B C : List (Nat × Sy.Cont)} (h : LeB B C) {b o : Nat} {a : ActD} {iv ev fv : Value} (hA : ActAt B b o a iv ev fv) : ActAt C b o a iv ev fv :=
  ⟨h _ _ _ hA.op, h _ _ _ hA.dst, h _ _ _ hA.base, h _ _ _ hA.size, h _ _ _ hA.ivc, h _ _ _ hA.evc, h _ _ _ hA.fvc, h _ _ _ hA.mode, h _ _ _ hA.to, h _ _ _ hA.line, h _ _ _ hA.col, okX_mono h hA.i, okX_mono h hA.e, okX_mono h hA.f⟩
theorem actsR_mono {B C : List (Nat × Sy.Cont)} (h : LeB B C) {v : Value} {l : List ActD} (hR : ActsR B v l) : ActsR C v l :=
  ⟨hR.sl, hR.len, hR.at_, fun i a hi => by
    obtain ⟨iv, ev, fv, hA⟩ := hR.act i a hi
    exact ⟨iv, ev, fv, actAt_mono h hA⟩, hR.lt⟩
theorem threadsR_mono {B C : List (Nat × Sy.Cont)} (h : LeB B C) {v : Value} {l : List ThreadD} (hR : ThreadsR B v l) : ThreadsR C v l :=
  ⟨hR.sl, hR.len, hR.at_, fun i t hi => by
    obtain ⟨av, h0, h1, hA⟩ := hR.thr i t hi
    exact ⟨av, h _ _ _ h0, h _ _ _ h1, actsR_mono h hA⟩, hR.lt⟩

theorem leB_left (B C : List (Nat × Sy.Cont)) : LeB B (B ++ C) := fun b o v ⟨q, hq, h⟩ => ⟨q, by
  simp only [rdOf, List.map_append, List.mem_append]
  exact .inl hq, h⟩
theorem leB_right (B C : List (Nat × Sy.Cont)) : LeB C (B ++ C) := fun b o v ⟨q, hq, h⟩ => ⟨q, by
  simp only [rdOf, List.map_append, List.mem_append]
  exact .inr hq, h⟩

end Go.Proofs.Ytbgmkefehfjicaa

/-
  A copy of nodes: append to an empty row, by contract; bundles as they are handed back.
-/
namespace Go.Proofs.Ytbgmkefehfjicaa
open Go Go.RowKit
open Sy (Let Blk HasL)

noncomputable def Sy.opsOf : Code → List Oper
  | .region _ ops _ => ops.toList
  | .seq a b => Sy.opsOf a ++ Sy.opsOf b
  | .cond _ a b => Sy.opsOf a ++ Sy.opsOf b
  | .block _ c | .loop c | .scope c => Sy.opsOf c
  | _ => []
noncomputable def Sy.pickO (t : Nat) : List Oper → Option Oper
  | [] => none
  | o :: r => match o.dst with
    | some u => match Nat.beq u t with
      | true => some o
      | false => Sy.pickO t r
    | none => Sy.pickO t r
noncomputable def Sy.opAt (f : Func) (t : Nat) : Option Oper := match f.body with
  | some c => Sy.pickO t (Sy.opsOf c)
  | none => none
/-- What the operation in a slot does. -/
noncomputable def Sy.semAt (f : Func) (t : Nat) (a : Sy.F) : Sem Next := match Sy.opAt f t with
  | some o => execOp a.eval o
  | none => pure .skip

/-! ### Nodes' cells -/

def ndV (n : NodeD) : List Value := [.int .i64 n.op, .int .u64 n.val, .int .i64 n.a, .int .i64 n.b]
def ndsV (l : List NodeD) : List Value := l.flatMap ndV

theorem ndsV_len : ∀ l : List NodeD, (ndsV l).length = l.length * 4
  | [] => rfl
  | n :: l => by
    have := ndsV_len l
    unfold ndsV at this ⊢
    rw [List.flatMap_cons, List.length_append, this, List.length_cons]
    simp [ndV]
    omega
theorem ndsV_one (l : List NodeD) : ∀ u ∈ ndsV l, u.oneCell' = true := fun u hu => by
  obtain ⟨n, -, hn⟩ := List.mem_flatMap.1 hu
  simp only [ndV, List.mem_cons, List.not_mem_nil, or_false] at hn
  rcases hn with rfl | rfl | rfl | rfl <;> rfl
/-- Cells of equal parts, one behind the other. -/
theorem flatc_at {α : Type} {f : α → List Value} {sz : Nat} (hf : ∀ a, (f a).length = sz) : ∀ {l : List α} {i : Nat} {a : α}, l[i]? = some a → ∀ j, j < sz → (l.flatMap f)[i * sz + j]? = (f a)[j]?
  | [], i, a, h, j, hj => by simp at h
  | x :: l, 0, a, h, j, hj => by
    simp only [List.getElem?_cons_zero, Option.some.injEq] at h
    subst h
    rw [List.flatMap_cons, Nat.zero_mul, Nat.zero_add, List.getElem?_append_left (by rw [hf]; exact hj)]
  | x :: l, i + 1, a, h, j, hj => by
    have ih := flatc_at hf (l := l) (i := i) (by simpa using h) j hj
    rw [List.flatMap_cons, List.getElem?_append_right (by rw [hf, Nat.add_mul]; omega), hf, ← ih]
    congr 1
    rw [Nat.add_mul]
    omega
theorem flat_len {α : Type} {f : α → List Value} {sz : Nat} (hf : ∀ a, (f a).length = sz) : ∀ l : List α, (l.flatMap f).length = l.length * sz
  | [] => by simp
  | x :: l => by rw [List.flatMap_cons, List.length_append, hf, flat_len hf l, List.length_cons, Nat.add_mul]; omega
theorem flat_of {α : Type} {f : α → List Value} {sz : Nat} (hsz : 0 < sz) (hf : ∀ a, (f a).length = sz) {l : List α} {j : Nat} {u : Value} (h : (l.flatMap f)[j]? = some u) : ∃ a, l[j / sz]? = some a ∧ (f a)[j % sz]? = some u := by
  have hj : j < l.length * sz := by rw [← flat_len hf]; exact (List.getElem?_eq_some_iff.1 h).1
  have hi : j / sz < l.length := (Nat.div_lt_iff_lt_mul hsz).2 hj
  refine ⟨l[j / sz], List.getElem?_eq_getElem hi, ?_⟩
  rw [← flatc_at hf (List.getElem?_eq_getElem hi) (j % sz) (Nat.mod_lt _ hsz), ← h]
  congr 1
  have := Nat.div_add_mod j sz
  rw [Nat.mul_comm] at this
  exact this

/-- What the bundle holds of the nodes, cell by cell. -/
theorem nodes_cell {B : List (Nat × Sy.Cont)} {v : Value} {l : List NodeD} (h : NodesR B v l) : ∀ (j : Nat) (u : Value), (ndsV l)[j]? = some u → HasL (rdOf B) (Sy.ptrS v) (Sy.offS v + j) u := fun j u hu => by
  obtain ⟨n, hn, hc⟩ := flat_of (f := ndV) (sz := 4) (by omega) (fun _ => rfl) hu
  have hd := Nat.div_add_mod j 4
  rw [Nat.mul_comm] at hd
  have h4 : j % 4 < 4 := Nat.mod_lt _ (by omega)
  generalize hk : j % 4 = k at *
  generalize hi : j / 4 = i at *
  subst hd
  have h0 := h.op i n hn
  have h1 := h.val i n hn
  have h2 := h.a i n hn
  have h3 := h.b i n hn
  match k, h4, hc with
  | 0, _, hc => injection hc with hc; subst hc; simpa [Nat.add_assoc] using h0
  | 1, _, hc => injection hc with hc; subst hc; simpa [Nat.add_assoc] using h1
  | 2, _, hc => injection hc with hc; subst hc; simpa [Nat.add_assoc] using h2
  | 3, _, hc => injection hc with hc; subst hc; simpa [Nat.add_assoc] using h3

/-! ### The append -/

abbrev tNs : TypeId := 65
abbrev tNd : TypeId := 114
theorem elemN : Sy.Elem Try.prog tNs tNd 4 32 := ⟨Try.underlying65, by
  obtain ⟨i, hi⟩ : ∃ i, Try.prog.info? tNd = some i := Option.isSome_iff_exists.1 (by kernel_rfl)
  have h1 : (Try.prog.info? tNd).map (·.size) = some 4 := by kernel_rfl
  have h2 : (Try.prog.info? tNd).map (·.bytes) = some 32 := by kernel_rfl
  have h3 : (Try.prog.info? tNd).bind (fun i => i.zero.map (·.cells.size)) = some 4 := by kernel_rfl
  rw [hi] at h1 h2 h3
  simp only [Option.map_some, Option.some.injEq, Option.bind_some] at h1 h2 h3
  cases hz : i.zero with
  | none => rw [hz] at h3; cases h3
  | some z =>
    rw [hz] at h3
    simp only [Option.map_some, Option.some.injEq] at h3
    exact ⟨i, z, hi, hz, h1, h2, h3⟩, by omega⟩

def copyOC (B : List (Nat × Sy.Cont)) (g0 : Nat) (n : Nat) (xs : List Value) : Sy.OpC :=
  ⟨⟨[], [(g0, .row tNd 4 0 0 [])], 2, B⟩, [(⟨fun ns => n ≤ Sy.num ns 1, fun ns => [(Sy.num ns 0, .row tNd 4 n (Sy.num ns 1) xs)], fun _ => []⟩, fun ns => some (.slice (some ⟨Sy.num ns 0, 0, none⟩) n (Sy.num ns 1)))]⟩

theorem append_zero {P : Program} (W : World) {t ty e : TypeId} {i : TypeInfo} (ht : P.underlying t = some (.slice e)) (hi : P.info? e = some i) (a : Addr) {n cap : Nat} (p : Option Addr) (c : Nat) (hn : n ≤ cap) :
    (Builtin.append_ #[t, t] ty #[.slice (some a) n cap, .slice p 0 c]).run P W = .ok (.slice (some a) n cap) W := by
  cases p <;> simp [Builtin.append_, run_underlying ht, sizeOf, typeInfo, hi, Builtin.lenOf, hn, Builtin.firstCells, storeCells, loadCells, loadCellsFrom]

theorem copyOC_met {B : List (Nat × Sy.Cont)} {g0 : Nat} {v : Value} {l : List NodeD} {ty : TypeId} (h : OkX B v l) : Sy.OpMeets Try.prog (Sy.appSem tNs ty (.slice (some ⟨g0, 0, none⟩) 0 0) v) (copyOC B g0 l.length (ndsV l)) := by
  intro W hpre
  obtain ⟨hR, hlt⟩ := h
  have hB : Sy.There (rdOf B) W := fun q hq => by
    obtain ⟨p, hp, rfl⟩ := List.mem_map.1 hq
    exact hpre.rb p hp
  by_cases hl : l = []
  · subst hl
    obtain ⟨p, n, c, hv⟩ := hR.sl
    have hn : n = 0 := by have := hR.len; rw [hv] at this; simpa [Sy.lenS] using this
    subst hn hv
    obtain ⟨i, z, hi, -⟩ := elemN.info
    have hs := hpre.use _ (List.mem_singleton_self _)
    refine ⟨_, List.mem_singleton_self _, [⟨g0, 0, false, undef, []⟩, ⟨0, 0, false, undef, []⟩], W, Sy.opV_run (append_zero W elemN.under hi _ p c (Nat.le_refl _)), rfl, Nat.le_refl _, rfl, rfl, rfl, Nat.le_refl _, fun _ _ _ => rfl, fun p hp => ?_, by simp, fun _ hp => (by cases hp), List.nodup_nil, fun _ _ _ hq => (by cases hq)⟩
    rcases List.mem_singleton.1 hp with rfl
    exact ⟨.inr ⟨_, List.mem_singleton_self _, rfl⟩, hs⟩
  · obtain ⟨n, c, hv⟩ := hR.at_ hl
    have hn : n = l.length := by have := hR.len; rw [hv] at this; simpa [Sy.lenS] using this
    have hpos : 0 < l.length := List.length_pos_iff.2 hl
    have hseg : (Sy.Cont.seg (Sy.offS v) (ndsV l)).sat W.heap[Sy.ptrS v]? := Sy.hasL_seg hB (by rw [ndsV_len]; omega) (nodes_cell hR)
    have hne : Sy.ptrS v ≠ g0 := fun he => by
      obtain ⟨m, hm⟩ : ∃ m, l[0]? = some m := ⟨_, List.getElem?_eq_getElem hpos⟩
      obtain ⟨q, hq, hqn, -⟩ := hR.op 0 m hm
      obtain ⟨p, hp, rfl⟩ := List.mem_map.1 hq
      exact hpre.apartB p hp _ (List.mem_singleton_self _) (by rw [← he]; exact hqn)
    have hb := Sy.app_met (P := Try.prog) (ty := ty) (use := [(g0, .row tNd 4 0 0 [])]) (v := .slice (some ⟨g0, 0, none⟩) 0 0) (n := 0) (m := l.length) (c := c) (s := Sy.ptrS v) (o := Sy.offS v) (ct := .seg (Sy.offS v) (ndsV l)) (xs := []) (news := ndsV l) elemN
      (.inr ⟨g0, 0, rfl, rfl⟩) (ndsV_len l) hpos (ndsV_one l) (by unfold maxLen; omega) (by omega) (fun j u hu => by simpa [Sy.Cont.at] using hu) W
      ⟨fun p hp => by rcases List.mem_singleton.1 hp with rfl; exact hseg, fun p hp => hpre.use p hp, List.nodup_cons.2 ⟨by simp, List.nodup_nil⟩, fun p hp q hq => by
        rcases List.mem_singleton.1 hp with rfl
        rcases List.mem_singleton.1 hq with rfl
        exact hne, fun p hp => (by cases hp), fun p hp => (by cases hp)⟩
    rw [hv, hn]
    obtain ⟨o, ho, ns, W', hrun, hpost⟩ := hb
    rcases List.mem_singleton.1 ho with rfl
    simp only [List.nil_append, Nat.zero_add] at hrun hpost
    refine ⟨_, List.mem_singleton_self _, ns, W', ?_, ⟨hpost.len, hpost.hyp, hpost.os, hpost.tape, hpost.output, hpost.size, hpost.old, hpost.nw, hpost.nodup, hpost.nb, hpost.nodupB, hpost.apartB⟩⟩
    rw [hn] at hv
    exact hrun

/-- The append at a slot: of an empty row and nodes. -/
noncomputable def copyK (B : List (Nat × Sy.Cont)) (l : List NodeD) (t x y : Nat) (a : Sy.F) (_ : List Blk) : Sy.OpK :=
  ⟨Sy.semAt Try.f9 t a, a.get x = .slice (some ⟨Sy.ptrN (a.get x), 0, none⟩) 0 0 ∧ OkX B (a.get y) l, copyOC B (Sy.ptrN (a.get x)) l.length (ndsV l)⟩

theorem copyK_met {B : List (Nat × Sy.Cont)} {l : List NodeD} {t x y : Nat} {a : Sy.F} {L : List Blk} (h : ∀ ρ : Operand → Value, (Sy.opAt Try.f9 t).bind (Sy.appOf ρ) = some (tNs, ρ (.tmp x), ρ (.tmp y))) : (copyK B l t x y a L).meets Try.prog := by
  rintro ⟨hx, hy⟩ W hpre
  show ∃ o ∈ _, ∃ ns W', (Sy.semAt _ t a).run _ W = _ ∧ _
  have h2 := h a.eval
  unfold Sy.semAt
  cases ho : Sy.opAt Try.f9 t with
  | none => rw [ho] at h2; cases h2
  | some o =>
    rw [ho] at h2
    have h3 := Sy.appOf_run (P := Try.prog) (o := o) h2 W
    simp only
    rw [h3]
    have hx' : a.eval (.tmp x) = .slice (some ⟨Sy.ptrN (a.get x), 0, none⟩) 0 0 := hx
    rw [hx']
    exact copyOC_met hy W hpre

theorem copy48 (ρ : Operand → Value) : (Sy.opAt Try.f9 48).bind (Sy.appOf ρ) = some (tNs, ρ (.tmp 45), ρ (.tmp 47)) := by kernel_rfl
theorem copy53 (ρ : Operand → Value) : (Sy.opAt Try.f9 53).bind (Sy.appOf ρ) = some (tNs, ρ (.tmp 50), ρ (.tmp 52)) := by kernel_rfl
theorem copy58 (ρ : Operand → Value) : (Sy.opAt Try.f9 58).bind (Sy.appOf ρ) = some (tNs, ρ (.tmp 55), ρ (.tmp 57)) := by kernel_rfl

abbrev fCopy : FuncId := 9
noncomputable def ctxCA (B : List (Nat × Sy.Cont)) (ix e f : List NodeD) : Sy.Ctx := Sy.mkS [] [] [(fCopy, 48, copyK B ix 48 45 47), (fCopy, 53, copyK B e 53 50 52), (fCopy, 58, copyK B f 58 55 57)]
theorem ctxCA_holds (B : List (Nat × Sy.Cont)) (ix e f : List NodeD) : (ctxCA B ix e f).holds Try.prog := Sy.mkS_holds (fun _ h => (by cases h)) (fun _ h => (by cases h)) (fun p hp a L => by
  simp only [List.mem_cons, List.not_mem_nil, or_false] at hp
  rcases hp with rfl | rfl | rfl
  · exact copyK_met (L := L) copy48
  · exact copyK_met (L := L) copy53
  · exact copyK_met (L := L) copy58)

end Go.Proofs.Ytbgmkefehfjicaa

/-
  The reference: a copy of a program: the acts of a thread.
-/
namespace Go.Proofs.Ytbgmkefehfjicaa
set_option linter.unusedVariables false
set_option linter.unusedSimpArgs false
open Go Go.RowKit
open Sy (Let Blk HasL)

noncomputable def bodyCT : Code := Sy.loopBody Try.f9 0
noncomputable def bodyCA : Code := Sy.loopBody Try.f9 1
def slCA (p1 p2 p3 p5 : Nat) (i k : Nat) : List (Nat × Value) := [(1, .pointer (some ⟨p1, 0, none⟩)), (2, .pointer (some ⟨p2, 0, none⟩)), (3, .pointer (some ⟨p3, 0, none⟩)), (4, .int .i64 (Int.ofNat i)), (5, .pointer (some ⟨p5, 0, none⟩)), (6, .int .i64 (Int.ofNat k))]
def memCA (p1 p5 : Nat) (cells loc : Int) (tv aw : Value) : List (Nat × Sy.Cont) := [(p1, .obj (.cells #[.int .i64 cells, tv] 27 (0, 0))), (p5, .obj (.cells #[.int .i64 loc, aw] 37 (0, 0)))]

def ca_o : Sy.O := (Sy.O.pack 7 0x46108000 (Sy.O.fork (Sy.O.pack 74 0x384000982008407000001800500003080c10800018000104050840000800004202042000020080030846108000 Sy.O.nil) Sy.O.nil))
noncomputable def ca_R (B : List (Nat × Sy.Cont)) (TL : List Blk) (p1 : Nat) (p2 : Nat) (p3 : Nat) (p5 : Nat) (g : Nat) (cap : Nat) (m : Nat) (xs : List Value) (tv : Value) (ix : List NodeD) (e : List NodeD) (f : List NodeD) (i : Nat) (k : Nat) (cells : Int) (loc : Int) (h : Nat → Value) (ns : Nat → Sy.Let) : Sy.Res (Exit × Nat × List Value × List Blk) := .need ((∃ (n : Nat), ∃ (c : Nat), tv = Value.slice (some (Addr.mk (Sy.ptrS tv) (Sy.offS tv) none)) n c) ∧ (0 : Int) ≤ Int.ofNat i ∧ Int.ofNat i < (↑(Sy.lenS tv) : Int)) (.need (∃ (v : Value), HasL TL (Sy.ptrS tv) (Nat.succ (Sy.offS tv + Int.toNat (Int.ofNat i) * (2 : Nat))) v) (.hyp (∀ (u : Value), HasL TL (Sy.ptrS tv) (Nat.succ (Sy.offS tv + Int.toNat (Int.ofNat i) * (2 : Nat))) u → u = Let.v (ns 0)) (.need (∃ (p : Option Addr), ∃ (n : Nat), ∃ (c : Nat), Let.v (ns 0) = Value.slice p n c) (.br (Ex.ltQ (Int.ofNat k) (Int.ofNat (Sy.lenS (Let.v (ns 0))))) (.need ((∃ (n : Nat), ∃ (c : Nat), tv = Value.slice (some (Addr.mk (Sy.ptrS tv) (Sy.offS tv) none)) n c) ∧ (0 : Int) ≤ Int.ofNat i ∧ Int.ofNat i < (↑(Sy.lenS tv) : Int)) (.need (∃ (v : Value), HasL TL (Sy.ptrS tv) (Nat.succ (Sy.offS tv + Int.toNat (Int.ofNat i) * (2 : Nat))) v) (.hyp (∀ (u : Value), HasL TL (Sy.ptrS tv) (Nat.succ (Sy.offS tv + Int.toNat (Int.ofNat i) * (2 : Nat))) u → u = Let.v (ns 1)) (.need ((∃ (n : Nat), ∃ (c : Nat),
 Let.v (ns 1) = Value.slice (some (Addr.mk (Sy.ptrS (Let.v (ns 1))) (Sy.offS (Let.v (ns 1))) none)) n c) ∧ (0 : Int) ≤ Int.ofNat k ∧ Int.ofNat k < (↑(Sy.lenS (Let.v (ns 1))) : Int)) (.need (∃ (i : Int), HasL TL (Sy.ptrS (Let.v (ns 1))) (Sy.offS (Let.v (ns 1)) + Int.toNat (Int.ofNat k) * (11 : Nat)) (.int .i64 i)) (.hyp (∀ (u : Value), HasL TL (Sy.ptrS (Let.v (ns 1))) (Sy.offS (Let.v (ns 1)) + Int.toNat (Int.ofNat k) * (11 : Nat)) u → u = Value.int .i64 (Let.i (ns 2))) (.need (∃ (i : Int), HasL TL (Sy.ptrS (Let.v (ns 1))) (Sy.offS (Let.v (ns 1)) + Int.toNat (Int.ofNat k) * (11 : Nat) + (1 : Nat)) (.int .i64 i)) (.hyp (∀ (u : Value), HasL TL (Sy.ptrS (Let.v (ns 1))) (Sy.offS (Let.v (ns 1)) + Int.toNat (Int.ofNat k) * (11 : Nat) + (1 : Nat)) u → u = Value.int .i64 (Let.i (ns 3))) (.need (∃ (i : Int), HasL TL (Sy.ptrS (Let.v (ns 1))) (Sy.offS (Let.v (ns 1)) + Int.toNat (Int.ofNat k) * (11 : Nat) + (1 : Nat) + (1 : Nat)) (.int .i64 i)) (.hyp (∀ (u : Value), HasL TL (Sy.ptrS (Let.v (ns 1)))
 (Sy.offS (Let.v (ns 1)) + Int.toNat (Int.ofNat k) * (11 : Nat) + (1 : Nat) + (1 : Nat)) u → u = Value.int .i64 (Let.i (ns 4))) (.need (∃ (i : Int), HasL TL (Sy.ptrS (Let.v (ns 1))) (Sy.offS (Let.v (ns 1)) + Int.toNat (Int.ofNat k) * (11 : Nat) + (1 : Nat) + (1 : Nat) + (1 : Nat)) (.int .i64 i)) (.hyp (∀ (u : Value), HasL TL (Sy.ptrS (Let.v (ns 1))) (Sy.offS (Let.v (ns 1)) + Int.toNat (Int.ofNat k) * (11 : Nat) + (1 : Nat) + (1 : Nat) + (1 : Nat)) u → u = Value.int .i64 (Let.i (ns 5))) (.need (∃ (v : Value), HasL TL (Sy.ptrS (Let.v (ns 1))) (Sy.offS (Let.v (ns 1)) + Int.toNat (Int.ofNat k) * (11 : Nat) + (1 : Nat) + (1 : Nat) + (1 : Nat) + (1 : Nat)) v) (.hyp (∀ (u : Value), HasL TL (Sy.ptrS (Let.v (ns 1))) (Sy.offS (Let.v (ns 1)) + Int.toNat (Int.ofNat k) * (11 : Nat) + (1 : Nat) + (1 : Nat) + (1 : Nat) + (1 : Nat)) u → u = Let.v (ns 6)) (.need (∃ (v : Value), HasL TL (Sy.ptrS (Let.v (ns 1))) (Sy.offS (Let.v (ns 1)) + Int.toNat (Int.ofNat k) * (11 : Nat) + (1 : Nat) + (1 : Nat) + (1 :
 Nat) + (1 : Nat) + (1 : Nat)) v) (.hyp (∀ (u : Value), HasL TL (Sy.ptrS (Let.v (ns 1))) (Sy.offS (Let.v (ns 1)) + Int.toNat (Int.ofNat k) * (11 : Nat) + (1 : Nat) + (1 : Nat) + (1 : Nat) + (1 : Nat) + (1 : Nat)) u → u = Let.v (ns 7)) (.need (∃ (v : Value), HasL TL (Sy.ptrS (Let.v (ns 1))) (Sy.offS (Let.v (ns 1)) + Int.toNat (Int.ofNat k) * (11 : Nat) + (1 : Nat) + (1 : Nat) + (1 : Nat) + (1 : Nat) + (1 : Nat) + (1 : Nat)) v) (.hyp (∀ (u : Value), HasL TL (Sy.ptrS (Let.v (ns 1))) (Sy.offS (Let.v (ns 1)) + Int.toNat (Int.ofNat k) * (11 : Nat) + (1 : Nat) + (1 : Nat) + (1 : Nat) + (1 : Nat) + (1 : Nat) + (1 : Nat)) u → u = Let.v (ns 8)) (.need (∃ (i : Int), HasL TL (Sy.ptrS (Let.v (ns 1))) (Sy.offS (Let.v (ns 1)) + Int.toNat (Int.ofNat k) * (11 : Nat) + (1 : Nat) + (1 : Nat) + (1 : Nat) + (1 : Nat) + (1 : Nat) + (1 : Nat) + (1 : Nat)) (.int .i64 i)) (.hyp (∀ (u : Value), HasL TL (Sy.ptrS (Let.v (ns 1))) (Sy.offS (Let.v (ns 1)) + Int.toNat (Int.ofNat k) * (11 : Nat) + (1 : Nat) + (1 : Nat)
 + (1 : Nat) + (1 : Nat) + (1 : Nat) + (1 : Nat) + (1 : Nat)) u → u = Value.int .i64 (Let.i (ns 9))) (.need (∃ (i : Int), HasL TL (Sy.ptrS (Let.v (ns 1))) (Sy.offS (Let.v (ns 1)) + Int.toNat (Int.ofNat k) * (11 : Nat) + (1 : Nat) + (1 : Nat) + (1 : Nat) + (1 : Nat) + (1 : Nat) + (1 : Nat) + (1 : Nat) + (1 : Nat)) (.int .i64 i)) (.hyp (∀ (u : Value), HasL TL (Sy.ptrS (Let.v (ns 1))) (Sy.offS (Let.v (ns 1)) + Int.toNat (Int.ofNat k) * (11 : Nat) + (1 : Nat) + (1 : Nat) + (1 : Nat) + (1 : Nat) + (1 : Nat) + (1 : Nat) + (1 : Nat) + (1 : Nat)) u → u = Value.int .i64 (Let.i (ns 10))) (.need (∃ (i : Int), HasL TL (Sy.ptrS (Let.v (ns 1))) (Sy.offS (Let.v (ns 1)) + Int.toNat (Int.ofNat k) * (11 : Nat) + (1 : Nat) + (1 : Nat) + (1 : Nat) + (1 : Nat) + (1 : Nat) + (1 : Nat) + (1 : Nat) + (1 : Nat) + (1 : Nat)) (.int .i64 i)) (.hyp (∀ (u : Value), HasL TL (Sy.ptrS (Let.v (ns 1))) (Sy.offS (Let.v (ns 1)) + Int.toNat (Int.ofNat k) * (11 : Nat) + (1 : Nat) + (1 : Nat) + (1 : Nat) + (1 : Nat) + (1 :
 Nat) + (1 : Nat) + (1 : Nat) + (1 : Nat) + (1 : Nat)) u → u = Value.int .i64 (Let.i (ns 11))) (.need (∃ (i : Int), HasL TL (Sy.ptrS (Let.v (ns 1))) (Sy.offS (Let.v (ns 1)) + Int.toNat (Int.ofNat k) * (11 : Nat) + (1 : Nat) + (1 : Nat) + (1 : Nat) + (1 : Nat) + (1 : Nat) + (1 : Nat) + (1 : Nat) + (1 : Nat) + (1 : Nat) + (1 : Nat)) (.int .i64 i)) (.hyp (∀ (u : Value), HasL TL (Sy.ptrS (Let.v (ns 1))) (Sy.offS (Let.v (ns 1)) + Int.toNat (Int.ofNat k) * (11 : Nat) + (1 : Nat) + (1 : Nat) + (1 : Nat) + (1 : Nat) + (1 : Nat) + (1 : Nat) + (1 : Nat) + (1 : Nat) + (1 : Nat) + (1 : Nat)) u → u = Value.int .i64 (Let.i (ns 12))) (.need ((11 : Nat) = (11 : Nat) ∧ (11 : Nat) = (11 : Nat) ∧ Array.all (Array.mk [.int .i64 (Let.i (ns 2)), .int .i64 (Let.i (ns 3)), .int .i64 (Let.i (ns 4)), .int .i64 (Let.i (ns 5)), Let.v (ns 6), Let.v (ns 7), Let.v (ns 8), .int .i64 (Let.i (ns 9)), .int .i64 (Let.i (ns 10)), .int .i64 (Let.i (ns 11)), .int .i64 (Let.i (ns 12))]) (fun (x : Value) => Value.oneCell' x) (0
 : Nat) (11 : Nat) = true) (.need (.slice (some (Addr.mk (Let.n (ns 14)) (0 : Nat) none)) (0 : Nat) (0 : Nat) = Value.slice (some (Addr.mk (Let.n (ns 14)) (0 : Nat) none)) (0 : Nat) (0 : Nat) ∧ OkX B (Let.v (ns 6)) ix) (.need (Sy.GotL TL B) (.hyp (Nat.le (List.length ix) (Let.n (ns 16))) (.need (.slice (some (Addr.mk (Let.n (ns 17)) 0 none)) (0 : Nat) (0 : Nat) = Value.slice (some (Addr.mk (Let.n (ns 17)) 0 none)) (0 : Nat) (0 : Nat) ∧ OkX B (Let.v (ns 7)) e) (.need (Sy.GotL TL B) (.hyp (Nat.le (List.length e) (Let.n (ns 19))) (.need (.slice (some (Addr.mk (Let.n (ns 20)) 0 none)) (0 : Nat) (0 : Nat) = Value.slice (some (Addr.mk (Let.n (ns 20)) 0 none)) (0 : Nat) (0 : Nat) ∧ OkX B (Let.v (ns 8)) f) (.need (Sy.GotL TL B) (.hyp (Nat.le (List.length f) (Let.n (ns 22))) (.need (m + (1 : Nat) ≤ (9223372036854775807 : Nat)) (.need ((m + (1 : Nat)) * (136 : Nat) ≤ (140737488355328 : Nat)) (.hyp (Nat.le (m + (1 : Nat)) (Let.n (ns 25))) (.leaf (Exit.normal, (73 : Nat), [.pointer (some (Addr.mk p1
 (0 : Nat) none)), .pointer (some (Addr.mk p2 (0 : Nat) none)), .pointer (some (Addr.mk p3 (0 : Nat) none)), .int .i64 (Int.ofNat i), .pointer (some (Addr.mk p5 (0 : Nat) none)), .int .i64 (Ex.wrapQ .i64 (Ex.addQ (Int.ofNat k) (1 : Int)))], Blk.mk (Let.n (ns 24)) (.row (67 : Nat) (11 : Nat) (m + (1 : Nat)) (Let.n (ns 25)) (xs ++ [.int .i64 (Let.i (ns (2 : Nat))), .int .i64 (Let.i (ns (3 : Nat))), .int .i64 (Let.i (ns (4 : Nat))), .int .i64 (Let.i (ns (5 : Nat))), .slice (some (Addr.mk (Let.n (ns (15 : Nat))) (0 : Nat) none)) (List.length ix) (Let.n (ns (16 : Nat))), .slice (some (Addr.mk (Let.n (ns (18 : Nat))) (0 : Nat) none)) (List.length e) (Let.n (ns (19 : Nat))), .slice (some (Addr.mk (Let.n (ns (21 : Nat))) (0 : Nat) none)) (List.length f) (Let.n (ns (22 : Nat))), .int .i64 (Let.i (ns (9 : Nat))), .int .i64 (Let.i (ns (10 : Nat))), .int .i64 (Let.i (ns (11 : Nat))), .int .i64 (Let.i (ns (12 : Nat)))])) true :: Blk.mk (Let.n (ns 23)) (.obj (.cells (Array.mk [.int .i64 (Let.i (ns (2
 : Nat))), .int .i64 (Let.i (ns (3 : Nat))), .int .i64 (Let.i (ns (4 : Nat))), .int .i64 (Let.i (ns (5 : Nat))), .slice (some (Addr.mk (Let.n (ns (15 : Nat))) (0 : Nat) none)) (List.length ix) (Let.n (ns (16 : Nat))), .slice (some (Addr.mk (Let.n (ns (18 : Nat))) (0 : Nat) none)) (List.length e) (Let.n (ns (19 : Nat))), .slice (some (Addr.mk (Let.n (ns (21 : Nat))) (0 : Nat) none)) (List.length f) (Let.n (ns (22 : Nat))), .int .i64 (Let.i (ns (9 : Nat))), .int .i64 (Let.i (ns (10 : Nat))), .int .i64 (Let.i (ns (11 : Nat))), .int .i64 (Let.i (ns (12 : Nat)))]) (67 : Nat))) true :: Blk.mk (Let.n (ns 21)) (.row (114 : Nat) (4 : Nat) (List.length f) (Let.n (ns 22)) (ndsV f)) true :: Blk.mk (Let.n (ns 18)) (.row (114 : Nat) (4 : Nat) (List.length e) (Let.n (ns (19 : Nat))) (ndsV e)) true :: Blk.mk (Let.n (ns (15 : Nat))) (.row (114 : Nat) (4 : Nat) (List.length ix) (Let.n (ns (16 : Nat))) (ndsV ix)) true :: Blk.mk (Let.n (ns (13 : Nat))) (.obj (.cells (Array.mk [.int .i64 (Let.i (ns (2 :
 Nat))), .int .i64 (Let.i (ns (3 : Nat))), .int .i64 (Let.i (ns (4 : Nat))), .int .i64 (Let.i (ns (5 : Nat))), .slice (some (Addr.mk (Let.n (ns (15 : Nat))) (0 : Nat) none)) (List.length ix) (Let.n (ns (16 : Nat))), .slice (some (Addr.mk (Let.n (ns (18 : Nat))) (0 : Nat) none)) (List.length e) (Let.n (ns (19 : Nat))), .slice (some (Addr.mk (Let.n (ns (21 : Nat))) (0 : Nat) none)) (List.length f) (Let.n (ns (22 : Nat))), .int .i64 (Let.i (ns (9 : Nat))), .int .i64 (Let.i (ns (10 : Nat))), .int .i64 (Let.i (ns (11 : Nat))), .int .i64 (Let.i (ns (12 : Nat)))]) (67 : Nat))) true :: Blk.mk p1 (.obj (.cells (Array.mk [.int .i64 cells, tv]) (27 : Nat))) true :: Blk.mk p5 (.obj (.cells (Array.mk [.int .i64 loc, .slice (some (Addr.mk (Let.n (ns (24 : Nat))) (0 : Nat) none)) (m + (1 : Nat)) (Let.n (ns (25 : Nat)))]) (37 : Nat))) true :: TL))))))))))))))))))))))))))))))))))))))))) (.leaf (Exit.exit (2 : Nat), (73 : Nat), [.pointer (some (Addr.mk p1 0 none)), .pointer (some (Addr.mk p2 0 none)),
 .pointer (some (Addr.mk p3 0 none)), .int .i64 (Int.ofNat i), .pointer (some (Addr.mk p5 0 none)), .int .i64 (Int.ofNat k)], Blk.mk p1 (.obj (.cells (Array.mk [.int .i64 cells, tv]) (27 : Nat))) true :: Blk.mk p5 (.obj (.cells (Array.mk [.int .i64 loc, .slice (some (Addr.mk g 0 none)) m cap]) (37 : Nat))) true :: Blk.mk g (.row (67 : Nat) (11 : Nat) m cap xs) true :: TL))))))

theorem ca_run (B : List (Nat × Sy.Cont)) (TL : List Blk) (p1 p2 p3 p5 g cap m : Nat) (xs : List Value) (tv : Value) (ix e f : List NodeD) (i k : Nat) (cells loc : Int) (h : Nat → Value) : Sy.Ran (Sy.pieceT Try.prog (ctxCA B ix e f) 50 fCopy bodyCA 73 (slCA p1 p2 p3 p5 i k) ((List.range 73).map h) ((memCA p1 p5 cells loc tv (.slice (some ⟨g, 0, none⟩) m cap)).map Sy.ownOf ++ ⟨g, .row 67 11 m cap xs, true⟩ :: TL) [1, 2, 3, 4, 5, 6]) ca_o (ca_R B TL p1 p2 p3 p5 g cap m xs tv ix e f i k cells loc h) := ⟨fun ns => by kernel_rfl, fun ns => by kernel_rfl⟩
def cb_o : Sy.O := (Sy.O.pack 7 0x44108000 (Sy.O.fork (Sy.O.pack 71 0x70800100000000001800500003080a10800018000104040840000800004201842000020080020844108000 Sy.O.nil) Sy.O.nil))
noncomputable def cb_R (B : List (Nat × Sy.Cont)) (TL : List Blk) (p1 : Nat) (p2 : Nat) (p3 : Nat) (p5 : Nat) (tv : Value) (ix : List NodeD) (e : List NodeD) (f : List NodeD) (i : Nat) (k : Nat) (cells : Int) (loc : Int) (h : Nat → Value) (ns : Nat → Sy.Let) : Sy.Res (Exit × Nat × List Value × List Blk) := .need ((∃ (n : Nat), ∃ (c : Nat), tv = Value.slice (some (Addr.mk (Sy.ptrS tv) (Sy.offS tv) none)) n c) ∧ (0 : Int) ≤ Int.ofNat i ∧ Int.ofNat i < (↑(Sy.lenS tv) : Int)) (.need (∃ (v : Value), HasL TL (Sy.ptrS tv) (Nat.succ (Sy.offS tv + Int.toNat (Int.ofNat i) * (2 : Nat))) v) (.hyp (∀ (u : Value), HasL TL (Sy.ptrS tv) (Nat.succ (Sy.offS tv + Int.toNat (Int.ofNat i) * (2 : Nat))) u → u = Let.v (ns 0)) (.need (∃ (p : Option Addr), ∃ (n : Nat), ∃ (c : Nat), Let.v (ns 0) = Value.slice p n c) (.br (Ex.ltQ (Int.ofNat k) (Int.ofNat (Sy.lenS (Let.v (ns 0))))) (.need ((∃ (n : Nat), ∃ (c : Nat), tv = Value.slice (some (Addr.mk (Sy.ptrS tv) (Sy.offS tv) none)) n c) ∧ (0 : Int) ≤ Int.ofNat i ∧ Int.ofNat i < (↑(Sy.lenS tv) : Int)) (.need (∃ (v : Value), HasL TL (Sy.ptrS tv) (Nat.succ (Sy.offS tv + Int.toNat (Int.ofNat i) * (2 : Nat))) v) (.hyp (∀ (u : Value), HasL TL (Sy.ptrS tv) (Nat.succ (Sy.offS tv + Int.toNat (Int.ofNat i) * (2 : Nat))) u → u = Let.v (ns 1)) (.need ((∃ (n : Nat), ∃ (c : Nat),
 Let.v (ns 1) = Value.slice (some (Addr.mk (Sy.ptrS (Let.v (ns 1))) (Sy.offS (Let.v (ns 1))) none)) n c) ∧ (0 : Int) ≤ Int.ofNat k ∧ Int.ofNat k < (↑(Sy.lenS (Let.v (ns 1))) : Int)) (.need (∃ (i : Int), HasL TL (Sy.ptrS (Let.v (ns 1))) (Sy.offS (Let.v (ns 1)) + Int.toNat (Int.ofNat k) * (11 : Nat)) (.int .i64 i)) (.hyp (∀ (u : Value), HasL TL (Sy.ptrS (Let.v (ns 1))) (Sy.offS (Let.v (ns 1)) + Int.toNat (Int.ofNat k) * (11 : Nat)) u → u = Value.int .i64 (Let.i (ns 2))) (.need (∃ (i : Int), HasL TL (Sy.ptrS (Let.v (ns 1))) (Sy.offS (Let.v (ns 1)) + Int.toNat (Int.ofNat k) * (11 : Nat) + (1 : Nat)) (.int .i64 i)) (.hyp (∀ (u : Value), HasL TL (Sy.ptrS (Let.v (ns 1))) (Sy.offS (Let.v (ns 1)) + Int.toNat (Int.ofNat k) * (11 : Nat) + (1 : Nat)) u → u = Value.int .i64 (Let.i (ns 3))) (.need (∃ (i : Int), HasL TL (Sy.ptrS (Let.v (ns 1))) (Sy.offS (Let.v (ns 1)) + Int.toNat (Int.ofNat k) * (11 : Nat) + (1 : Nat) + (1 : Nat)) (.int .i64 i)) (.hyp (∀ (u : Value), HasL TL (Sy.ptrS (Let.v (ns 1)))
 (Sy.offS (Let.v (ns 1)) + Int.toNat (Int.ofNat k) * (11 : Nat) + (1 : Nat) + (1 : Nat)) u → u = Value.int .i64 (Let.i (ns 4))) (.need (∃ (i : Int), HasL TL (Sy.ptrS (Let.v (ns 1))) (Sy.offS (Let.v (ns 1)) + Int.toNat (Int.ofNat k) * (11 : Nat) + (1 : Nat) + (1 : Nat) + (1 : Nat)) (.int .i64 i)) (.hyp (∀ (u : Value), HasL TL (Sy.ptrS (Let.v (ns 1))) (Sy.offS (Let.v (ns 1)) + Int.toNat (Int.ofNat k) * (11 : Nat) + (1 : Nat) + (1 : Nat) + (1 : Nat)) u → u = Value.int .i64 (Let.i (ns 5))) (.need (∃ (v : Value), HasL TL (Sy.ptrS (Let.v (ns 1))) (Sy.offS (Let.v (ns 1)) + Int.toNat (Int.ofNat k) * (11 : Nat) + (1 : Nat) + (1 : Nat) + (1 : Nat) + (1 : Nat)) v) (.hyp (∀ (u : Value), HasL TL (Sy.ptrS (Let.v (ns 1))) (Sy.offS (Let.v (ns 1)) + Int.toNat (Int.ofNat k) * (11 : Nat) + (1 : Nat) + (1 : Nat) + (1 : Nat) + (1 : Nat)) u → u = Let.v (ns 6)) (.need (∃ (v : Value), HasL TL (Sy.ptrS (Let.v (ns 1))) (Sy.offS (Let.v (ns 1)) + Int.toNat (Int.ofNat k) * (11 : Nat) + (1 : Nat) + (1 : Nat) + (1 :
 Nat) + (1 : Nat) + (1 : Nat)) v) (.hyp (∀ (u : Value), HasL TL (Sy.ptrS (Let.v (ns 1))) (Sy.offS (Let.v (ns 1)) + Int.toNat (Int.ofNat k) * (11 : Nat) + (1 : Nat) + (1 : Nat) + (1 : Nat) + (1 : Nat) + (1 : Nat)) u → u = Let.v (ns 7)) (.need (∃ (v : Value), HasL TL (Sy.ptrS (Let.v (ns 1))) (Sy.offS (Let.v (ns 1)) + Int.toNat (Int.ofNat k) * (11 : Nat) + (1 : Nat) + (1 : Nat) + (1 : Nat) + (1 : Nat) + (1 : Nat) + (1 : Nat)) v) (.hyp (∀ (u : Value), HasL TL (Sy.ptrS (Let.v (ns 1))) (Sy.offS (Let.v (ns 1)) + Int.toNat (Int.ofNat k) * (11 : Nat) + (1 : Nat) + (1 : Nat) + (1 : Nat) + (1 : Nat) + (1 : Nat) + (1 : Nat)) u → u = Let.v (ns 8)) (.need (∃ (i : Int), HasL TL (Sy.ptrS (Let.v (ns 1))) (Sy.offS (Let.v (ns 1)) + Int.toNat (Int.ofNat k) * (11 : Nat) + (1 : Nat) + (1 : Nat) + (1 : Nat) + (1 : Nat) + (1 : Nat) + (1 : Nat) + (1 : Nat)) (.int .i64 i)) (.hyp (∀ (u : Value), HasL TL (Sy.ptrS (Let.v (ns 1))) (Sy.offS (Let.v (ns 1)) + Int.toNat (Int.ofNat k) * (11 : Nat) + (1 : Nat) + (1 : Nat)
 + (1 : Nat) + (1 : Nat) + (1 : Nat) + (1 : Nat) + (1 : Nat)) u → u = Value.int .i64 (Let.i (ns 9))) (.need (∃ (i : Int), HasL TL (Sy.ptrS (Let.v (ns 1))) (Sy.offS (Let.v (ns 1)) + Int.toNat (Int.ofNat k) * (11 : Nat) + (1 : Nat) + (1 : Nat) + (1 : Nat) + (1 : Nat) + (1 : Nat) + (1 : Nat) + (1 : Nat) + (1 : Nat)) (.int .i64 i)) (.hyp (∀ (u : Value), HasL TL (Sy.ptrS (Let.v (ns 1))) (Sy.offS (Let.v (ns 1)) + Int.toNat (Int.ofNat k) * (11 : Nat) + (1 : Nat) + (1 : Nat) + (1 : Nat) + (1 : Nat) + (1 : Nat) + (1 : Nat) + (1 : Nat) + (1 : Nat)) u → u = Value.int .i64 (Let.i (ns 10))) (.need (∃ (i : Int), HasL TL (Sy.ptrS (Let.v (ns 1))) (Sy.offS (Let.v (ns 1)) + Int.toNat (Int.ofNat k) * (11 : Nat) + (1 : Nat) + (1 : Nat) + (1 : Nat) + (1 : Nat) + (1 : Nat) + (1 : Nat) + (1 : Nat) + (1 : Nat) + (1 : Nat)) (.int .i64 i)) (.hyp (∀ (u : Value), HasL TL (Sy.ptrS (Let.v (ns 1))) (Sy.offS (Let.v (ns 1)) + Int.toNat (Int.ofNat k) * (11 : Nat) + (1 : Nat) + (1 : Nat) + (1 : Nat) + (1 : Nat) + (1 :
 Nat) + (1 : Nat) + (1 : Nat) + (1 : Nat) + (1 : Nat)) u → u = Value.int .i64 (Let.i (ns 11))) (.need (∃ (i : Int), HasL TL (Sy.ptrS (Let.v (ns 1))) (Sy.offS (Let.v (ns 1)) + Int.toNat (Int.ofNat k) * (11 : Nat) + (1 : Nat) + (1 : Nat) + (1 : Nat) + (1 : Nat) + (1 : Nat) + (1 : Nat) + (1 : Nat) + (1 : Nat) + (1 : Nat) + (1 : Nat)) (.int .i64 i)) (.hyp (∀ (u : Value), HasL TL (Sy.ptrS (Let.v (ns 1))) (Sy.offS (Let.v (ns 1)) + Int.toNat (Int.ofNat k) * (11 : Nat) + (1 : Nat) + (1 : Nat) + (1 : Nat) + (1 : Nat) + (1 : Nat) + (1 : Nat) + (1 : Nat) + (1 : Nat) + (1 : Nat) + (1 : Nat)) u → u = Value.int .i64 (Let.i (ns 12))) (.need ((11 : Nat) = (11 : Nat) ∧ (11 : Nat) = (11 : Nat) ∧ Array.all (Array.mk [.int .i64 (Let.i (ns 2)), .int .i64 (Let.i (ns 3)), .int .i64 (Let.i (ns 4)), .int .i64 (Let.i (ns 5)), Let.v (ns 6), Let.v (ns 7), Let.v (ns 8), .int .i64 (Let.i (ns 9)), .int .i64 (Let.i (ns 10)), .int .i64 (Let.i (ns 11)), .int .i64 (Let.i (ns 12))]) (fun (x : Value) => Value.oneCell' x) (0
 : Nat) (11 : Nat) = true) (.need (.slice (some (Addr.mk (Let.n (ns 14)) (0 : Nat) none)) (0 : Nat) (0 : Nat) = Value.slice (some (Addr.mk (Let.n (ns 14)) (0 : Nat) none)) (0 : Nat) (0 : Nat) ∧ OkX B (Let.v (ns 6)) ix) (.need (Sy.GotL TL B) (.hyp (Nat.le (List.length ix) (Let.n (ns 16))) (.need (.slice (some (Addr.mk (Let.n (ns 17)) 0 none)) (0 : Nat) (0 : Nat) = Value.slice (some (Addr.mk (Let.n (ns 17)) 0 none)) (0 : Nat) (0 : Nat) ∧ OkX B (Let.v (ns 7)) e) (.need (Sy.GotL TL B) (.hyp (Nat.le (List.length e) (Let.n (ns 19))) (.need (.slice (some (Addr.mk (Let.n (ns 20)) 0 none)) (0 : Nat) (0 : Nat) = Value.slice (some (Addr.mk (Let.n (ns 20)) 0 none)) (0 : Nat) (0 : Nat) ∧ OkX B (Let.v (ns 8)) f) (.need (Sy.GotL TL B) (.hyp (Nat.le (List.length f) (Let.n (ns 22))) (.hyp (Nat.le (1 : Nat) (Let.n (ns 25))) (.leaf (Exit.normal, (73 : Nat), [.pointer (some (Addr.mk p1 (0 : Nat) none)), .pointer (some (Addr.mk p2 (0 : Nat) none)), .pointer (some (Addr.mk p3 (0 : Nat) none)), .int .i64
 (Int.ofNat i), .pointer (some (Addr.mk p5 (0 : Nat) none)), .int .i64 (Ex.wrapQ .i64 (Ex.addQ (Int.ofNat k) (1 : Int)))], Blk.mk (Let.n (ns 24)) (.row (67 : Nat) (11 : Nat) (1 : Nat) (Let.n (ns 25)) [.int .i64 (Let.i (ns 2)), .int .i64 (Let.i (ns 3)), .int .i64 (Let.i (ns 4)), .int .i64 (Let.i (ns 5)), .slice (some (Addr.mk (Let.n (ns 15)) 0 none)) (List.length ix) (Let.n (ns 16)), .slice (some (Addr.mk (Let.n (ns 18)) 0 none)) (List.length e) (Let.n (ns 19)), .slice (some (Addr.mk (Let.n (ns 21)) 0 none)) (List.length f) (Let.n (ns 22)), .int .i64 (Let.i (ns 9)), .int .i64 (Let.i (ns 10)), .int .i64 (Let.i (ns 11)), .int .i64 (Let.i (ns 12))]) true :: Blk.mk (Let.n (ns 23)) (.obj (.cells (Array.mk [.int .i64 (Let.i (ns (2 : Nat))), .int .i64 (Let.i (ns (3 : Nat))), .int .i64 (Let.i (ns (4 : Nat))), .int .i64 (Let.i (ns (5 : Nat))), .slice (some (Addr.mk (Let.n (ns (15 : Nat))) (0 : Nat) none)) (List.length ix) (Let.n (ns (16 : Nat))), .slice (some (Addr.mk (Let.n (ns (18 : Nat))) (0 :
 Nat) none)) (List.length e) (Let.n (ns (19 : Nat))), .slice (some (Addr.mk (Let.n (ns (21 : Nat))) (0 : Nat) none)) (List.length f) (Let.n (ns (22 : Nat))), .int .i64 (Let.i (ns (9 : Nat))), .int .i64 (Let.i (ns (10 : Nat))), .int .i64 (Let.i (ns (11 : Nat))), .int .i64 (Let.i (ns (12 : Nat)))]) (67 : Nat))) true :: Blk.mk (Let.n (ns 21)) (.row (114 : Nat) (4 : Nat) (List.length f) (Let.n (ns 22)) (ndsV f)) true :: Blk.mk (Let.n (ns 18)) (.row (114 : Nat) (4 : Nat) (List.length e) (Let.n (ns 19)) (ndsV e)) true :: Blk.mk (Let.n (ns 15)) (.row (114 : Nat) (4 : Nat) (List.length ix) (Let.n (ns 16)) (ndsV ix)) true :: Blk.mk (Let.n (ns 13)) (.obj (.cells (Array.mk [.int .i64 (Let.i (ns (2 : Nat))), .int .i64 (Let.i (ns (3 : Nat))), .int .i64 (Let.i (ns (4 : Nat))), .int .i64 (Let.i (ns (5 : Nat))), .slice (some (Addr.mk (Let.n (ns (15 : Nat))) (0 : Nat) none)) (List.length ix) (Let.n (ns (16 : Nat))), .slice (some (Addr.mk (Let.n (ns (18 : Nat))) (0 : Nat) none)) (List.length e) (Let.n (ns
 (19 : Nat))), .slice (some (Addr.mk (Let.n (ns (21 : Nat))) (0 : Nat) none)) (List.length f) (Let.n (ns (22 : Nat))), .int .i64 (Let.i (ns (9 : Nat))), .int .i64 (Let.i (ns (10 : Nat))), .int .i64 (Let.i (ns (11 : Nat))), .int .i64 (Let.i (ns (12 : Nat)))]) (67 : Nat))) true :: Blk.mk p1 (.obj (.cells (Array.mk [.int .i64 cells, tv]) (27 : Nat))) true :: Blk.mk p5 (.obj (.cells (Array.mk [.int .i64 loc, .slice (some (Addr.mk (Let.n (ns (24 : Nat))) (0 : Nat) none)) (1 : Nat) (Let.n (ns (25 : Nat)))]) (37 : Nat))) true :: TL))))))))))))))))))))))))))))))))))))))) (.leaf (Exit.exit (2 : Nat), (73 : Nat), [.pointer (some (Addr.mk p1 0 none)), .pointer (some (Addr.mk p2 0 none)), .pointer (some (Addr.mk p3 0 none)), .int .i64 (Int.ofNat i), .pointer (some (Addr.mk p5 0 none)), .int .i64 (Int.ofNat k)], Blk.mk p1 (.obj (.cells (Array.mk [.int .i64 cells, tv]) (27 : Nat))) true :: Blk.mk p5 (.obj (.cells (Array.mk [.int .i64 loc, .slice none (0 : Nat) (0 : Nat)]) (37 : Nat))) true ::
 TL))))))

theorem cb_run (B : List (Nat × Sy.Cont)) (TL : List Blk) (p1 p2 p3 p5 : Nat) (tv : Value) (ix e f : List NodeD) (i k : Nat) (cells loc : Int) (h : Nat → Value) : Sy.Ran (Sy.pieceT Try.prog (ctxCA B ix e f) 50 fCopy bodyCA 73 (slCA p1 p2 p3 p5 i k) ((List.range 73).map h) ((memCA p1 p5 cells loc tv (.slice none 0 0)).map Sy.ownOf ++ TL) [1, 2, 3, 4, 5, 6]) cb_o (cb_R B TL p1 p2 p3 p5 tv ix e f i k cells loc h) := ⟨fun ns => by kernel_rfl, fun ns => by kernel_rfl⟩

end Go.Proofs.Ytbgmkefehfjicaa

/-
  Bundles that are handed back: how they are told by letters; blocks told otherwise.
-/
namespace Go.Proofs.Ytbgmkefehfjicaa
open Go Go.RowKit
open Sy (Let Blk HasL)

/-- Blocks, one by one, told otherwise. -/
def Sim : List Blk → List Blk → Prop
  | [], [] => True
  | a :: A, b :: B => (b.nm = a.nm ∧ b.own = a.own ∧ ∀ h, a.ct.sat h → b.ct.sat h) ∧ Sim A B
  | _, _ => False

theorem Sim.refl : ∀ A : List Blk, Sim A A
  | [] => trivial
  | _ :: A => ⟨⟨rfl, rfl, fun _ h => h⟩, Sim.refl A⟩
theorem Sim.mem : ∀ {A B : List Blk}, Sim A B → ∀ b ∈ B, ∃ a ∈ A, b.nm = a.nm ∧ b.own = a.own ∧ ∀ h, a.ct.sat h → b.ct.sat h
  | [], [], _, b, hb => by cases hb
  | a :: A, b :: B, ⟨h1, h2⟩, c, hc => by
    rcases List.mem_cons.1 hc with rfl | hc
    · exact ⟨a, List.mem_cons_self, h1⟩
    · obtain ⟨x, hx, h⟩ := Sim.mem h2 c hc
      exact ⟨x, List.mem_cons_of_mem _ hx, h⟩
  | [], _ :: _, h, _, _ => h.elim
  | _ :: _, [], h, _, _ => h.elim
theorem Sim.far : ∀ {A B : List Blk}, Sim A B → A.Pairwise Sy.Far → B.Pairwise Sy.Far
  | [], [], _, _ => List.Pairwise.nil
  | a :: A, b :: B, ⟨⟨h1, h2, _⟩, hs⟩, hp => by
    rw [List.pairwise_cons] at hp ⊢
    refine ⟨fun c hc ho => ?_, Sim.far hs hp.2⟩
    obtain ⟨x, hx, e1, e2, -⟩ := Sim.mem hs c hc
    rw [h1, e1]
    rw [h2, e2] at ho
    exact hp.1 x hx ho
  | [], _ :: _, h, _ => h.elim
  | _ :: _, [], h, _ => h.elim
theorem ent_sim {A B : List Blk} (h : Sim A B) : Sy.Ent A B := fun w0 keep W hr => by
  refine ⟨hr.os, hr.tape, hr.output, hr.size, hr.old, fun p hp => ?_, h.far hr.far⟩
  obtain ⟨a, ha, e1, e2, e3⟩ := h.mem p hp
  rw [e1, e2]
  exact ⟨e3 _ (hr.blk a ha).1, (hr.blk a ha).2⟩

/-- Rows that are new: their numbers, their cells. -/
abbrev Bn := List (Nat × List Value)
def segB (N : Bn) : List (Nat × Sy.Cont) := N.map fun p => (p.1, .seg 0 p.2)
def encB (N : Bn) : List Value := N.map fun p => .agg (Value.pointer (some ⟨p.1, 0, none⟩) :: p.2).toArray
def decV : Value → Nat × List Value
  | .agg cs => match cs.toList with
    | .pointer (some ⟨b, _, _⟩) :: r => (b, r)
    | _ => (0, [])
  | _ => (0, [])
def decN (l : List Value) : Bn := l.map decV
def decB (l : List Value) : List (Nat × Sy.Cont) := segB (decN l)
theorem dec_enc (N : Bn) : decB (encB N) = segB N := by
  have : decN (encB N) = N := by
    unfold decN encB
    rw [List.map_map]
    exact List.map_id'' (fun p => rfl) N
  unfold decB
  rw [this]
def ownB (N : Bn) : List Blk := N.map fun p => ⟨p.1, .seg 0 p.2, true⟩
theorem ownB_eq (N : Bn) : (segB N).map Sy.ownOf = ownB N := by
  unfold segB ownB
  rw [List.map_map]
  rfl

theorem row_seg {e : TypeId} {size n cap : Nat} {xs : List Value} {h : Option Obj} (hs : (Sy.Cont.row e size n cap xs).sat h) : (Sy.Cont.seg 0 xs).sat h := Sy.Cont.sat_seg hs

/-- What a new row holds is held by the bundle that has it. -/
theorem hasL_own {N : Bn} {g : Nat} {xs : List Value} (h : (g, xs) ∈ N) {j : Nat} {u : Value} (hu : xs[j]? = some u) : HasL (rdOf (segB N)) g j u := by
  refine ⟨⟨g, .seg 0 xs, false⟩, List.mem_map.2 ⟨(g, .seg 0 xs), List.mem_map.2 ⟨_, h, rfl⟩, rfl⟩, rfl, ?_⟩
  simp [Sy.Cont.at, hu]

theorem leB_cons (p : Nat × List Value) (N : Bn) : LeB (segB N) (segB (p :: N)) := fun b o v ⟨q, hq, h⟩ => ⟨q, by
  simp only [segB, rdOf, List.map_cons, List.mem_cons]
  exact .inr hq, h⟩
theorem leB_app_left (M N : Bn) : LeB (segB M) (segB (M ++ N)) := by
  unfold segB
  rw [List.map_append]
  exact leB_left _ _
theorem leB_app_right (M N : Bn) : LeB (segB N) (segB (M ++ N)) := by
  unfold segB
  rw [List.map_append]
  exact leB_right _ _
theorem LeB.refl (B : List (Nat × Sy.Cont)) : LeB B B := fun _ _ _ h => h
theorem LeB.trans {A B C : List (Nat × Sy.Cont)} (h : LeB A B) (h' : LeB B C) : LeB A C := fun b o v x => h' b o v (h b o v x)

/-- A new row of nodes. -/
theorem nodes_new {N : Bn} {g cap : Nat} {l : List NodeD} (h : (g, ndsV l) ∈ N) (hl : l.length < 4398046511104) : OkX (segB N) (.slice (some ⟨g, 0, none⟩) l.length cap) l := by
  have key : ∀ i n, l[i]? = some n → ∀ j u, (ndV n)[j]? = some u → HasL (rdOf (segB N)) g (0 + i * 4 + j) u := fun i n hn j u hu => by
    have hj : j < 4 := (List.getElem?_eq_some_iff.1 hu).1
    have := flatc_at (f := ndV) (sz := 4) (fun _ => rfl) hn j hj
    rw [hu] at this
    rw [Nat.zero_add]
    exact hasL_own h this
  exact ⟨⟨⟨_, _, _, rfl⟩, rfl, fun _ => ⟨_, _, rfl⟩, fun i n hn => key i n hn 0 _ rfl, fun i n hn => key i n hn 1 _ rfl, fun i n hn => key i n hn 2 _ rfl, fun i n hn => key i n hn 3 _ rfl⟩, hl⟩

/-- An act that is copied: what it is, where its nodes are now. -/
structure DoneA where
  a : ActD
  iv : Value
  ev : Value
  fv : Value
def DoneA.cells (d : DoneA) : List Value := [.int .i64 d.a.op, .int .i64 d.a.dst, .int .i64 d.a.base, .int .i64 d.a.size, d.iv, d.ev, d.fv, .int .i64 d.a.mode, .int .i64 d.a.to, .int .i64 d.a.line, .int .i64 d.a.col]
def DoneA.ok (B : List (Nat × Sy.Cont)) (d : DoneA) : Prop := OkX B d.iv d.a.ix ∧ OkX B d.ev d.a.e ∧ OkX B d.fv d.a.f

theorem DoneA.mono {B C : List (Nat × Sy.Cont)} (h : LeB B C) {d : DoneA} (hd : d.ok B) : d.ok C := ⟨okX_mono h hd.1, okX_mono h hd.2.1, okX_mono h hd.2.2⟩

/-- A new row of acts. -/
theorem acts_new {N : Bn} {g cap : Nat} {D : List DoneA} (h : (g, D.flatMap DoneA.cells) ∈ N) (hD : ∀ d ∈ D, d.ok (segB N)) (hl : D.length < 1034834473200) : ActsR (segB N) (.slice (some ⟨g, 0, none⟩) D.length cap) (D.map (·.a)) := by
  have key : ∀ i d, D[i]? = some d → ∀ j u, d.cells[j]? = some u → HasL (rdOf (segB N)) g (0 + i * 11 + j) u := fun i d hd j u hu => by
    have hj : j < 11 := (List.getElem?_eq_some_iff.1 hu).1
    have := flatc_at (f := DoneA.cells) (sz := 11) (fun _ => rfl) hd j hj
    rw [hu] at this
    rw [Nat.zero_add]
    exact hasL_own h this
  refine ⟨⟨_, _, _, rfl⟩, by simp [Sy.lenS], fun _ => ⟨_, _, rfl⟩, fun i a ha => ?_, by simpa using hl⟩
  rw [List.getElem?_map] at ha
  cases hd : D[i]? with
  | none => rw [hd] at ha; cases ha
  | some d =>
    rw [hd] at ha
    simp only [Option.map_some, Option.some.injEq] at ha
    subst ha
    have k := key i d hd
    have ho := hD d (List.mem_of_getElem? hd)
    exact ⟨d.iv, d.ev, d.fv, k 0 _ rfl, k 1 _ rfl, k 2 _ rfl, k 3 _ rfl, k 4 _ rfl, k 5 _ rfl, k 6 _ rfl, k 7 _ rfl, k 8 _ rfl, k 9 _ rfl, k 10 _ rfl, ho.1, ho.2.1, ho.2.2⟩

theorem acts_nil (B : List (Nat × Sy.Cont)) : ActsR B (.slice none 0 0) [] := ⟨⟨_, _, _, rfl⟩, rfl, fun h => absurd rfl h, fun i a h => by simp at h, by simp⟩

/-- A thread that is copied. -/
structure DoneT where
  t : ThreadD
  av : Value
def DoneT.cells (d : DoneT) : List Value := [.int .i64 d.t.locals, d.av]
def DoneT.ok (B : List (Nat × Sy.Cont)) (d : DoneT) : Prop := ActsR B d.av d.t.acts
theorem DoneT.mono {B C : List (Nat × Sy.Cont)} (h : LeB B C) {d : DoneT} (hd : d.ok B) : d.ok C := actsR_mono h hd

theorem threads_new {N : Bn} {g cap : Nat} {D : List DoneT} (h : (g, D.flatMap DoneT.cells) ∈ N) (hD : ∀ d ∈ D, d.ok (segB N)) (hl : D.length < 4398046511104) : ThreadsR (segB N) (.slice (some ⟨g, 0, none⟩) D.length cap) (D.map (·.t)) := by
  have key : ∀ i d, D[i]? = some d → ∀ j u, d.cells[j]? = some u → HasL (rdOf (segB N)) g (0 + i * 2 + j) u := fun i d hd j u hu => by
    have hj : j < 2 := (List.getElem?_eq_some_iff.1 hu).1
    have := flatc_at (f := DoneT.cells) (sz := 2) (fun _ => rfl) hd j hj
    rw [hu] at this
    rw [Nat.zero_add]
    exact hasL_own h this
  refine ⟨⟨_, _, _, rfl⟩, by simp [Sy.lenS], fun _ => ⟨_, _, rfl⟩, fun i a ha => ?_, by simpa using hl⟩
  rw [List.getElem?_map] at ha
  cases hd : D[i]? with
  | none => rw [hd] at ha; cases ha
  | some d =>
    rw [hd] at ha
    simp only [Option.map_some, Option.some.injEq] at ha
    subst ha
    have k := key i d hd
    exact ⟨d.av, k 0 _ rfl, k 1 _ rfl, hD d (List.mem_of_getElem? hd)⟩
theorem threads_nil (B : List (Nat × Sy.Cont)) : ThreadsR B (.slice none 0 0) [] := ⟨⟨_, _, _, rfl⟩, rfl, fun h => absurd rfl h, fun i a h => by simp at h, by simp⟩

end Go.Proofs.Ytbgmkefehfjicaa

/-
  The reference: a copy of a program: the acts of a thread, the contract.
-/
namespace Go.Proofs.Ytbgmkefehfjicaa
open Go Go.RowKit
open Sy (Let Blk HasL)

structure StA where
  D : List DoneA
  g : Nat
  cap : Nat
  N : Bn
  a : ActD

def StA.row (s : StA) : List Blk := match s.D with
  | [] => []
  | _ :: _ => [⟨s.g, .row 67 11 s.D.length s.cap (s.D.flatMap DoneA.cells), true⟩]
def StA.aw (s : StA) : Value := match s.D with
  | [] => .slice none 0 0
  | _ :: _ => .slice (some ⟨s.g, 0, none⟩) s.D.length s.cap
def tailA (B : List (Nat × Sy.Cont)) (N : Bn) : List Blk := ownB N ++ rdOf B

/-- Where a slice begins. -/
def slP (v : Value) : Option Addr := match v with
  | .slice p _ _ => p
  | _ => none
def slC (v : Value) : Nat := match v with
  | .slice _ _ c => c
  | _ => 0
abbrev slV (v : Value) : Value := .slice (slP v) (Sy.lenS v) (slC v)
def zeroA : ActD := ⟨0, 0, 0, 0, [], [], [], 0, 0, 0, 0⟩
def outA (p1 p5 : Nat) (cells loc : Int) (tv : Value) (l : List ActD) : Sy.OutM :=
  ⟨fun ns => ActsR (decB (ns.getD 0 Let.none).l) (slV (ns.getD 0 Let.none).v) l, fun ns => memCA p1 p5 cells loc tv (slV (ns.getD 0 Let.none).v), fun ns => decB (ns.getD 0 Let.none).l⟩
noncomputable def loopCA (B : List (Nat × Sy.Cont)) (T : List ThreadD) (t : ThreadD) (p1 p2 p3 p5 : Nat) (tv : Value) (i : Nat) (cells : Int) : Sy.LoopC :=
  ⟨.loop bodyCA, 73, slCA p1 p2 p3 p5 i 0, ThreadsR B tv T ∧ T[i]? = some t, ⟨[], memCA p1 p5 cells t.locals tv (.slice none 0 0), 1, B⟩,
    [(outA p1 p5 cells t.locals tv t.acts, .exit 2, fun _ => [(1, .pointer (some ⟨p1, 0, none⟩)), (2, .pointer (some ⟨p2, 0, none⟩)), (3, .pointer (some ⟨p3, 0, none⟩)), (4, .int .i64 (Int.ofNat i)), (5, .pointer (some ⟨p5, 0, none⟩))])]⟩

theorem tail_leB (B : List (Nat × Sy.Cont)) (N : Bn) {b o : Nat} {v : Value} (h : HasL (rdOf B) b o v) : HasL (tailA B N) b o v := by
  obtain ⟨q, hq, h⟩ := h
  exact ⟨q, List.mem_append_right _ hq, h⟩
theorem got_tail (B : List (Nat × Sy.Cont)) (N : Bn) : Sy.GotL (tailA B N) B := gotL_of fun _ h => List.mem_append_right _ h

theorem one_int {k : IntKind} {i : Int} : (Value.int k i).oneCell' = true := rfl

/-- The next round's memory. -/
theorem entA {x0 x1 y0 y1 y2 r p q : Blk} {L : List Blk} {r' y0' y1' y2' : Blk} (h : Sim [p, q, r, y0, y1, y2] [p, q, r', y0', y1', y2']) : Sy.Ent (r :: x0 :: y0 :: y1 :: y2 :: x1 :: p :: q :: L) ([p, q, r', y0', y1', y2'] ++ L) := by
  refine Sy.Ent.trans (Sy.Ent.sub (B := [r, y0, y1, y2, p, q] ++ L) ?_) (Sy.Ent.trans (Sy.Ent.perm (B := [p, q, r, y0, y1, y2] ++ L) ?_) (ent_sim ?_))
  · exact List.Sublist.cons_cons _ (List.Sublist.cons _ (List.Sublist.cons_cons _ (List.Sublist.cons_cons _ (List.Sublist.cons_cons _ (List.Sublist.cons _ (List.Sublist.refl _))))))
  · exact (List.perm_append_comm (l₁ := [r, y0, y1, y2]) (l₂ := [p, q])).append_right L
  · obtain ⟨h1, h2, h3, h4, h5, h6, -⟩ := h
    exact ⟨h1, h2, h3, h4, h5, h6, Sim.refl L⟩

theorem row_same {e : TypeId} {size n n' cap : Nat} {xs xs' : List Value} {g : Nat} (hn : n' = n) (hx : xs' = xs) : (⟨g, .row e size n' cap xs', true⟩ : Blk).nm = g ∧ True ∧ ∀ h, (Sy.Cont.row e size n cap xs).sat h → (Sy.Cont.row e size n' cap xs').sat h := by
  subst hn hx
  exact ⟨rfl, trivial, fun _ h => h⟩

theorem take_next {α : Type} {l : List α} {n : Nat} {a : α} (h : l[n]? = some a) : l.take (n + 1) = l.take n ++ [a] := by
  rw [List.take_add_one, h]
  rfl

/-- The next state's facts. -/
structure OkAc (B : List (Nat × Sy.Cont)) (T : List ThreadD) (t : ThreadD) (tv : Value) (i : Nat) (s : StA) : Prop where
  thr : ThreadsR B tv T ∧ T[i]? = some t
  le : s.D.length ≤ t.acts.length
  pre : s.D.map (·.a) = t.acts.take s.D.length
  ok : ∀ d ∈ s.D, d.ok (segB s.N)
  cur : ∀ x, t.acts[s.D.length]? = some x → s.a = x

def nextD (a : ActD) (n15 n18 n21 c15 c18 c21 : Nat) : DoneA := ⟨a, .slice (some ⟨n15, 0, none⟩) a.ix.length c15, .slice (some ⟨n18, 0, none⟩) a.e.length c18, .slice (some ⟨n21, 0, none⟩) a.f.length c21⟩
def nextN (a : ActD) (n15 n18 n21 : Nat) (N : Bn) : Bn := (n21, ndsV a.f) :: (n18, ndsV a.e) :: (n15, ndsV a.ix) :: N

theorem okA_next {B : List (Nat × Sy.Cont)} {T : List ThreadD} {t : ThreadD} {tv : Value} {i : Nat} {D : List DoneA} {g cap : Nat} {N : Bn} {a : ActD} (h : OkAc B T t tv i ⟨D, g, cap, N, a⟩) (ha : t.acts[D.length]? = some a)
    (l1 : a.ix.length < 4398046511104) (l2 : a.e.length < 4398046511104) (l3 : a.f.length < 4398046511104) {g' cap' n15 n18 n21 c15 c18 c21 : Nat} :
    OkAc B T t tv i ⟨D ++ [nextD a n15 n18 n21 c15 c18 c21], g', cap', nextN a n15 n18 n21 N, t.acts.getD (D.length + 1) zeroA⟩ := by
  have hlt : D.length < t.acts.length := (List.getElem?_eq_some_iff.1 ha).1
  refine ⟨h.thr, by simp; omega, ?_, fun x hx => ?_, fun x hx => ?_⟩
  · have hD := h.pre
    simp only at hD
    simp only [List.map_append, List.length_append, List.length_cons, List.length_nil, hD, List.map_cons, List.map_nil, take_next ha, nextD, Nat.zero_add]
  · rcases List.mem_append.1 hx with hx | hx
    · exact DoneA.mono ((leB_cons _ _).trans ((leB_cons _ _).trans (leB_cons _ _))) (h.ok x hx)
    · rcases List.mem_singleton.1 hx with rfl
      exact ⟨nodes_new (by simp [nextN, nextD]) l1, nodes_new (by simp [nextN, nextD]) l2, nodes_new (by simp [nextN, nextD]) l3⟩
  · simp only [List.length_append, List.length_cons, List.length_nil, Nat.zero_add] at hx ⊢
    rw [List.getD_eq_getElem?_getD, hx]
    rfl

theorem flat_next (D : List DoneA) (d : DoneA) : (D ++ [d]).flatMap DoneA.cells = D.flatMap DoneA.cells ++ d.cells := by simp

theorem loopCA_met (B : List (Nat × Sy.Cont)) (T : List ThreadD) (t : ThreadD) (p1 p2 p3 p5 : Nat) (tv : Value) (i : Nat) (cells : Int) : Sy.MeetsL Try.prog (loopCA B T t p1 p2 p3 p5 tv i cells) := by
  refine Sy.loop_ofB (σ := StA) (S := fun s => ctxCA B s.a.ix s.a.e s.a.f) (n := 50) (fn := fCopy) (fun _ => ctxCA_holds _ _ _ _) mixed (body := bodyCA) rfl [1, 2, 3, 4, 5, 6] (fun s => slCA p1 p2 p3 p5 i s.D.length)
    (fun s => (memCA p1 p5 cells t.locals tv s.aw).map Sy.ownOf ++ (s.row ++ tailA B s.N))
    (OkAc B T t tv i)
    (fun s => t.acts.length - s.D.length)
    ⟨[], 0, 0, [], t.acts.getD 0 zeroA⟩ (fun h => ⟨h, Nat.zero_le _, rfl, fun d hd => (by cases hd), fun x hx => (by
      simp only [List.length_nil] at hx ⊢
      rw [List.getD_eq_getElem?_getD, hx]
      rfl)⟩) (fun p hp => hp) (Sy.Ent.refl _)
    (o := fun s => match s.D with | [] => cb_o | _ :: _ => ca_o)
    (R := fun s f => match s.D with
      | [] => cb_R B (tailA B s.N) p1 p2 p3 p5 tv s.a.ix s.a.e s.a.f i 0 cells t.locals f
      | _ :: _ => ca_R B (tailA B s.N) p1 p2 p3 p5 s.g s.cap s.D.length (s.D.flatMap DoneA.cells) tv s.a.ix s.a.e s.a.f i s.D.length cells t.locals f)
    (fun s f _ => by
      obtain ⟨D, g, cap, N, a⟩ := s
      cases D with
      | nil => exact cb_run B (tailA B N) p1 p2 p3 p5 tv a.ix a.e a.f i 0 cells t.locals f
      | cons d D => exact ca_run B (tailA B N) p1 p2 p3 p5 g cap (d :: D).length ((d :: D).flatMap DoneA.cells) tv a.ix a.e a.f i (d :: D).length cells t.locals f) ?_
  rintro - ⟨D, g, cap, N, a⟩ f hok ns
  obtain ⟨hT, ht⟩ := hok.thr
  have hil : i < T.length := (List.getElem?_eq_some_iff.1 ht).1
  have hTne : T ≠ [] := fun h => by rw [h] at hil; simp at hil
  obtain ⟨av, h0, h1, hA⟩ := hT.thr i t ht
  have pre1 : (∃ (n : Nat), ∃ (c : Nat), tv = Value.slice (some ⟨Sy.ptrS tv, Sy.offS tv, none⟩) n c) ∧ (0 : Int) ≤ Int.ofNat i ∧ Int.ofNat i < ((Sy.lenS tv : Nat) : Int) := ⟨hT.at_ hTne, by simp, by rw [hT.len]; simpa using hil⟩
  have tl : ∀ {b o : Nat} {v : Value}, HasL (rdOf B) b o v → HasL (tailA B N) b o v := fun h => tail_leB B N h
  have got : Sy.GotL (tailA B N) B := got_tail B N
  have hAlt := hA.lt
  cases D with
  | nil =>
    simp only [cb_R, Sy.Res.holds]
    refine ⟨pre1, ⟨_, tl h1⟩, fun e0 => ?_⟩
    have e0 := e0 _ (tl h1)
    rw [← e0]
    refine ⟨hA.sl, fun hlt => ?_, fun hge => ?_⟩
    · have hlt : 0 < t.acts.length := by rw [Ex.ltQ_eq, hA.len] at hlt; simpa using hlt
      obtain ⟨x, hx⟩ : ∃ x, t.acts[0]? = some x := ⟨_, List.getElem?_eq_getElem hlt⟩
      obtain rfl : a = x := hok.cur x hx
      have hane : t.acts ≠ [] := fun h => by rw [h] at hlt; simp at hlt
      obtain ⟨iv, ev, fv, hC⟩ := hA.act 0 a hx
      refine ⟨pre1, ⟨_, tl h1⟩, fun e1 => ?_⟩
      have e1 := e1 _ (tl h1)
      rw [← e1]
      refine ⟨⟨hA.at_ hane, by simp, by rw [hA.len]; simpa using hlt⟩, ⟨_, tl hC.op⟩, fun e0 => ⟨⟨_, tl hC.dst⟩, fun e1 => ⟨⟨_, tl hC.base⟩, fun e2 => ⟨⟨_, tl hC.size⟩, fun e3 => ⟨⟨_, tl hC.ivc⟩, fun e4 => ⟨⟨_, tl hC.evc⟩, fun e5 => ⟨⟨_, tl hC.fvc⟩, fun e6 => ⟨⟨_, tl hC.mode⟩, fun e7 => ⟨⟨_, tl hC.to⟩, fun e8 => ⟨⟨_, tl hC.line⟩, fun e9 => ⟨⟨_, tl hC.col⟩, fun e10 => ?_⟩⟩⟩⟩⟩⟩⟩⟩⟩⟩⟩
      have e0 := e0 _ (tl hC.op)
      have e1 := e1 _ (tl hC.dst)
      have e2 := e2 _ (tl hC.base)
      have e3 := e3 _ (tl hC.size)
      have e4 := e4 _ (tl hC.ivc)
      have e5 := e5 _ (tl hC.evc)
      have e6 := e6 _ (tl hC.fvc)
      have e7 := e7 _ (tl hC.mode)
      have e8 := e8 _ (tl hC.to)
      have e9 := e9 _ (tl hC.line)
      have e10 := e10 _ (tl hC.col)
      simp only [Value.int.injEq, true_and] at e0 e1 e2 e3 e7 e8 e9 e10
      rw [← e0, ← e1, ← e2, ← e3, ← e4, ← e5, ← e6, ← e7, ← e8, ← e9, ← e10]
      refine ⟨?_, ⟨trivial, hC.i⟩, got, fun _ => ⟨⟨trivial, hC.e⟩, got, fun _ => ⟨⟨trivial, hC.f⟩, got, fun _ hc => ?_⟩⟩⟩
      · obtain ⟨_, _, _, h1⟩ := hC.i.1.sl
        obtain ⟨_, _, _, h2⟩ := hC.e.1.sl
        obtain ⟨_, _, _, h3⟩ := hC.f.1.sl
        simp [h1, h2, h3, Value.oneCell']
      · refine ⟨rfl, .inl ⟨rfl, ⟨[] ++ [nextD a (ns 15).n (ns 18).n (ns 21).n (ns 16).n (ns 19).n (ns 22).n], (ns 24).n, (ns 25).n, nextN a (ns 15).n (ns 18).n (ns 21).n N, t.acts.getD (0 + 1) zeroA⟩, okA_next hok hx hC.i.2 hC.e.2 hC.f.2, ?_, ?_, ?_⟩⟩
        · show t.acts.length - ([nextD a (ns 15).n (ns 18).n (ns 21).n (ns 16).n (ns 19).n (ns 22).n]).length < t.acts.length - 0
          simp
          omega
        · rw [w_succ (k := 0) (by omega)]
          rfl
        · refine entA (r' := ⟨(ns 24).n, .row 67 11 1 (ns 25).n ((nextD a (ns 15).n (ns 18).n (ns 21).n (ns 16).n (ns 19).n (ns 22).n).cells ++ []), true⟩) (y0' := ⟨(ns 21).n, .seg 0 (ndsV a.f), true⟩) (y1' := ⟨(ns 18).n, .seg 0 (ndsV a.e), true⟩) (y2' := ⟨(ns 15).n, .seg 0 (ndsV a.ix), true⟩) (L := tailA B N) ?_
          exact ⟨⟨rfl, rfl, fun _ h => h⟩, ⟨rfl, rfl, fun _ h => h⟩, ⟨rfl, rfl, fun _ h => h⟩, ⟨rfl, rfl, fun _ h => row_seg h⟩, ⟨rfl, rfl, fun _ h => row_seg h⟩, ⟨rfl, rfl, fun _ h => row_seg h⟩, trivial⟩
    · have hl0 : t.acts = [] := by
        rw [Ex.ltQ_eq, hA.len] at hge
        exact List.eq_nil_of_length_eq_zero (Nat.eq_zero_of_not_pos fun h => of_decide_eq_false hge (Int.ofNat_lt.2 h))
      refine ⟨rfl, .inr ⟨by simp, _, List.mem_singleton_self _, rfl, [⟨0, 0, false, .slice none 0 0, []⟩], rfl, ⟨[0, 1, 2, 3, 4], rfl⟩, Sy.Ent.sub (List.sublist_append_left _ _), ?_⟩⟩
      show ActsR (decB []) (.slice none 0 0) t.acts
      rw [hl0]
      exact acts_nil _
  | cons d0 D0 =>
    have hlen : (d0 :: D0).length ≤ t.acts.length := hok.le
    have hflat : ∀ d, (d0 :: D0 ++ [d]).flatMap DoneA.cells = (d0 :: D0).flatMap DoneA.cells ++ d.cells := fun d => flat_next _ d
    simp only [ca_R, Sy.Res.holds]
    refine ⟨pre1, ⟨_, tl h1⟩, fun e0 => ?_⟩
    have e0 := e0 _ (tl h1)
    rw [← e0]
    refine ⟨hA.sl, fun hlt => ?_, fun hge => ?_⟩
    · have hlt : (d0 :: D0).length < t.acts.length := by rw [Ex.ltQ_eq, hA.len] at hlt; exact Int.ofNat_lt.1 (of_decide_eq_true hlt)
      obtain ⟨x, hx⟩ : ∃ x, t.acts[(d0 :: D0).length]? = some x := ⟨_, List.getElem?_eq_getElem hlt⟩
      obtain rfl : a = x := hok.cur x hx
      have hane : t.acts ≠ [] := fun h => by rw [h] at hlt; simp at hlt
      obtain ⟨iv, ev, fv, hC⟩ := hA.act _ a hx
      refine ⟨pre1, ⟨_, tl h1⟩, fun e1 => ?_⟩
      have e1 := e1 _ (tl h1)
      rw [← e1]
      refine ⟨⟨hA.at_ hane, Int.natCast_nonneg _, by rw [hA.len]; exact Int.ofNat_lt.2 hlt⟩, ⟨_, tl hC.op⟩, fun e0 => ⟨⟨_, tl hC.dst⟩, fun e1 => ⟨⟨_, tl hC.base⟩, fun e2 => ⟨⟨_, tl hC.size⟩, fun e3 => ⟨⟨_, tl hC.ivc⟩, fun e4 => ⟨⟨_, tl hC.evc⟩, fun e5 => ⟨⟨_, tl hC.fvc⟩, fun e6 => ⟨⟨_, tl hC.mode⟩, fun e7 => ⟨⟨_, tl hC.to⟩, fun e8 => ⟨⟨_, tl hC.line⟩, fun e9 => ⟨⟨_, tl hC.col⟩, fun e10 => ?_⟩⟩⟩⟩⟩⟩⟩⟩⟩⟩⟩
      have e0 := e0 _ (tl hC.op)
      have e1 := e1 _ (tl hC.dst)
      have e2 := e2 _ (tl hC.base)
      have e3 := e3 _ (tl hC.size)
      have e4 := e4 _ (tl hC.ivc)
      have e5 := e5 _ (tl hC.evc)
      have e6 := e6 _ (tl hC.fvc)
      have e7 := e7 _ (tl hC.mode)
      have e8 := e8 _ (tl hC.to)
      have e9 := e9 _ (tl hC.line)
      have e10 := e10 _ (tl hC.col)
      simp only [Value.int.injEq, true_and] at e0 e1 e2 e3 e7 e8 e9 e10
      rw [← e0, ← e1, ← e2, ← e3, ← e4, ← e5, ← e6, ← e7, ← e8, ← e9, ← e10]
      generalize hm : (d0 :: D0).length = m at *
      refine ⟨?_, ⟨trivial, hC.i⟩, got, fun _ => ⟨⟨trivial, hC.e⟩, got, fun _ => ⟨⟨trivial, hC.f⟩, got, fun _ => ⟨by omega, by omega, fun hc => ?_⟩⟩⟩⟩
      · obtain ⟨_, _, _, h1⟩ := hC.i.1.sl
        obtain ⟨_, _, _, h2⟩ := hC.e.1.sl
        obtain ⟨_, _, _, h3⟩ := hC.f.1.sl
        simp [h1, h2, h3, Value.oneCell']
      · subst hm
        refine ⟨rfl, .inl ⟨rfl, ⟨(d0 :: D0) ++ [nextD a (ns 15).n (ns 18).n (ns 21).n (ns 16).n (ns 19).n (ns 22).n], (ns 24).n, (ns 25).n, nextN a (ns 15).n (ns 18).n (ns 21).n N, t.acts.getD ((d0 :: D0).length + 1) zeroA⟩, okA_next hok hx hC.i.2 hC.e.2 hC.f.2, ?_, ?_, ?_⟩⟩
        · show t.acts.length - ((d0 :: D0) ++ [nextD a (ns 15).n (ns 18).n (ns 21).n (ns 16).n (ns 19).n (ns 22).n]).length < t.acts.length - (d0 :: D0).length
          rw [List.length_append, List.length_singleton]
          omega
        · rw [w_succ (by omega)]
          show _ = slCA p1 p2 p3 p5 i ((d0 :: D0) ++ [_]).length
          rw [List.length_append, List.length_singleton]
          rfl
        · have hL : ((d0 :: D0) ++ [nextD a (ns 15).n (ns 18).n (ns 21).n (ns 16).n (ns 19).n (ns 22).n]).length = (d0 :: D0).length + 1 := by rw [List.length_append, List.length_singleton]
          show Sy.Ent _ ((memCA p1 p5 cells t.locals tv (.slice (some ⟨(ns 24).n, 0, none⟩) ((d0 :: D0) ++ [nextD a (ns 15).n (ns 18).n (ns 21).n (ns 16).n (ns 19).n (ns 22).n]).length (ns 25).n)).map Sy.ownOf ++ ([⟨(ns 24).n, .row 67 11 ((d0 :: D0) ++ [nextD a (ns 15).n (ns 18).n (ns 21).n (ns 16).n (ns 19).n (ns 22).n]).length (ns 25).n (((d0 :: D0) ++ [nextD a (ns 15).n (ns 18).n (ns 21).n (ns 16).n (ns 19).n (ns 22).n]).flatMap DoneA.cells), true⟩] ++ tailA B (nextN a (ns 15).n (ns 18).n (ns 21).n N)))
          rw [hL, hflat]
          refine entA (r' := ⟨(ns 24).n, .row 67 11 ((d0 :: D0).length + 1) (ns 25).n ((d0 :: D0).flatMap DoneA.cells ++ (nextD a (ns 15).n (ns 18).n (ns 21).n (ns 16).n (ns 19).n (ns 22).n).cells), true⟩) (y0' := ⟨(ns 21).n, .seg 0 (ndsV a.f), true⟩) (y1' := ⟨(ns 18).n, .seg 0 (ndsV a.e), true⟩) (y2' := ⟨(ns 15).n, .seg 0 (ndsV a.ix), true⟩) (L := tailA B N) ?_
          exact ⟨⟨rfl, rfl, fun _ h => h⟩, ⟨rfl, rfl, fun _ h => h⟩, ⟨rfl, rfl, fun _ h => h⟩, ⟨rfl, rfl, fun _ h => row_seg h⟩, ⟨rfl, rfl, fun _ h => row_seg h⟩, ⟨rfl, rfl, fun _ h => row_seg h⟩, trivial⟩
    · have hl0 : (d0 :: D0).length = t.acts.length := by
        rw [Ex.ltQ_eq, hA.len] at hge
        simp only [decide_eq_false_iff_not, Int.not_lt] at hge
        have : t.acts.length ≤ (d0 :: D0).length := Int.ofNat_le.1 hge
        omega
      refine ⟨rfl, .inr ⟨by simp, _, List.mem_singleton_self _, rfl, [⟨0, 0, false, .slice (some ⟨g, 0, none⟩) (d0 :: D0).length cap, encB ((g, (d0 :: D0).flatMap DoneA.cells) :: N)⟩], rfl, ⟨[0, 1, 2, 3, 4], rfl⟩, ?_, ?_⟩⟩
      · refine Sy.Ent.trans (Sy.Ent.sub (B := (memCA p1 p5 cells t.locals tv (.slice (some ⟨g, 0, none⟩) (d0 :: D0).length cap)).map Sy.ownOf ++ (⟨g, .row 67 11 (d0 :: D0).length cap ((d0 :: D0).flatMap DoneA.cells), true⟩ :: ownB N)) ?_) ?_
        · exact List.Sublist.cons_cons _ (List.Sublist.cons_cons _ (List.Sublist.cons_cons _ (List.sublist_append_left _ _)))
        · show Sy.Ent _ ((memCA p1 p5 cells t.locals tv (.slice (some ⟨g, 0, none⟩) (d0 :: D0).length cap) ++ decB (encB ((g, (d0 :: D0).flatMap DoneA.cells) :: N))).map Sy.ownOf)
          rw [dec_enc, List.map_append, ownB_eq]
          exact ent_sim ⟨⟨rfl, rfl, fun _ h => h⟩, ⟨rfl, rfl, fun _ h => h⟩, ⟨rfl, rfl, fun _ h => row_seg h⟩, Sim.refl _⟩
      · show ActsR (decB (encB ((g, (d0 :: D0).flatMap DoneA.cells) :: N))) (.slice (some ⟨g, 0, none⟩) (d0 :: D0).length cap) t.acts
        rw [dec_enc]
        have hpre : (d0 :: D0).map (·.a) = t.acts := by
          have := hok.pre
          simp only at this
          rw [this, hl0, List.take_length]
        rw [← hpre]
        exact acts_new (List.mem_cons_self) (fun d hd => DoneA.mono (leB_cons _ _) (hok.ok d hd)) (by omega)

/-- The same, by the number that lies in the new thread. -/
noncomputable def loopCB (B : List (Nat × Sy.Cont)) (T : List ThreadD) (t : ThreadD) (loc : Int) (p1 p2 p3 p5 : Nat) (tv : Value) (i : Nat) (cells : Int) : Sy.LoopC :=
  ⟨.loop bodyCA, 73, slCA p1 p2 p3 p5 i 0, (ThreadsR B tv T ∧ T[i]? = some t) ∧ loc = t.locals, ⟨[], memCA p1 p5 cells loc tv (.slice none 0 0), 1, B⟩,
    [(outA p1 p5 cells loc tv t.acts, .exit 2, fun _ => [(1, .pointer (some ⟨p1, 0, none⟩)), (2, .pointer (some ⟨p2, 0, none⟩)), (3, .pointer (some ⟨p3, 0, none⟩)), (4, .int .i64 (Int.ofNat i)), (5, .pointer (some ⟨p5, 0, none⟩))])]⟩
theorem loopCB_met (B : List (Nat × Sy.Cont)) (T : List ThreadD) (t : ThreadD) (loc : Int) (p1 p2 p3 p5 : Nat) (tv : Value) (i : Nat) (cells : Int) : Sy.MeetsL Try.prog (loopCB B T t loc p1 p2 p3 p5 tv i cells) := fun hok => by
  obtain ⟨h, rfl⟩ := hok
  exact loopCA_met B T t p1 p2 p3 p5 tv i cells h

end Go.Proofs.Ytbgmkefehfjicaa

/-
  The reference: a copy of a program: the threads.
-/
namespace Go.Proofs.Ytbgmkefehfjicaa
set_option linter.unusedVariables false
set_option linter.unusedSimpArgs false
open Go Go.RowKit
open Sy (Let Blk HasL)

noncomputable def ctxCT (B : List (Nat × Sy.Cont)) (T : List ThreadD) (t : ThreadD) (p1 p2 p3 : Nat) (tv : Value) (i : Nat) (cells : Int) : Sy.Ctx := Sy.mkS [] [(fCopy, fun a L => loopCB B T t (Sy.locL L) p1 p2 p3 (Sy.ptrN (a.get 5)) tv i cells)] []
theorem ctxCT_holds (B : List (Nat × Sy.Cont)) (T : List ThreadD) (t : ThreadD) (p1 p2 p3 : Nat) (tv : Value) (i : Nat) (cells : Int) : (ctxCT B T t p1 p2 p3 tv i cells).holds Try.prog := Sy.mkS_holds (fun _ h => (by cases h)) (fun p hp a L => by
  rcases List.mem_singleton.1 hp with rfl
  exact loopCB_met _ _ _ _ _ _ _ _ _ _ _) (fun _ h => (by cases h))

def slCT (p1 p2 p3 : Nat) (i : Nat) : List (Nat × Value) := [(1, .pointer (some ⟨p1, 0, none⟩)), (2, .pointer (some ⟨p2, 0, none⟩)), (3, .pointer (some ⟨p3, 0, none⟩)), (4, .int .i64 (Int.ofNat i))]
def memCT (p1 p3 : Nat) (cells : Int) (tv qv : Value) : List (Nat × Sy.Cont) := [(p1, .obj (.cells #[.int .i64 cells, tv] 27 (0, 0))), (p3, .obj (.cells #[.int .i64 cells, qv] 27 (0, 0)))]

def ct_o : Sy.O := (Sy.O.pack 4 0x8000 (Sy.O.fork (Sy.O.pack 41 0x1020004610042020000004001002110420084000006108000 Sy.O.nil) Sy.O.nil))
noncomputable def ct_R (B : List (Nat × Sy.Cont)) (TL : List Blk) (T : List ThreadD) (t : ThreadD) (p1 : Nat) (p2 : Nat) (p3 : Nat) (g : Nat) (cap : Nat) (m : Nat) (xs : List Value) (tv : Value) (i : Nat) (cells : Int) (h : Nat → Value) (ns : Nat → Sy.Let) : Sy.Res (Exit × Nat × List Value × List Blk) := .need (∃ (p : Option Addr), ∃ (n : Nat), ∃ (c : Nat), tv = Value.slice p n c) (.br (Ex.ltQ (Int.ofNat i) (Int.ofNat (Sy.lenS tv))) (.need ((∃ (n : Nat), ∃ (c : Nat), tv = Value.slice (some (Addr.mk (Sy.ptrS tv) (Sy.offS tv) none)) n c) ∧ (0 : Int) ≤ Int.ofNat i ∧ Int.ofNat i < (↑(Sy.lenS tv) : Int)) (.need (∃ (i_1 : Int), HasL TL (Sy.ptrS tv) (Nat.add (Sy.offS tv + Int.toNat (Int.ofNat i) * (2 : Nat)) (0 : Nat)) (.int .i64 i_1)) (.hyp (∀ (u : Value), HasL TL (Sy.ptrS tv) (Nat.add (Sy.offS tv + Int.toNat (Int.ofNat i) * (2 : Nat)) (0 : Nat)) u → u = Value.int .i64 (Let.i (ns 0))) (.need ((ThreadsR B tv T ∧ T[i]? = some t) ∧ Let.i (ns 0) = ThreadD.locals t) (.need (Sy.GotL TL B) (.hyp (ActsR (decB (Let.l (ns 2))) (.slice (slP (Let.v (ns 2))) (Sy.lenS (Let.v (ns 2))) (slC (Let.v (ns 2)))) (ThreadD.acts t)) (.need (m + (1 : Nat) ≤ (9223372036854775807 : Nat)) (.need ((m + (1 : Nat)) * (32 : Nat) ≤ (140737488355328 : Nat)) (.hyp (Nat.le (m + (1 : Nat)) (Let.n (ns 6))) (.leaf (Exit.normal,
 (73 : Nat), [.pointer (some (Addr.mk p1 0 none)), .pointer (some (Addr.mk p2 0 none)), .pointer (some (Addr.mk p3 0 none)), .int .i64 (Ex.wrapQ .i64 (Ex.addQ (Int.ofNat i) (1 : Int)))], Blk.mk (Let.n (ns 5)) (.row (37 : Nat) (2 : Nat) (m + (1 : Nat)) (Let.n (ns 6)) (xs ++ [.int .i64 (Let.i (ns 0)), .slice (slP (Let.v (ns 2))) (Sy.lenS (Let.v (ns 2))) (slC (Let.v (ns 2)))])) true :: Blk.mk (Let.n (ns 4)) (.obj (.cells (Array.mk [.int .i64 (Let.i (ns 0)), .slice (slP (Let.v (ns 2))) (Sy.lenS (Let.v (ns 2))) (slC (Let.v (ns 2)))]) (37 : Nat))) true :: Blk.mk p1 (.obj (.cells (Array.mk [.int .i64 cells, tv]) (27 : Nat))) true :: Blk.mk (Let.n (ns 1)) (.obj (.cells (Array.mk [.int .i64 (Let.i (ns 0)), .slice (slP (Let.v (ns 2))) (Sy.lenS (Let.v (ns 2))) (slC (Let.v (ns 2)))]) (37 : Nat))) true :: Blk.mk p3 (.obj (.cells (Array.mk [.int .i64 cells, .slice (some (Addr.mk (Let.n (ns 5)) 0 none)) (m + (1 : Nat)) (Let.n (ns 6))]) (27 : Nat))) true :: List.append TL (List.map (fun (p : Nat ×
 Sy.Cont) => Blk.mk (Prod.fst p) (Prod.snd p) true) (decB (Let.l (ns 2))))))))))))))) (.leaf (Exit.exit (0 : Nat), (73 : Nat), [.pointer (some (Addr.mk p1 0 none)), .pointer (some (Addr.mk p2 0 none)), .pointer (some (Addr.mk p3 0 none)), .int .i64 (Int.ofNat i)], Blk.mk p1 (.obj (.cells (Array.mk [.int .i64 cells, tv]) (27 : Nat))) true :: Blk.mk p3 (.obj (.cells (Array.mk [.int .i64 cells, .slice (some (Addr.mk g 0 none)) m cap]) (27 : Nat))) true :: Blk.mk g (.row (37 : Nat) (2 : Nat) m cap xs) true :: TL)))

theorem ct_run (B : List (Nat × Sy.Cont)) (TL : List Blk) (T : List ThreadD) (t : ThreadD) (p1 p2 p3 g cap m : Nat) (xs : List Value) (tv : Value) (i : Nat) (cells : Int) (h : Nat → Value) : Sy.Ran (Sy.pieceT Try.prog (ctxCT B T t p1 p2 p3 tv i cells) 50 fCopy bodyCT 73 (slCT p1 p2 p3 i) ((List.range 73).map h) ((memCT p1 p3 cells tv (.slice (some ⟨g, 0, none⟩) m cap)).map Sy.ownOf ++ ⟨g, .row 37 2 m cap xs, true⟩ :: TL) [1, 2, 3, 4]) ct_o (ct_R B TL T t p1 p2 p3 g cap m xs tv i cells h) := ⟨fun ns => by kernel_rfl, fun ns => by kernel_rfl⟩
def cu_o : Sy.O := (Sy.O.pack 4 0x8000 (Sy.O.fork (Sy.O.pack 38 0x204000800000000004001002108420084000004108000 Sy.O.nil) Sy.O.nil))
noncomputable def cu_R (B : List (Nat × Sy.Cont)) (TL : List Blk) (T : List ThreadD) (t : ThreadD) (p1 : Nat) (p2 : Nat) (p3 : Nat) (tv : Value) (i : Nat) (cells : Int) (h : Nat → Value) (ns : Nat → Sy.Let) : Sy.Res (Exit × Nat × List Value × List Blk) := .need (∃ (p : Option Addr), ∃ (n : Nat), ∃ (c : Nat), tv = Value.slice p n c) (.br (Ex.ltQ (Int.ofNat i) (Int.ofNat (Sy.lenS tv))) (.need ((∃ (n : Nat), ∃ (c : Nat), tv = Value.slice (some (Addr.mk (Sy.ptrS tv) (Sy.offS tv) none)) n c) ∧ (0 : Int) ≤ Int.ofNat i ∧ Int.ofNat i < (↑(Sy.lenS tv) : Int)) (.need (∃ (i_1 : Int), HasL TL (Sy.ptrS tv) (Nat.add (Sy.offS tv + Int.toNat (Int.ofNat i) * (2 : Nat)) (0 : Nat)) (.int .i64 i_1)) (.hyp (∀ (u : Value), HasL TL (Sy.ptrS tv) (Nat.add (Sy.offS tv + Int.toNat (Int.ofNat i) * (2 : Nat)) (0 : Nat)) u → u = Value.int .i64 (Let.i (ns 0))) (.need ((ThreadsR B tv T ∧ T[i]? = some t) ∧ Let.i (ns 0) = ThreadD.locals t) (.need (Sy.GotL TL B) (.hyp (ActsR (decB (Let.l (ns 2))) (.slice (slP (Let.v (ns 2))) (Sy.lenS (Let.v (ns 2))) (slC (Let.v (ns 2)))) (ThreadD.acts t)) (.hyp (Nat.le (1 : Nat) (Let.n (ns 6))) (.leaf (Exit.normal, (73 : Nat), [.pointer (some (Addr.mk p1 0 none)), .pointer (some (Addr.mk p2 0 none)), .pointer (some (Addr.mk p3 0 none)),
 .int .i64 (Ex.wrapQ .i64 (Ex.addQ (Int.ofNat i) (1 : Int)))], Blk.mk (Let.n (ns 5)) (.row (37 : Nat) (2 : Nat) (1 : Nat) (Let.n (ns 6)) [.int .i64 (Let.i (ns 0)), .slice (slP (Let.v (ns 2))) (Sy.lenS (Let.v (ns 2))) (slC (Let.v (ns 2)))]) true :: Blk.mk (Let.n (ns 4)) (.obj (.cells (Array.mk [.int .i64 (Let.i (ns 0)), .slice (slP (Let.v (ns 2))) (Sy.lenS (Let.v (ns 2))) (slC (Let.v (ns 2)))]) (37 : Nat))) true :: Blk.mk p1 (.obj (.cells (Array.mk [.int .i64 cells, tv]) (27 : Nat))) true :: Blk.mk (Let.n (ns 1)) (.obj (.cells (Array.mk [.int .i64 (Let.i (ns 0)), .slice (slP (Let.v (ns 2))) (Sy.lenS (Let.v (ns 2))) (slC (Let.v (ns 2)))]) (37 : Nat))) true :: Blk.mk p3 (.obj (.cells (Array.mk [.int .i64 cells, .slice (some (Addr.mk (Let.n (ns 5)) 0 none)) (1 : Nat) (Let.n (ns 6))]) (27 : Nat))) true :: List.append TL (List.map (fun (p : Nat × Sy.Cont) => Blk.mk (Prod.fst p) (Prod.snd p) true) (decB (Let.l (ns 2))))))))))))) (.leaf (Exit.exit (0 : Nat), (73 : Nat), [.pointer (some (Addr.mk
 p1 0 none)), .pointer (some (Addr.mk p2 0 none)), .pointer (some (Addr.mk p3 0 none)), .int .i64 (Int.ofNat i)], Blk.mk p1 (.obj (.cells (Array.mk [.int .i64 cells, tv]) (27 : Nat))) true :: Blk.mk p3 (.obj (.cells (Array.mk [.int .i64 cells, .slice none (0 : Nat) (0 : Nat)]) (27 : Nat))) true :: TL)))

theorem cu_run (B : List (Nat × Sy.Cont)) (TL : List Blk) (T : List ThreadD) (t : ThreadD) (p1 p2 p3 : Nat) (tv : Value) (i : Nat) (cells : Int) (h : Nat → Value) : Sy.Ran (Sy.pieceT Try.prog (ctxCT B T t p1 p2 p3 tv i cells) 50 fCopy bodyCT 73 (slCT p1 p2 p3 i) ((List.range 73).map h) (⟨p1, .obj (.cells #[.int .i64 cells, tv] 27 (0, 0)), true⟩ :: ⟨p3, .obj (.cells #[.int .i64 cells, .slice none 0 0] 27 (0, 0)), true⟩ :: TL) [1, 2, 3, 4]) cu_o (cu_R B TL T t p1 p2 p3 tv i cells h) := ⟨fun ns => by kernel_rfl, fun ns => by kernel_rfl⟩

end Go.Proofs.Ytbgmkefehfjicaa

/-
  The reference: a copy of a program: the threads, the contract.
-/
namespace Go.Proofs.Ytbgmkefehfjicaa
open Go Go.RowKit
open Sy (Let Blk HasL)

structure StT where
  D : List DoneT
  g : Nat
  cap : Nat
  N : Bn

def StT.row (s : StT) : List Blk := match s.D with
  | [] => []
  | _ :: _ => [⟨s.g, .row 37 2 s.D.length s.cap (s.D.flatMap DoneT.cells), true⟩]
def StT.qv (s : StT) : Value := match s.D with
  | [] => .slice none 0 0
  | _ :: _ => .slice (some ⟨s.g, 0, none⟩) s.D.length s.cap

def outT (p1 p3 : Nat) (cells : Int) (tv : Value) (T : List ThreadD) : Sy.OutM :=
  ⟨fun ns => ThreadsR (decB (ns.getD 0 Let.none).l) (slV (ns.getD 0 Let.none).v) T, fun ns => memCT p1 p3 cells tv (slV (ns.getD 0 Let.none).v), fun ns => decB (ns.getD 0 Let.none).l⟩
noncomputable def loopCT (B : List (Nat × Sy.Cont)) (T : List ThreadD) (p1 p2 p3 : Nat) (tv : Value) (cells : Int) : Sy.LoopC :=
  ⟨.loop bodyCT, 73, slCT p1 p2 p3 0, ThreadsR B tv T, ⟨[], memCT p1 p3 cells tv (.slice none 0 0), 1, B⟩,
    [(outT p1 p3 cells tv T, .exit 0, fun _ => [(1, .pointer (some ⟨p1, 0, none⟩)), (2, .pointer (some ⟨p2, 0, none⟩)), (3, .pointer (some ⟨p3, 0, none⟩))])]⟩

structure OkT (T : List ThreadD) (s : StT) : Prop where
  le : s.D.length ≤ T.length
  pre : s.D.map (·.t) = T.take s.D.length
  ok : ∀ d ∈ s.D, d.ok (segB s.N)

theorem okT_next {T : List ThreadD} {D : List DoneT} {g cap : Nat} {N : Bn} (h : OkT T ⟨D, g, cap, N⟩) {t : ThreadD} (ht : T[D.length]? = some t) {M : Bn} {av : Value} (hA : ActsR (segB M) av t.acts) {g' cap' : Nat} : OkT T ⟨D ++ [⟨t, av⟩], g', cap', M ++ N⟩ := by
  have hlt : D.length < T.length := (List.getElem?_eq_some_iff.1 ht).1
  refine ⟨by simp; omega, ?_, fun x hx => ?_⟩
  · have hD := h.pre
    simp only at hD
    simp only [List.map_append, List.length_append, List.length_cons, List.length_nil, hD, List.map_cons, List.map_nil, take_next ht, Nat.zero_add]
  · rcases List.mem_append.1 hx with hx | hx
    · exact DoneT.mono (leB_app_right _ _) (h.ok x hx)
    · rcases List.mem_singleton.1 hx with rfl
      exact actsR_mono (leB_app_left _ _) hA

theorem flatT_next (D : List DoneT) (d : DoneT) : (D ++ [d]).flatMap DoneT.cells = D.flatMap DoneT.cells ++ d.cells := by simp

theorem tail_more (B : List (Nat × Sy.Cont)) (M N : Bn) : (tailA B N ++ (segB M).map Sy.ownOf).Perm (tailA B (M ++ N)) := by
  rw [ownB_eq]
  have e : tailA B (M ++ N) = ownB M ++ tailA B N := by
    unfold tailA ownB
    rw [List.map_append, List.append_assoc]
  rw [e]
  exact List.perm_append_comm

theorem entT {x0 x1 r p q : Blk} {L L' : List Blk} {r' : Blk} (hr : r'.nm = r.nm ∧ r'.own = r.own ∧ ∀ h, r.ct.sat h → r'.ct.sat h) (hL : L.Perm L') : Sy.Ent (r :: x0 :: p :: x1 :: q :: L) ([p, q, r'] ++ L') := by
  refine Sy.Ent.trans (Sy.Ent.sub (B := [r, p, q] ++ L) ?_) (Sy.Ent.trans (Sy.Ent.perm (B := [p, q, r] ++ L') ?_) (ent_sim ⟨⟨rfl, rfl, fun _ h => h⟩, ⟨rfl, rfl, fun _ h => h⟩, hr, Sim.refl _⟩))
  · exact List.Sublist.cons_cons _ (List.Sublist.cons _ (List.Sublist.cons_cons _ (List.Sublist.cons _ (List.Sublist.refl _))))
  · exact ((List.perm_append_comm (l₁ := [r]) (l₂ := [p, q])).append_right L).trans (List.Perm.append_left _ hL)

theorem loopCT_met (B : List (Nat × Sy.Cont)) (T : List ThreadD) (p1 p2 p3 : Nat) (tv : Value) (cells : Int) : Sy.MeetsL Try.prog (loopCT B T p1 p2 p3 tv cells) := by
  refine Sy.loop_ofB (σ := StT) (S := fun s => ctxCT B T (T.getD s.D.length ⟨0, []⟩) p1 p2 p3 tv s.D.length cells) (n := 50) (fn := fCopy) (fun _ => ctxCT_holds _ _ _ _ _ _ _ _ _) mixed (body := bodyCT) rfl [1, 2, 3, 4] (fun s => slCT p1 p2 p3 s.D.length)
    (fun s => (memCT p1 p3 cells tv s.qv).map Sy.ownOf ++ (s.row ++ tailA B s.N))
    (fun s => ThreadsR B tv T ∧ OkT T s)
    (fun s => T.length - s.D.length)
    ⟨[], 0, 0, []⟩ (fun h => ⟨h, Nat.zero_le _, rfl, fun d hd => (by cases hd)⟩) (fun p hp => hp) (Sy.Ent.refl _)
    (o := fun s => match s.D with | [] => cu_o | _ :: _ => ct_o)
    (R := fun s f => match s.D with
      | [] => cu_R B (tailA B s.N) T (T.getD 0 ⟨0, []⟩) p1 p2 p3 tv 0 cells f
      | _ :: _ => ct_R B (tailA B s.N) T (T.getD s.D.length ⟨0, []⟩) p1 p2 p3 s.g s.cap s.D.length (s.D.flatMap DoneT.cells) tv s.D.length cells f)
    (fun s f _ => by
      obtain ⟨D, g, cap, N⟩ := s
      cases D with
      | nil => exact cu_run B (tailA B N) T (T.getD 0 ⟨0, []⟩) p1 p2 p3 tv 0 cells f
      | cons d D => exact ct_run B (tailA B N) T (T.getD (d :: D).length ⟨0, []⟩) p1 p2 p3 g cap (d :: D).length ((d :: D).flatMap DoneT.cells) tv (d :: D).length cells f) ?_
  rintro - ⟨D, g, cap, N⟩ f ⟨hT, hok⟩ ns
  have tl : ∀ {b o : Nat} {v : Value}, HasL (rdOf B) b o v → HasL (tailA B N) b o v := fun h => tail_leB B N h
  have got : Sy.GotL (tailA B N) B := got_tail B N
  have hTlt := hT.lt
  cases D with
  | nil =>
    simp only [cu_R, Sy.Res.holds]
    refine ⟨hT.sl, fun hlt => ?_, fun hge => ?_⟩
    · have hlt : 0 < T.length := by rw [Ex.ltQ_eq, hT.len] at hlt; simpa using hlt
      obtain ⟨t, ht⟩ : ∃ t, T[0]? = some t := ⟨_, List.getElem?_eq_getElem hlt⟩
      have hTne : T ≠ [] := fun h => by rw [h] at hlt; simp at hlt
      have hg : T.getD 0 ⟨0, []⟩ = t := by rw [List.getD_eq_getElem?_getD, ht]; rfl
      obtain ⟨av, h0, h1, hA⟩ := hT.thr 0 t ht
      refine ⟨⟨hT.at_ hTne, by simp, by rw [hT.len]; simpa using hlt⟩, ⟨_, tl h0⟩, fun e0 => ?_⟩
      have e0 := e0 _ (tl h0)
      simp only [Value.int.injEq, true_and] at e0
      rw [← e0, hg]
      refine ⟨⟨⟨hT, ht⟩, rfl⟩, got, fun hacts hc => ?_⟩
      refine ⟨rfl, .inl ⟨rfl, ⟨[] ++ [⟨t, slV (ns 2).v⟩], (ns 5).n, (ns 6).n, decN (ns 2).l ++ N⟩, ⟨hT, okT_next hok ht hacts⟩, ?_, ?_, ?_⟩⟩
      · show T.length - 1 < T.length - 0
        omega
      · rw [w_succ (k := 0) (by omega)]
        rfl
      · exact entT (r' := ⟨(ns 5).n, .row 37 2 1 (ns 6).n ((⟨t, slV (ns 2).v⟩ : DoneT).cells ++ []), true⟩) ⟨rfl, rfl, fun _ h => h⟩ (tail_more B (decN (ns 2).l) N)
    · have hl0 : T = [] := by
        rw [Ex.ltQ_eq, hT.len] at hge
        exact List.eq_nil_of_length_eq_zero (Nat.eq_zero_of_not_pos fun h => of_decide_eq_false hge (Int.ofNat_lt.2 h))
      refine ⟨rfl, .inr ⟨by simp, _, List.mem_singleton_self _, rfl, [⟨0, 0, false, .slice none 0 0, []⟩], rfl, ⟨[0, 1, 2], rfl⟩, Sy.Ent.sub (List.sublist_append_left _ _), ?_⟩⟩
      show ThreadsR (decB []) (.slice none 0 0) T
      rw [hl0]
      exact threads_nil _
  | cons d0 D0 =>
    have hlen : (d0 :: D0).length ≤ T.length := hok.le
    have hflat : ∀ d, (d0 :: D0 ++ [d]).flatMap DoneT.cells = (d0 :: D0).flatMap DoneT.cells ++ d.cells := fun d => flatT_next _ d
    simp only [ct_R, Sy.Res.holds]
    refine ⟨hT.sl, fun hlt => ?_, fun hge => ?_⟩
    · have hlt : (d0 :: D0).length < T.length := by rw [Ex.ltQ_eq, hT.len] at hlt; exact Int.ofNat_lt.1 (of_decide_eq_true hlt)
      obtain ⟨t, ht⟩ : ∃ t, T[(d0 :: D0).length]? = some t := ⟨_, List.getElem?_eq_getElem hlt⟩
      have hTne : T ≠ [] := fun h => by rw [h] at hlt; simp at hlt
      have hg : T.getD (d0 :: D0).length ⟨0, []⟩ = t := by rw [List.getD_eq_getElem?_getD, ht]; rfl
      obtain ⟨av, h0, h1, hA⟩ := hT.thr _ t ht
      refine ⟨⟨hT.at_ hTne, Int.natCast_nonneg _, by rw [hT.len]; exact Int.ofNat_lt.2 hlt⟩, ⟨_, tl h0⟩, fun e0 => ?_⟩
      have e0 := e0 _ (tl h0)
      simp only [Value.int.injEq, true_and] at e0
      rw [← e0, hg]
      refine ⟨⟨⟨hT, ht⟩, rfl⟩, got, fun hacts => ⟨by omega, by omega, fun hc => ?_⟩⟩
      have hL : ((d0 :: D0) ++ [(⟨t, slV (ns 2).v⟩ : DoneT)]).length = (d0 :: D0).length + 1 := by rw [List.length_append, List.length_singleton]
      refine ⟨rfl, .inl ⟨rfl, ⟨(d0 :: D0) ++ [⟨t, slV (ns 2).v⟩], (ns 5).n, (ns 6).n, decN (ns 2).l ++ N⟩, ⟨hT, okT_next hok ht hacts⟩, ?_, ?_, ?_⟩⟩
      · show T.length - ((d0 :: D0) ++ [(⟨t, slV (ns 2).v⟩ : DoneT)]).length < T.length - (d0 :: D0).length
        rw [hL]
        omega
      · rw [w_succ (by omega)]
        show _ = slCT p1 p2 p3 ((d0 :: D0) ++ [(⟨t, slV (ns 2).v⟩ : DoneT)]).length
        rw [hL]
        rfl
      · show Sy.Ent _ ((memCT p1 p3 cells tv (.slice (some ⟨(ns 5).n, 0, none⟩) ((d0 :: D0) ++ [(⟨t, slV (ns 2).v⟩ : DoneT)]).length (ns 6).n)).map Sy.ownOf ++ ([⟨(ns 5).n, .row 37 2 ((d0 :: D0) ++ [(⟨t, slV (ns 2).v⟩ : DoneT)]).length (ns 6).n (((d0 :: D0) ++ [(⟨t, slV (ns 2).v⟩ : DoneT)]).flatMap DoneT.cells), true⟩] ++ tailA B (decN (ns 2).l ++ N)))
        rw [hL, hflat]
        exact entT (r' := ⟨(ns 5).n, .row 37 2 ((d0 :: D0).length + 1) (ns 6).n ((d0 :: D0).flatMap DoneT.cells ++ (⟨t, slV (ns 2).v⟩ : DoneT).cells), true⟩) ⟨rfl, rfl, fun _ h => h⟩ (tail_more B (decN (ns 2).l) N)
    · have hl0 : (d0 :: D0).length = T.length := by
        rw [Ex.ltQ_eq, hT.len] at hge
        simp only [decide_eq_false_iff_not, Int.not_lt] at hge
        have : T.length ≤ (d0 :: D0).length := Int.ofNat_le.1 hge
        omega
      refine ⟨rfl, .inr ⟨by simp, _, List.mem_singleton_self _, rfl, [⟨0, 0, false, .slice (some ⟨g, 0, none⟩) (d0 :: D0).length cap, encB ((g, (d0 :: D0).flatMap DoneT.cells) :: N)⟩], rfl, ⟨[0, 1, 2], rfl⟩, ?_, ?_⟩⟩
      · refine Sy.Ent.trans (Sy.Ent.sub (B := (memCT p1 p3 cells tv (.slice (some ⟨g, 0, none⟩) (d0 :: D0).length cap)).map Sy.ownOf ++ (⟨g, .row 37 2 (d0 :: D0).length cap ((d0 :: D0).flatMap DoneT.cells), true⟩ :: ownB N)) ?_) ?_
        · exact List.Sublist.cons_cons _ (List.Sublist.cons_cons _ (List.Sublist.cons_cons _ (List.sublist_append_left _ _)))
        · show Sy.Ent _ ((memCT p1 p3 cells tv (.slice (some ⟨g, 0, none⟩) (d0 :: D0).length cap) ++ decB (encB ((g, (d0 :: D0).flatMap DoneT.cells) :: N))).map Sy.ownOf)
          rw [dec_enc, List.map_append, ownB_eq]
          exact ent_sim ⟨⟨rfl, rfl, fun _ h => h⟩, ⟨rfl, rfl, fun _ h => h⟩, ⟨rfl, rfl, fun _ h => row_seg h⟩, Sim.refl _⟩
      · show ThreadsR (decB (encB ((g, (d0 :: D0).flatMap DoneT.cells) :: N))) (.slice (some ⟨g, 0, none⟩) (d0 :: D0).length cap) T
        rw [dec_enc]
        have hpre : (d0 :: D0).map (·.t) = T := by
          have := hok.pre
          simp only at this
          rw [this, hl0, List.take_length]
        rw [← hpre]
        exact threads_new (List.mem_cons_self) (fun d hd => DoneT.mono (leB_cons _ _) (hok.ok d hd)) (by omega)

noncomputable def ctxCP (B : List (Nat × Sy.Cont)) (T : List ThreadD) (tv : Value) (cells : Int) : Sy.Ctx := Sy.mkS [] [(fCopy, fun a _ => loopCT B T (Sy.ptrN (a.get 1)) (Sy.ptrN (a.get 2)) (Sy.ptrN (a.get 3)) tv cells)] []
theorem ctxCP_holds (B : List (Nat × Sy.Cont)) (T : List ThreadD) (tv : Value) (cells : Int) : (ctxCP B T tv cells).holds Try.prog := Sy.mkS_holds (fun _ h => (by cases h)) (fun p hp a L => by
  rcases List.mem_singleton.1 hp with rfl
  exact loopCT_met _ _ _ _ _ _ _) (fun _ h => (by cases h))

end Go.Proofs.Ytbgmkefehfjicaa

/-
  The reference: a copy of a program, the whole run.
-/
namespace Go.Proofs.Ytbgmkefehfjicaa
set_option linter.unusedVariables false
set_option linter.unusedSimpArgs false
open Go Go.RowKit
open Sy (Let Blk HasL)

def cp_o : Sy.O := (Sy.O.pack 24 0x8001000100421084011000000020 Sy.O.nil)
noncomputable def cp_R (B : List (Nat × Sy.Cont)) (T : List ThreadD) (tv : Value) (cells : Int) (ns : Nat → Sy.Let) : Sy.Res (Value × List Blk) := .need (ThreadsR B tv T) (.need (Sy.GotL (rdOf B) B) (.hyp (ThreadsR (decB (Let.l (ns 3))) (.slice (slP (Let.v (ns 3))) (Sy.lenS (Let.v (ns 3))) (slC (Let.v (ns 3)))) T) (.leaf (Value.agg (Array.mk [.int .i64 cells, .slice (slP (Let.v (ns 3))) (Sy.lenS (Let.v (ns 3))) (slC (Let.v (ns 3)))]), Blk.mk (Let.n (ns 0)) (.obj (.cells (Array.mk [.int .i64 cells, tv]) (27 : Nat))) true :: Blk.mk (Let.n (ns 2)) (.obj (.cells (Array.mk [.int .i64 cells, .slice (slP (Let.v (ns 3))) (Sy.lenS (Let.v (ns 3))) (slC (Let.v (ns 3)))]) (27 : Nat))) true :: Blk.mk (Let.n (ns 1)) (.obj (.cells (Array.mk [.int .i64 cells, .slice (slP (Let.v (ns 3))) (Sy.lenS (Let.v (ns 3))) (slC (Let.v (ns 3)))]) (27 : Nat))) true :: List.append (rdOf B) (List.map (fun (p : Nat × Sy.Cont) => Blk.mk (Prod.fst p) (Prod.snd p) true) (decB (Let.l (ns 3))))))))

theorem cp_run (B : List (Nat × Sy.Cont)) (T : List ThreadD) (tv : Value) (cells : Int) : Sy.Ran (Sy.inB Try.prog (ctxCP B T tv cells) 50 fCopy #[progV cells tv] (rdOf B)) cp_o (cp_R B T tv cells) := ⟨fun ns => by kernel_rfl, fun ns => by kernel_rfl⟩

end Go.Proofs.Ytbgmkefehfjicaa
