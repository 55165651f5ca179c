/-
  Nodes of expressions: is each but the last an operand just once? And what follows it.
-/
import Derived.Test.YtbgmkefehfjicaaSyM
import Derived.Test.YtbgmkefehfjicaaSyL
import Derived.Test.YtbgmkefehfjicaaMix

/-
  Nodes of expressions: is each but the last an operand just once?
-/
namespace Go.Proofs.Ytbgmkefehfjicaa
set_option linter.unusedVariables false
set_option linter.unusedSimpArgs false
open Go Go.RowKit
open Sy (Let Blk)

structure NodeD where
  op : Int
  val : Int
  a : Int
  b : Int

def rdOf (B : List (Nat × Sy.Cont)) : List Blk := B.map fun p => ⟨p.1, p.2, false⟩

abbrev fOnce : FuncId := 70
noncomputable def bodyO1 : Code := Sy.loopBody Try.f70 0
noncomputable def bodyO2 : Code := Sy.loopBody Try.f70 1

def slO (v : Value) (g n cap i : Nat) : List (Nat × Value) := [(0, v), (2, .bool false), (3, .slice (some ⟨g, 0, none⟩) n cap), (11, v), (12, .int .i64 (Int.ofNat n)), (13, .int .i64 (Int.ofNat i))]
def intsV (l : List Int) : List Value := l.map fun i => Value.int .i64 i
def on1_o : Sy.O := (Sy.O.fork (Sy.O.pack 9 0x421 (Sy.O.fork (Sy.O.pack 18 0x401080210840100000 (Sy.O.fork (Sy.O.pack 15 0x401080210840100000 Sy.O.nil) Sy.O.nil)) (Sy.O.pack 3 0x0 (Sy.O.fork (Sy.O.pack 15 0x401080210840100000 Sy.O.nil) Sy.O.nil)))) Sy.O.nil)
noncomputable def on1_R (v : Value) (g : Nat) (n : Nat) (cap : Nat) (i : Nat) (xs : List Value) (f : Nat → Value) (B : List (Nat × Sy.Cont)) (ns : Nat → Sy.Let) : Sy.Res (Exit × Nat × List Value × List Blk) := .br (Ex.ltQ (Int.ofNat i) (Int.ofNat n)) (.need ((∃ (n : Nat), ∃ (c : Nat), v = Value.slice (some (Addr.mk (Sy.ptrS v) (Sy.offS v) none)) n c) ∧ (0 : Int) ≤ Int.ofNat i ∧ Int.ofNat i < (↑(Sy.lenS v) : Int)) (.need (∃ (i_1 : Int), Sy.HasL (rdOf B) (Sy.ptrS v) (Sy.offS v + Int.toNat (Int.ofNat i) * (4 : Nat)) (.int .i64 i_1)) (.hyp (∀ (u : Value), Sy.HasL (rdOf B) (Sy.ptrS v) (Sy.offS v + Int.toNat (Int.ofNat i) * (4 : Nat)) u → u = Value.int .i64 (Let.i (ns 0))) (.need (∃ (i_1 : Int), Sy.HasL (rdOf B) (Sy.ptrS v) (Sy.offS v + Int.toNat (Int.ofNat i) * (4 : Nat) + (1 : Nat)) (.int .u64 i_1)) (.hyp (∀ (u : Value), Sy.HasL (rdOf B) (Sy.ptrS v) (Sy.offS v + Int.toNat (Int.ofNat i) * (4 : Nat) + (1 : Nat)) u → u = Value.int .u64 (Let.i (ns 1))) (.need (∃ (i_1 : Int), Sy.HasL (rdOf B) (Sy.ptrS v) (Sy.offS v + Int.toNat (Int.ofNat i) * (4 : Nat) + (1 : Nat) + (1 : Nat)) (.int .i64 i_1)) (.hyp (∀ (u : Value), Sy.HasL (rdOf B) (Sy.ptrS v) (Sy.offS v + Int.toNat (Int.ofNat i) * (4 : Nat) + (1 :
 Nat) + (1 : Nat)) u → u = Value.int .i64 (Let.i (ns 2))) (.need (∃ (i_1 : Int), Sy.HasL (rdOf B) (Sy.ptrS v) (Sy.offS v + Int.toNat (Int.ofNat i) * (4 : Nat) + (1 : Nat) + (1 : Nat) + (1 : Nat)) (.int .i64 i_1)) (.hyp (∀ (u : Value), Sy.HasL (rdOf B) (Sy.ptrS v) (Sy.offS v + Int.toNat (Int.ofNat i) * (4 : Nat) + (1 : Nat) + (1 : Nat) + (1 : Nat)) u → u = Value.int .i64 (Let.i (ns 3))) (.br (Ex.leQ (3 : Int) (Let.i (ns 0))) (.need ((0 : Int) ≤ Let.i (ns 2) ∧ Let.i (ns 2) < (↑n : Int)) (.need (∃ (i : Int), Sy.Cont.at (.row (3 : Nat) (1 : Nat) n cap xs) ((0 : Nat) + Int.toNat (Let.i (ns 2)) * (1 : Nat)) = some (.int .i64 i)) (.hyp (Sy.Cont.at (.row (3 : Nat) (1 : Nat) n cap xs) ((0 : Nat) + Int.toNat (Let.i (ns 2)) * (1 : Nat)) = some (.int .i64 (Let.i (ns 5)))) (.need ((0 : Int) ≤ Let.i (ns 2) ∧ Let.i (ns 2) < (↑n : Int)) (.need ((0 : Nat) + Int.toNat (Let.i (ns 2)) * (1 : Nat) < List.length xs) (.br (Ex.leQ (6 : Int) (Let.i (ns 0))) (.need ((0 : Int) ≤ Let.i (ns 3) ∧ Let.i (ns 3) < (↑n :
 Int)) (.need (∃ (i : Int), Sy.Cont.at (.row (3 : Nat) (1 : Nat) n cap (List.set xs ((0 : Nat) + Int.toNat (Let.i (ns 2)) * (1 : Nat)) (.int .i64 (Ex.wrapQ .i64 (Ex.addQ (Let.i (ns 5)) (1 : Int)))))) ((0 : Nat) + Int.toNat (Let.i (ns 3)) * (1 : Nat)) = some (.int .i64 i)) (.hyp (Sy.Cont.at (.row (3 : Nat) (1 : Nat) n cap (List.set xs ((0 : Nat) + Int.toNat (Let.i (ns 2)) * (1 : Nat)) (.int .i64 (Ex.wrapQ .i64 (Ex.addQ (Let.i (ns 5)) (1 : Int)))))) ((0 : Nat) + Int.toNat (Let.i (ns 3)) * (1 : Nat)) = some (.int .i64 (Let.i (ns 6)))) (.need ((0 : Int) ≤ Let.i (ns 3) ∧ Let.i (ns 3) < (↑n : Int)) (.need ((0 : Nat) + Int.toNat (Let.i (ns 3)) * (1 : Nat) < List.length (List.set xs ((0 : Nat) + Int.toNat (Let.i (ns 2)) * (1 : Nat)) (.int .i64 (Ex.wrapQ .i64 (Ex.addQ (Let.i (ns 5)) (1 : Int)))))) (.leaf (Exit.normal, (58 : Nat), [v, Value.bool false, .slice (some (Addr.mk g 0 none)) n cap, v, .int .i64 (Int.ofNat n), .int .i64 (Ex.wrapQ .i64 (Ex.addQ (Int.ofNat i) (1 : Int)))], Blk.mk (Let.n (ns
 4)) (.obj (.cells (Array.mk [.int .i64 (Let.i (ns 0)), .int .u64 (Let.i (ns 1)), .int .i64 (Let.i (ns 2)), .int .i64 (Let.i (ns 3))]) (114 : Nat))) true :: Blk.mk g (.row (3 : Nat) (1 : Nat) n cap (List.set (List.set xs ((0 : Nat) + Int.toNat (Let.i (ns 2)) * (1 : Nat)) (.int .i64 (Ex.wrapQ .i64 (Ex.addQ (Let.i (ns 5)) (1 : Int))))) ((0 : Nat) + Int.toNat (Let.i (ns 3)) * (1 : Nat)) (.int .i64 (Ex.wrapQ .i64 (Ex.addQ (Let.i (ns 6)) (1 : Int)))))) true :: rdOf B))))))) (.leaf (Exit.normal, (58 : Nat), [v, Value.bool false, .slice (some (Addr.mk g 0 none)) n cap, v, .int .i64 (Int.ofNat n), .int .i64 (Ex.wrapQ .i64 (Ex.addQ (Int.ofNat i) (1 : Int)))], Blk.mk (Let.n (ns 4)) (.obj (.cells (Array.mk [.int .i64 (Let.i (ns 0)), .int .u64 (Let.i (ns 1)), .int .i64 (Let.i (ns 2)), .int .i64 (Let.i (ns 3))]) (114 : Nat))) true :: Blk.mk g (.row (3 : Nat) (1 : Nat) n cap (List.set xs ((0 : Nat) + Int.toNat (Let.i (ns 2)) * (1 : Nat)) (.int .i64 (Ex.wrapQ .i64 (Ex.addQ (Let.i (ns 5)) (1 : Int))))))
 true :: rdOf B)))))))) (.br (Ex.leQ (6 : Int) (Let.i (ns 0))) (.need ((0 : Int) ≤ Let.i (ns 3) ∧ Let.i (ns 3) < (↑n : Int)) (.need (∃ (i : Int), Sy.Cont.at (.row (3 : Nat) (1 : Nat) n cap xs) ((0 : Nat) + Int.toNat (Let.i (ns 3)) * (1 : Nat)) = some (.int .i64 i)) (.hyp (Sy.Cont.at (.row (3 : Nat) (1 : Nat) n cap xs) ((0 : Nat) + Int.toNat (Let.i (ns 3)) * (1 : Nat)) = some (.int .i64 (Let.i (ns 5)))) (.need ((0 : Int) ≤ Let.i (ns 3) ∧ Let.i (ns 3) < (↑n : Int)) (.need ((0 : Nat) + Int.toNat (Let.i (ns 3)) * (1 : Nat) < List.length xs) (.leaf (Exit.normal, (58 : Nat), [v, Value.bool false, .slice (some (Addr.mk g 0 none)) n cap, v, .int .i64 (Int.ofNat n), .int .i64 (Ex.wrapQ .i64 (Ex.addQ (Int.ofNat i) (1 : Int)))], Blk.mk (Let.n (ns 4)) (.obj (.cells (Array.mk [.int .i64 (Let.i (ns 0)), .int .u64 (Let.i (ns 1)), .int .i64 (Let.i (ns 2)), .int .i64 (Let.i (ns 3))]) (114 : Nat))) true :: Blk.mk g (.row (3 : Nat) (1 : Nat) n cap (List.set xs ((0 : Nat) + Int.toNat (Let.i (ns 3)) * (1 :
 Nat)) (.int .i64 (Ex.wrapQ .i64 (Ex.addQ (Let.i (ns 5)) (1 : Int)))))) true :: rdOf B))))))) (.leaf (Exit.normal, (58 : Nat), [v, Value.bool false, .slice (some (Addr.mk g 0 none)) n cap, v, .int .i64 (Int.ofNat n), .int .i64 (Ex.wrapQ .i64 (Ex.addQ (Int.ofNat i) (1 : Int)))], Blk.mk (Let.n (ns 4)) (.obj (.cells (Array.mk [.int .i64 (Let.i (ns 0)), .int .u64 (Let.i (ns 1)), .int .i64 (Let.i (ns 2)), .int .i64 (Let.i (ns 3))]) (114 : Nat))) true :: Blk.mk g (.row (3 : Nat) (1 : Nat) n cap xs) true :: rdOf B))))))))))))) (.leaf (Exit.exit (0 : Nat), (58 : Nat), [v, Value.bool false, .slice (some (Addr.mk g 0 none)) n cap, v, .int .i64 (Int.ofNat n), .int .i64 (Int.ofNat i)], Blk.mk g (.row (3 : Nat) (1 : Nat) n cap xs) true :: rdOf B))

theorem on1_run (v : Value) (g n cap i : Nat) (xs : List Value) (f : Nat → Value) (B : List (Nat × Sy.Cont)) : Sy.Ran (Sy.pieceT Try.prog Sy.S0 50 fOnce bodyO1 58 (slO v g n cap i) ((List.range 58).map f) (⟨g, .row 3 1 n cap xs, true⟩ :: rdOf B) [0, 2, 3, 11, 12, 13]) on1_o (on1_R v g n cap i xs f B) := ⟨fun ns => by kernel_rfl, fun ns => by kernel_rfl⟩
noncomputable def slO2 (v : Value) (g n cap i : Nat) : List (Nat × Value) := [(0, v), (2, .bool false), (3, .slice (some ⟨g, 0, none⟩) n cap), (38, .slice (some ⟨g, 0, none⟩) n cap), (39, .int .i64 (Int.ofNat n)), (40, .int .i64 (Int.ofNat i))]
def on2_o : Sy.O := (Sy.O.fork (Sy.O.pack 9 0x10842100020 (Sy.O.fork Sy.O.nil Sy.O.nil)) Sy.O.nil)
noncomputable def on2_R (v : Value) (g : Nat) (n : Nat) (cap : Nat) (i : Nat) (xs : List Value) (f : Nat → Value) (B : List (Nat × Sy.Cont)) (ns : Nat → Sy.Let) : Sy.Res (Exit × Nat × List Value × List Blk) := .br (Ex.ltQ (Int.ofNat i) (Int.ofNat n)) (.need ((0 : Int) ≤ Int.ofNat i ∧ Int.ofNat i < (↑n : Int)) (.need (∃ (i_1 : Int), Sy.Cont.at (.row (3 : Nat) (1 : Nat) n cap xs) ((0 : Nat) + Int.toNat (Int.ofNat i) * (1 : Nat)) = some (.int .i64 i_1)) (.hyp (Sy.Cont.at (.row (3 : Nat) (1 : Nat) n cap xs) ((0 : Nat) + Int.toNat (Int.ofNat i) * (1 : Nat)) = some (.int .i64 (Let.i (ns 0)))) (.need (∃ (p : Option Addr), ∃ (n : Nat), ∃ (c : Nat), v = Value.slice p n c) (.br (bif !Ex.eqQ (Let.i (ns 0)) (1 : Int) == Ex.ltQ (Int.ofNat i) (Ex.wrapQ .i64 (Ex.subQ' (Int.ofNat (Sy.lenS v)) (1 : Int))) then true else Ex.ltQ (1 : Int) (Let.i (ns 0))) (.leaf (Exit.ret, (58 : Nat), [v, Value.bool false, .slice (some (Addr.mk g 0 none)) n cap, .slice (some (Addr.mk g 0 none)) n cap, .int .i64 (Int.ofNat n), .int .i64 (Int.ofNat i)], Blk.mk g (.row (3 : Nat) (1 : Nat) n cap xs) true :: rdOf B)) (.leaf (Exit.normal, (58 : Nat), [v, Value.bool false, .slice (some (Addr.mk g 0 none)) n cap, .slice (some (Addr.mk
 g 0 none)) n cap, .int .i64 (Int.ofNat n), .int .i64 (Ex.wrapQ .i64 (Ex.addQ (Int.ofNat i) (1 : Int)))], Blk.mk g (.row (3 : Nat) (1 : Nat) n cap xs) true :: rdOf B))))))) (.leaf (Exit.exit (2 : Nat), (58 : Nat), [v, Value.bool false, .slice (some (Addr.mk g 0 none)) n cap, .slice (some (Addr.mk g 0 none)) n cap, .int .i64 (Int.ofNat n), .int .i64 (Int.ofNat i)], Blk.mk g (.row (3 : Nat) (1 : Nat) n cap xs) true :: rdOf B))

theorem on2_run (v : Value) (g n cap i : Nat) (xs : List Value) (f : Nat → Value) (B : List (Nat × Sy.Cont)) : Sy.Ran (Sy.pieceT Try.prog Sy.S0 50 fOnce bodyO2 58 (slO2 v g n cap i) ((List.range 58).map f) (⟨g, .row 3 1 n cap xs, true⟩ :: rdOf B) [0, 2, 3, 38, 39, 40]) on2_o (on2_R v g n cap i xs f B) := ⟨fun ns => by kernel_rfl, fun ns => by kernel_rfl⟩

end Go.Proofs.Ytbgmkefehfjicaa

/-
  Nodes of expressions, as they lie in memory; what once tells.
-/
namespace Go.Proofs.Ytbgmkefehfjicaa
open Go Go.RowKit
open Sy (Let Blk HasL)

/-- A slice holds these nodes. -/
structure NodesR (B : List (Nat × Sy.Cont)) (v : Value) (l : List NodeD) : Prop where
  sl : ∃ p n c, v = .slice p n c
  len : Sy.lenS v = l.length
  at_ : l ≠ [] → ∃ n c, v = .slice (some ⟨Sy.ptrS v, Sy.offS v, none⟩) n c
  op : ∀ i n, l[i]? = some n → HasL (rdOf B) (Sy.ptrS v) (Sy.offS v + i * 4) (.int .i64 n.op)
  val : ∀ i n, l[i]? = some n → HasL (rdOf B) (Sy.ptrS v) (Sy.offS v + i * 4 + 1) (.int .u64 n.val)
  a : ∀ i n, l[i]? = some n → HasL (rdOf B) (Sy.ptrS v) (Sy.offS v + i * 4 + 1 + 1) (.int .i64 n.a)
  b : ∀ i n, l[i]? = some n → HasL (rdOf B) (Sy.ptrS v) (Sy.offS v + i * 4 + 1 + 1 + 1) (.int .i64 n.b)

def bump (u : List Int) (i : Int) : List Int := u.set i.toNat (u.getD i.toNat 0 + 1)
noncomputable def usedS (u : List Int) (n : NodeD) : List Int := bif Ex.leQ 6 n.op then bump (bif Ex.leQ 3 n.op then bump u n.a else u) n.b else bif Ex.leQ 3 n.op then bump u n.a else u
noncomputable def usedL (l : List NodeD) (u : List Int) : List Int := l.foldl usedS u

/-- Operands lie within. -/
def OperO (m : Nat) (n : NodeD) : Prop := (3 ≤ n.op → 0 ≤ n.a ∧ n.a < m) ∧ (6 ≤ n.op → 0 ≤ n.b ∧ n.b < m)

def BdU (m k : Nat) (u : List Int) : Prop := u.length = m ∧ ∀ x ∈ u, 0 ≤ x ∧ x ≤ 2 * k

theorem bump_bd {m : Nat} {k : Int} {u : List Int} {i : Int} (h : u.length = m ∧ ∀ x ∈ u, 0 ≤ x ∧ x ≤ k) (hi : 0 ≤ i ∧ i < m) : (bump u i).length = m ∧ ∀ x ∈ bump u i, 0 ≤ x ∧ x ≤ k + 1 := by
  unfold bump
  refine ⟨by simp [h.1], fun x hx => ?_⟩
  rcases List.mem_or_eq_of_mem_set hx with hx | rfl
  · have := h.2 x hx
    omega
  · have hlt : i.toNat < u.length := by rw [h.1]; omega
    have := h.2 (u.getD i.toNat 0) (by rw [List.getD_eq_getElem?_getD, List.getElem?_eq_getElem hlt]; exact List.getElem_mem hlt)
    omega

theorem row_ints {t n cap : Nat} {u : List Int} {i : Nat} (h : i < u.length) : (Sy.Cont.row t 1 n cap (intsV u)).at (0 + i * 1) = some (.int .i64 (u.getD i 0)) := by
  simp [Sy.Cont.at, intsV, h, List.getD_eq_getElem?_getD]

theorem ints_set {u : List Int} {i : Int} (h : 0 ≤ u.getD i.toNat 0 ∧ u.getD i.toNat 0 < 1000000) {x : Int} (hx : x = u.getD i.toNat 0) : (intsV u).set (0 + i.toNat * 1) (.int .i64 (Ex.wrapQ .i64 (Ex.addQ x 1))) = intsV (bump u i) := by
  subst hx
  have e : ∀ y : Int, 0 ≤ y ∧ y < 1000000 → Ex.wrapQ .i64 (Ex.addQ y 1) = y + 1 := fun y hy => by
    rw [Ex.wrapQ_eq, Ex.addQ_eq]
    simp [IntKind.wrap, IntKind.signed, IntKind.bits]
    omega
  rw [e _ h]
  unfold intsV bump
  rw [List.map_set]
  congr 1
  omega

theorem w_succ {k : Nat} (h : k < 4611686018427387904) : Ex.wrapQ .i64 (Ex.addQ (Int.ofNat k) 1) = Int.ofNat (k + 1) := by
  rw [Ex.wrapQ_eq, Ex.addQ_eq]
  simp [IntKind.wrap, IntKind.signed, IntKind.bits]
  omega

theorem getD_bd {m k : Nat} {u : List Int} (h : BdU m k u) {i : Nat} (hi : i < m) : 0 ≤ u.getD i 0 ∧ u.getD i 0 ≤ 2 * k := by
  have hlt : i < u.length := by rw [h.1]; exact hi
  exact h.2 _ (by rw [List.getD_eq_getElem?_getD, List.getElem?_eq_getElem hlt]; exact List.getElem_mem hlt)

theorem usedS_bd {m k : Nat} {u : List Int} {n : NodeD} (h : BdU m k u) (hn : OperO m n) : BdU m (k + 1) (usedS u n) := by
  have h0 : u.length = m ∧ ∀ x ∈ u, 0 ≤ x ∧ x ≤ (2 * k : Nat) := ⟨h.1, fun x hx => by have := h.2 x hx; omega⟩
  have up : ∀ (w : List Int) (c : Int), (w.length = m ∧ ∀ x ∈ w, 0 ≤ x ∧ x ≤ c) → c ≤ 2 * (k + 1 : Nat) → BdU m (k + 1) w := fun w c h1 h2 => ⟨h1.1, fun x hx => by have := h1.2 x hx; omega⟩
  unfold usedS
  rw [Ex.leQ_eq, Ex.leQ_eq]
  by_cases h3 : 3 ≤ n.op
  · have b1 := bump_bd h0 (hn.1 h3)
    by_cases h6 : 6 ≤ n.op
    · simp only [h3, h6, decide_true, cond_true]
      exact up _ _ (bump_bd b1 (hn.2 h6)) (by omega)
    · simp only [h3, h6, decide_true, decide_false, cond_true, cond_false]
      exact up _ _ b1 (by omega)
  · have h6 : ¬ 6 ≤ n.op := by omega
    simp only [h3, h6, decide_false, cond_false]
    exact up _ _ h0 (by omega)

/-- What once is told of. -/
def OkO (B : List (Nat × Sy.Cont)) (v : Value) (l : List NodeD) : Prop := NodesR B v l ∧ l.length ≤ 65536 ∧ ∀ n ∈ l, OperO l.length n

noncomputable def loop1C (B : List (Nat × Sy.Cont)) (v : Value) (l : List NodeD) (g cap : Nat) : Sy.LoopC :=
  ⟨.loop bodyO1, 58, slO v g l.length cap 0, OkO B v l, ⟨[], [(g, .row 3 1 l.length cap (intsV (List.replicate l.length 0)))], 0, B⟩,
    [(⟨fun _ => True, fun _ => [(g, .row 3 1 l.length cap (intsV (usedL l (List.replicate l.length 0))))], fun _ => []⟩, .exit 0, fun _ => [(0, v), (2, .bool false), (3, .slice (some ⟨g, 0, none⟩) l.length cap)])]⟩

theorem usedL_step {l : List NodeD} {k : Nat} {n : NodeD} (h : l[k]? = some n) (u : List Int) : usedL (l.take (k + 1)) u = usedS (usedL (l.take k) u) n := by
  unfold usedL
  rw [List.take_add_one, h]
  simp

theorem usedL_bd {l : List NodeD} {m : Nat} {u : List Int} (hn : ∀ n ∈ l, OperO m n) (hu : BdU m 0 u) : ∀ k, k ≤ l.length → BdU m k (usedL (l.take k) u)
  | 0, _ => by simpa [usedL] using hu
  | k + 1, h => by
    have hk : l[k]? = some l[k] := List.getElem?_eq_getElem (by omega)
    rw [usedL_step hk]
    exact usedS_bd (usedL_bd hn hu k (by omega)) (hn _ (List.getElem_mem _))

theorem ent_tail {x y : Blk} {L : List Blk} : Sy.Ent (x :: y :: L) (y :: L) := Sy.Ent.sub (List.sublist_cons_self _ _)

theorem loop1C_met (B : List (Nat × Sy.Cont)) (v : Value) (l : List NodeD) (g cap : Nat) : Sy.MeetsL Try.prog (loop1C B v l g cap) := by
  refine Sy.loop_ofB (S := fun _ : Nat => Sy.S0) (n := 50) (fn := fOnce) (fun _ => Sy.S0_holds) mixed (body := bodyO1) rfl [0, 2, 3, 11, 12, 13] (fun k : Nat => slO v g l.length cap k)
    (fun k => ⟨g, .row 3 1 l.length cap (intsV (usedL (l.take k) (List.replicate l.length 0))), true⟩ :: rdOf B) (fun k => k ≤ l.length ∧ OkO B v l) (fun k => l.length - k)
    0 (fun h => ⟨Nat.zero_le _, h⟩) (fun p hp => hp) (by simp only [List.take_zero]; exact Sy.Ent.refl _) (o := fun _ => on1_o) (R := fun k f => on1_R v g l.length cap k _ f B) (fun k f _ => on1_run v g l.length cap k _ f B) ?_
  rintro - k f ⟨hk, hR, hlen, hop⟩ ns
  have hb := usedL_bd (u := List.replicate l.length 0) hop ⟨by simp, fun x hx => by rw [List.eq_of_mem_replicate hx]; simp⟩ k hk
  have hnext : ∀ n, l[k]? = some n → usedL (l.take (k + 1)) (List.replicate l.length 0) = usedS (usedL (l.take k) (List.replicate l.length 0)) n := fun n h => usedL_step h _
  generalize hu : usedL (l.take k) (List.replicate l.length 0) = u at *
  simp only [on1_R, Sy.Res.holds]
  refine ⟨fun hlt => ?_, fun hge => ?_⟩
  · have hlt : k < l.length := by rw [Ex.ltQ_eq] at hlt; simpa using hlt
    obtain ⟨n, hn⟩ : ∃ n, l[k]? = some n := ⟨_, List.getElem?_eq_getElem hlt⟩
    have hO := hop n (List.mem_of_getElem? hn)
    have next : ∀ (w : List Int) (x : Blk), w = usedS u n → Sy.leafLB (loop1C B v l g cap) [0, 2, 3, 11, 12, 13] (fun k : Nat => slO v g l.length cap k) (fun k => ⟨g, .row 3 1 l.length cap (intsV (usedL (l.take k) (List.replicate l.length 0))), true⟩ :: rdOf B) (fun k => k ≤ l.length ∧ OkO B v l) (fun k => l.length - k) k
        (.normal, 58, [v, .bool false, .slice (some ⟨g, 0, none⟩) l.length cap, v, .int .i64 (Int.ofNat l.length), .int .i64 (Ex.wrapQ .i64 (Ex.addQ (Int.ofNat k) 1))], x :: ⟨g, .row 3 1 l.length cap (intsV w), true⟩ :: rdOf B) := fun w x hw => by
      refine ⟨rfl, .inl ⟨rfl, k + 1, ⟨by omega, hR, hlen, hop⟩, by show l.length - (k + 1) < l.length - k; omega, ?_, ?_⟩⟩
      · rw [w_succ (by omega)]
        rfl
      · show Sy.Ent _ (⟨g, .row 3 1 l.length cap (intsV (usedL (l.take (k + 1)) (List.replicate l.length 0))), true⟩ :: rdOf B)
        rw [hnext n hn, hw]
        exact ent_tail
    refine ⟨⟨hR.at_ (fun h => by rw [h] at hlt; simp at hlt), by simp, by rw [hR.len]; simpa using hlt⟩, ⟨n.op, hR.op k n hn⟩, fun e0 => ⟨⟨n.val, hR.val k n hn⟩, fun _ => ⟨⟨n.a, hR.a k n hn⟩, fun e2 => ⟨⟨n.b, hR.b k n hn⟩, fun e3 => ?_⟩⟩⟩⟩
    have e0 := e0 _ (hR.op k n hn)
    have e2 := e2 _ (hR.a k n hn)
    have e3 := e3 _ (hR.b k n hn)
    simp only [Value.int.injEq, true_and] at e0 e2 e3
    rw [← e0, ← e2, ← e3]
    have inr : ∀ (w : List Int) (c : Nat), BdU l.length c w → c ≤ 65540 → ∀ i : Int, 0 ≤ i ∧ i < (l.length : Int) → i.toNat < w.length ∧ 0 ≤ w.getD i.toNat 0 ∧ w.getD i.toNat 0 < 1000000 := fun w c hw hc i hi => by
      have := getD_bd hw (i := i.toNat) (by omega)
      refine ⟨by rw [hw.1]; omega, this.1, by omega⟩
    have hb1 : 3 ≤ n.op → BdU l.length (k + 1) (bump u n.a) := fun h3 => by
      have := bump_bd (m := l.length) (k := 2 * k) ⟨hb.1, fun x hx => hb.2 x hx⟩ (hO.1 h3)
      exact ⟨this.1, fun x hx => by have := this.2 x hx; omega⟩
    refine ⟨fun h3 => ?_, fun h3 => ?_⟩
    · have h3' : 3 ≤ n.op := by rw [Ex.leQ_eq] at h3; simpa using h3
      obtain ⟨r1, r2⟩ := inr u k hb (by omega) n.a (hO.1 h3')
      refine ⟨hO.1 h3', ⟨_, row_ints r1⟩, fun e5 => ⟨hO.1 h3', by simp [intsV]; omega, fun h6 => ?_, fun h6 => ?_⟩⟩
      · have h6' : 6 ≤ n.op := by rw [Ex.leQ_eq] at h6; simpa using h6
        rw [row_ints r1] at e5
        simp only [Option.some.injEq, Value.int.injEq, true_and] at e5
        rw [ints_set r2 e5.symm]
        obtain ⟨q1, q2⟩ := inr (bump u n.a) (k + 1) (hb1 h3') (by omega) n.b (hO.2 h6')
        refine ⟨hO.2 h6', ⟨_, row_ints q1⟩, fun e6 => ⟨hO.2 h6', by simp [intsV] at q1 ⊢; omega, ?_⟩⟩
        rw [row_ints q1] at e6
        simp only [Option.some.injEq, Value.int.injEq, true_and] at e6
        rw [ints_set q2 e6.symm]
        exact next _ _ (by unfold usedS; rw [h3, h6]; rfl)
      · rw [row_ints r1] at e5
        simp only [Option.some.injEq, Value.int.injEq, true_and] at e5
        rw [ints_set r2 e5.symm]
        exact next _ _ (by unfold usedS; rw [h3, h6]; rfl)
    · refine ⟨fun h6 => ?_, fun h6 => next _ _ (by unfold usedS; rw [h3, h6]; rfl)⟩
      rw [Ex.leQ_eq] at h3 h6
      simp at h3 h6
      omega
  · have hge : k = l.length := by rw [Ex.ltQ_eq] at hge; simp at hge; omega
    subst hge
    refine ⟨rfl, .inr ⟨by simp, _, List.mem_singleton_self _, rfl, [], rfl, ⟨[0, 1, 2], rfl⟩, ?_, trivial⟩⟩
    have : u = usedL l (List.replicate l.length 0) := by rw [← hu, List.take_length]
    rw [this]
    exact Sy.Ent.sub (List.Sublist.cons_cons _ (List.nil_sublist _))

/-- The same, by the length that the slice tells. -/
noncomputable def loop1D (B : List (Nat × Sy.Cont)) (v : Value) (l : List NodeD) (g cap : Nat) : Sy.LoopC :=
  ⟨.loop bodyO1, 58, slO v g (Sy.lenS v) cap 0, OkO B v l, ⟨[], [(g, .row 3 1 (Sy.lenS v) cap (List.replicate (Sy.lenS v) (.int .i64 0)))], 0, B⟩,
    [(⟨fun _ => True, fun _ => [(g, .row 3 1 (Sy.lenS v) cap (intsV (usedL l (List.replicate l.length 0))))], fun _ => []⟩, .exit 0, fun _ => [(0, v), (2, .bool false), (3, .slice (some ⟨g, 0, none⟩) (Sy.lenS v) cap)])]⟩
theorem loop1D_met (B : List (Nat × Sy.Cont)) (v : Value) (l : List NodeD) (g cap : Nat) : Sy.MeetsL Try.prog (loop1D B v l g cap) := fun hok => by
  have e : Sy.lenS v = l.length := hok.1.len
  have h := loop1C_met B v l g cap hok
  unfold loop1D
  rw [e]
  have hz : intsV (List.replicate l.length 0) = List.replicate l.length (.int .i64 0) := by simp [intsV]
  unfold loop1C at h
  rw [hz] at h
  exact h

end Go.Proofs.Ytbgmkefehfjicaa

/-
  What once tells: the second loop.
-/
namespace Go.Proofs.Ytbgmkefehfjicaa
open Go Go.RowKit
open Sy (Let Blk HasL)

/-- Is number i of m as often an operand as it must be? -/
def passB (m i : Nat) (x : Int) : Bool := bif !(Ex.eqQ x 1 == Ex.ltQ (Int.ofNat i) ((m : Int) - 1)) then true else Ex.ltQ 1 x
noncomputable def failsU (m : Nat) (u : List Int) : Prop := ∃ i x, u[i]? = some x ∧ passB m i x = true

theorem sub_one {m : Nat} (h : m ≤ 65536) : Ex.wrapQ .i64 (Ex.subQ' (Int.ofNat m) 1) = (m : Int) - 1 := by
  rw [Ex.wrapQ_eq, Ex.subQ_eq]
  simp [IntKind.wrap, IntKind.signed, IntKind.bits]
  omega

noncomputable def loop2C (B : List (Nat × Sy.Cont)) (v : Value) (l : List NodeD) (u : List Int) (g cap : Nat) : Sy.LoopC :=
  ⟨.loop bodyO2, 58, slO2 v g l.length cap 0, OkO B v l ∧ u.length = l.length, ⟨[], [(g, .row 3 1 l.length cap (intsV u))], 0, B⟩,
    [(⟨fun _ => failsU l.length u, fun _ => [], fun _ => []⟩, .ret, fun _ => [(2, .bool false)]),
     (⟨fun _ => ¬ failsU l.length u, fun _ => [], fun _ => []⟩, .exit 2, fun _ => [])]⟩

theorem loop2C_met (B : List (Nat × Sy.Cont)) (v : Value) (l : List NodeD) (u : List Int) (g cap : Nat) : Sy.MeetsL Try.prog (loop2C B v l u g cap) := by
  refine Sy.loop_ofB (S := fun _ : Nat => Sy.S0) (n := 50) (fn := fOnce) (fun _ => Sy.S0_holds) mixed (body := bodyO2) rfl [0, 2, 3, 38, 39, 40] (fun k : Nat => slO2 v g l.length cap k)
    (fun _ => ⟨g, .row 3 1 l.length cap (intsV u), true⟩ :: rdOf B) (fun k => k ≤ l.length ∧ (OkO B v l ∧ u.length = l.length) ∧ ∀ i x, i < k → u[i]? = some x → passB l.length i x = false) (fun k => l.length - k)
    0 (fun h => ⟨Nat.zero_le _, h, fun i x hi => by omega⟩) (fun p hp => hp) (Sy.Ent.refl _) (o := fun _ => on2_o) (R := fun k f => on2_R v g l.length cap k _ f B) (fun k f _ => on2_run v g l.length cap k _ f B) ?_
  rintro - k f ⟨hk, ⟨⟨hR, hlen, hop⟩, hul⟩, hinv⟩ ns
  simp only [on2_R, Sy.Res.holds]
  refine ⟨fun hlt => ?_, fun hge => ?_⟩
  · have hlt : k < l.length := by rw [Ex.ltQ_eq] at hlt; simpa using hlt
    have hku : k < u.length := by omega
    refine ⟨⟨by simp, by simpa using hlt⟩, ⟨_, row_ints hku⟩, fun e0 => ⟨hR.sl, ?_⟩⟩
    rw [show Int.toNat (Int.ofNat k) = k from rfl, row_ints hku] at e0
    simp only [Option.some.injEq, Value.int.injEq, true_and] at e0
    have hx : u[k]? = some (u.getD k 0) := by rw [List.getD_eq_getElem?_getD, List.getElem?_eq_getElem hku]; rfl
    rw [hR.len, sub_one hlen, ← e0]
    refine ⟨fun h => ?_, fun h => ?_⟩
    · exact ⟨rfl, .inr ⟨by simp, _, List.mem_cons_self, rfl, [], rfl, ⟨[1], rfl⟩, Sy.Ent.sub (List.nil_sublist _), k, _, hx, h⟩⟩
    · refine ⟨rfl, .inl ⟨rfl, k + 1, ⟨by omega, ⟨⟨hR, hlen, hop⟩, hul⟩, fun i x hi hxi => ?_⟩, by show l.length - (k + 1) < l.length - k; omega, ?_, Sy.Ent.refl _⟩⟩
      · by_cases he : i = k
        · subst he
          rw [hx] at hxi
          injection hxi with hxi
          rw [← hxi]
          exact h
        · exact hinv i x (by omega) hxi
      · rw [w_succ (by omega)]
        rfl
  · have hge : k = l.length := by rw [Ex.ltQ_eq] at hge; simp at hge; omega
    subst hge
    refine ⟨rfl, .inr ⟨by simp, _, List.mem_cons_of_mem _ (List.mem_singleton_self _), rfl, [], rfl, ⟨[], rfl⟩, Sy.Ent.sub (List.nil_sublist _), ?_⟩⟩
    rintro ⟨i, x, hx, hp⟩
    have hi : i < u.length := (List.getElem?_eq_some_iff.1 hx).1
    rw [hinv i x (by omega) hx] at hp
    cases hp

noncomputable def loop2D (B : List (Nat × Sy.Cont)) (v : Value) (l : List NodeD) (u : List Int) (g cap : Nat) : Sy.LoopC :=
  ⟨.loop bodyO2, 58, slO2 v g (Sy.lenS v) cap 0, OkO B v l ∧ u.length = l.length, ⟨[], [(g, .row 3 1 (Sy.lenS v) cap (intsV u))], 0, B⟩,
    [(⟨fun _ => failsU l.length u, fun _ => [], fun _ => []⟩, .ret, fun _ => [(2, .bool false)]),
     (⟨fun _ => ¬ failsU l.length u, fun _ => [], fun _ => []⟩, .exit 2, fun _ => [])]⟩
theorem loop2D_met (B : List (Nat × Sy.Cont)) (v : Value) (l : List NodeD) (u : List Int) (g cap : Nat) : Sy.MeetsL Try.prog (loop2D B v l u g cap) := fun hok => by
  have e : Sy.lenS v = l.length := hok.1.1.len
  have h := loop2C_met B v l u g cap hok
  unfold loop2D
  rw [e]
  exact h

def failsB (m : Nat) : List Int → Nat → Bool
  | [], _ => false
  | x :: r, i => passB m i x || failsB m r (i + 1)
theorem failsB_iff (m : Nat) : ∀ (u : List Int) (i : Nat), failsB m u i = true ↔ ∃ j x, u[j]? = some x ∧ passB m (i + j) x = true
  | [], i => by simp [failsB]
  | y :: r, i => by
    have ih := failsB_iff m r (i + 1)
    simp only [failsB, Bool.or_eq_true, ih]
    constructor
    · rintro (h | ⟨j, x, h1, h2⟩)
      · exact ⟨0, y, rfl, h⟩
      · exact ⟨j + 1, x, by simpa using h1, by rw [show i + (j + 1) = i + 1 + j by omega]; exact h2⟩
    · rintro ⟨j, x, h1, h2⟩
      cases j with
      | zero =>
        simp only [List.getElem?_cons_zero, Option.some.injEq] at h1
        subst h1
        exact .inl h2
      | succ j => exact .inr ⟨j, x, by simpa using h1, by rw [show i + 1 + j = i + (j + 1) by omega]; exact h2⟩
theorem failsU_iff (m : Nat) (u : List Int) : failsU m u ↔ failsB m u 0 = true := by
  rw [failsB_iff]
  simp [failsU]

/-- Is each node but the last an operand just once? -/
noncomputable def onceF (l : List NodeD) : Bool := !(failsB l.length (usedL l (List.replicate l.length 0)) 0)

noncomputable def onceC (B : List (Nat × Sy.Cont)) (v : Value) (l : List NodeD) : Sy.CallC := ⟨fOnce, #[v], OkO B v l, ⟨[], [], 0, B⟩, [Sy.plainO (.bool (onceF l))]⟩
noncomputable def ctxO (B : List (Nat × Sy.Cont)) (v : Value) (l : List NodeD) : Sy.Ctx := Sy.mkS [] [(fOnce, fun a _ => loop1D B v l (Sy.ptrN (a.get 3)) (Sy.capN (a.get 3))), (fOnce, fun a _ => loop2D B v l (usedL l (List.replicate l.length 0)) (Sy.ptrN (a.get 3)) (Sy.capN (a.get 3)))] []
theorem ctxO_holds (B : List (Nat × Sy.Cont)) (v : Value) (l : List NodeD) : (ctxO B v l).holds Try.prog := Sy.mkS_holds (fun _ h => (by cases h)) (fun p hp a L => by
  rcases List.mem_cons.1 hp with rfl | hp
  · exact loop1D_met _ _ _ _ _
  rcases List.mem_singleton.1 hp with rfl
  exact loop2D_met _ _ _ _ _ _) (fun _ h => (by cases h))

end Go.Proofs.Ytbgmkefehfjicaa

/-
  What once tells.
-/
namespace Go.Proofs.Ytbgmkefehfjicaa
set_option linter.unusedVariables false
set_option linter.unusedSimpArgs false
open Go Go.RowKit
open Sy (Let Blk HasL)

def onc_o : Sy.O := (Sy.O.pack 17 0x8401004000840008421 (Sy.O.fork (Sy.O.steps [0, 1] Sy.O.nil) (Sy.O.steps [0, 1] Sy.O.nil)))
noncomputable def onc_R (B : List (Nat × Sy.Cont)) (v : Value) (l : List NodeD) (ns : Nat → Sy.Let) : Sy.Res (Value × List Blk) := .need (∃ (p : Option Addr), ∃ (n : Nat), ∃ (c : Nat), v = Value.slice p n c) (.need ((0 : Int) ≤ Int.ofNat (Sy.lenS v) ∧ Int.toNat (Int.ofNat (Sy.lenS v)) * (8 : Nat) ≤ (281474976710656 : Nat) ∧ Int.toNat (Int.ofNat (Sy.lenS v)) ≤ (9223372036854775807 : Nat)) (.need (∃ (p : Option Addr), ∃ (n : Nat), ∃ (c : Nat), v = Value.slice p n c) (.need (NodesR B v l ∧ List.length l ≤ (65536 : Nat) ∧ ∀ (n : NodeD), n ∈ l → OperO (List.length l) n) (.need (Sy.GotL ([] ++ rdOf B) B) (.hyp True (.need (OkO B v l ∧ List.length (usedL l (List.replicate (List.length l) (0 : Int))) = List.length l) (.need (Sy.GotL ([] ++ List.eraseIdx (Blk.mk (Let.n (ns 0)) (.row (3 : Nat) (1 : Nat) (Sy.lenS v) (Int.toNat (Int.ofNat (Sy.lenS v))) (intsV (usedL l (List.replicate (List.length l) (0 : Int))))) true :: ([] ++ rdOf B)) (nat_lit 0)) B) (.both (.hyp (∃ (i : Nat), ∃ (x : Int), (usedL l (List.replicate (List.length l) (0 : Int)))[i]? = some x ∧ passB (List.length l) i x = true) (.leaf (Value.bool false, [] ++
 ([] ++ List.eraseIdx (Blk.mk (Let.n (ns 0)) (.row (3 : Nat) (1 : Nat) (Sy.lenS v) (Int.toNat (Int.ofNat (Sy.lenS v))) (intsV (usedL l (List.replicate (List.length l) (0 : Int))))) true :: ([] ++ rdOf B)) (nat_lit 0))))) (.hyp (failsU (List.length l) (usedL l (List.replicate (List.length l) (0 : Int))) → False) (.leaf (Value.bool true, [] ++ ([] ++ List.eraseIdx (Blk.mk (Let.n (ns 0)) (.row (3 : Nat) (1 : Nat) (Sy.lenS v) (Int.toNat (Int.ofNat (Sy.lenS v))) (intsV (usedL l (List.replicate (List.length l) (0 : Int))))) true :: ([] ++ rdOf B)) (nat_lit 0)))))))))))))

theorem onc_run (B : List (Nat × Sy.Cont)) (v : Value) (l : List NodeD) : Sy.Ran (Sy.inB Try.prog (ctxO B v l) 50 fOnce #[v] (rdOf B)) onc_o (onc_R B v l) := ⟨fun ns => by kernel_rfl, fun ns => by kernel_rfl⟩

end Go.Proofs.Ytbgmkefehfjicaa

/-
  What once tells: the contract.
-/
namespace Go.Proofs.Ytbgmkefehfjicaa
open Go Go.RowKit
open Sy (Let Blk HasL)

theorem gotL_of {L : List Blk} {B : List (Nat × Sy.Cont)} (h : ∀ p ∈ rdOf B, p ∈ L) : Sy.GotL L B := fun p hp => ⟨⟨p.1, p.2, false⟩, h _ (List.mem_map.2 ⟨p, hp, rfl⟩), rfl, fun _ h => h⟩

/-- Nothing is told of the memory. -/
theorem plainB_leaf {c : Sy.CallC} {v : Value} (ho : Sy.plainO v ∈ c.outs) (hm : c.mem.m = 0) {y : Value × List Blk} (hv : y.1 = v) : Sy.leafB c y :=
  ⟨_, ho, [], hm.symm, hv, Sy.Ent.sub (List.nil_sublist _), trivial⟩

theorem usedL_len (l : List NodeD) (u : List Int) : (usedL l u).length = u.length := by
  unfold usedL
  induction l generalizing u with
  | nil => rfl
  | cons n l ih =>
    rw [List.foldl_cons, ih]
    unfold usedS bump
    cases Ex.leQ 6 n.op <;> cases Ex.leQ 3 n.op <;> simp

theorem onceC_met (B : List (Nat × Sy.Cont)) (v : Value) (l : List NodeD) : Sy.Meets Try.prog (onceC B v l) := by
  refine Sy.meets_ofB (ctxO_holds B v l) mixed (L := rdOf B) (Sy.Ent.refl _) (onc_run B v l) fun hok ns => ?_
  obtain ⟨hR, hlen, hop⟩ := hok
  have hul : (usedL l (List.replicate l.length 0)).length = l.length := by rw [usedL_len]; simp
  simp only [onc_R, Sy.Res.holds]
  have e : Int.toNat (Int.ofNat (Sy.lenS v)) = l.length := by rw [hR.len]; rfl
  refine ⟨hR.sl, ⟨by simp, by rw [e]; omega, by rw [e]; omega⟩, hR.sl, ⟨hR, hlen, hop⟩, gotL_of (fun p hp => by simpa using hp), fun _ => ⟨⟨⟨hR, hlen, hop⟩, hul⟩, gotL_of (fun p hp => by simp [hp]), fun h => ?_, fun h => ?_⟩⟩
  · refine plainB_leaf (List.mem_singleton_self _) rfl ?_
    have : failsB l.length (usedL l (List.replicate l.length 0)) 0 = true := (failsU_iff _ _).1 h
    unfold onceF
    rw [this]
    rfl
  · refine plainB_leaf (List.mem_singleton_self _) rfl ?_
    have : failsB l.length (usedL l (List.replicate l.length 0)) 0 = false := by
      cases hb : failsB l.length (usedL l (List.replicate l.length 0)) 0 with
      | false => rfl
      | true => exact absurd ((failsU_iff _ _).2 hb) h
    unfold onceF
    rw [this]
    rfl

end Go.Proofs.Ytbgmkefehfjicaa

/-
  The program's look at an expression's nodes.
-/
namespace Go.Proofs.Ytbgmkefehfjicaa
set_option linter.unusedVariables false
set_option linter.unusedSimpArgs false
open Go Go.RowKit
open Sy (Let Blk HasL)

abbrev fExpr : FuncId := 43
noncomputable def bodyX : Code := Sy.loopBody Try.f43 0
def slX (v : Value) (loc : Int) (i : Nat) : List (Nat × Value) := [(0, v), (1, .int .i64 loc), (4, .bool false), (9, v), (10, .int .i64 (Int.ofNat (Sy.lenS v))), (11, .int .i64 (Int.ofNat i))]
def ex1_o : Sy.O := (Sy.O.fork (Sy.O.pack 46 0x4e5183c000382d62c0002928398000142418800004000040000021 (Sy.O.fork (Sy.O.pack 20 0x9cc12800020c220000100001 (Sy.O.fork Sy.O.nil Sy.O.nil)) (Sy.O.pack 3 0x0 (Sy.O.fork (Sy.O.pack 32 0xb9a1600005a9283980001424184400002000001 (Sy.O.fork Sy.O.nil Sy.O.nil)) (Sy.O.pack 7 0x8000 (Sy.O.fork (Sy.O.pack 8 0x800008000 (Sy.O.fork Sy.O.nil Sy.O.nil)) (Sy.O.pack 13 0x1000010000100001 (Sy.O.fork Sy.O.nil Sy.O.nil)))))))) Sy.O.nil)
noncomputable def ex1_R (v : Value) (loc : Int) (i : Nat) (f : Nat → Value) (B : List (Nat × Sy.Cont)) (ns : Nat → Sy.Let) : Sy.Res (Exit × Nat × List Value × List Blk) := .br (Ex.ltQ (Int.ofNat i) (Int.ofNat (Sy.lenS v))) (.need ((∃ (n : Nat), ∃ (c : Nat), v = Value.slice (some (Addr.mk (Sy.ptrS v) (Sy.offS v) none)) n c) ∧ (0 : Int) ≤ Int.ofNat i ∧ Int.ofNat i < (↑(Sy.lenS v) : Int)) (.need (∃ (i_1 : Int), HasL (rdOf B) (Sy.ptrS v) (Sy.offS v + Int.toNat (Int.ofNat i) * (4 : Nat)) (.int .i64 i_1)) (.hyp (∀ (u : Value), HasL (rdOf B) (Sy.ptrS v) (Sy.offS v + Int.toNat (Int.ofNat i) * (4 : Nat)) u → u = Value.int .i64 (Let.i (ns 0))) (.need (∃ (i_1 : Int), HasL (rdOf B) (Sy.ptrS v) (Sy.offS v + Int.toNat (Int.ofNat i) * (4 : Nat) + (1 : Nat)) (.int .u64 i_1)) (.hyp (∀ (u : Value), HasL (rdOf B) (Sy.ptrS v) (Sy.offS v + Int.toNat (Int.ofNat i) * (4 : Nat) + (1 : Nat)) u → u = Value.int .u64 (Let.i (ns 1))) (.need (∃ (i_1 : Int), HasL (rdOf B) (Sy.ptrS v) (Sy.offS v + Int.toNat (Int.ofNat i) * (4 : Nat) + (1 : Nat) + (1 : Nat)) (.int .i64 i_1)) (.hyp (∀ (u : Value), HasL (rdOf B) (Sy.ptrS v) (Sy.offS v + Int.toNat (Int.ofNat i) * (4 : Nat) + (1 : Nat) + (1
 : Nat)) u → u = Value.int .i64 (Let.i (ns 2))) (.need (∃ (i_1 : Int), HasL (rdOf B) (Sy.ptrS v) (Sy.offS v + Int.toNat (Int.ofNat i) * (4 : Nat) + (1 : Nat) + (1 : Nat) + (1 : Nat)) (.int .i64 i_1)) (.hyp (∀ (u : Value), HasL (rdOf B) (Sy.ptrS v) (Sy.offS v + Int.toNat (Int.ofNat i) * (4 : Nat) + (1 : Nat) + (1 : Nat) + (1 : Nat)) u → u = Value.int .i64 (Let.i (ns 3))) (.br (Ex.eqQ (Let.i (ns 0)) (1 : Int)) (.br (bif !Ex.eqQ (Let.i (ns 2)) (0 : Int) then true else !Ex.eqQ (Let.i (ns 3)) (0 : Int)) (.leaf (Exit.ret, (113 : Nat), [v, .int .i64 loc, Value.bool false, v, .int .i64 (Int.ofNat (Sy.lenS v)), .int .i64 (Int.ofNat i)], Blk.mk (Let.n (ns 4)) (.obj (.cells (Array.mk [.int .i64 (Let.i (ns 0)), .int .u64 (Let.i (ns 1)), .int .i64 (Let.i (ns 2)), .int .i64 (Let.i (ns 3))]) (114 : Nat))) true :: rdOf B)) (.leaf (Exit.normal, (113 : Nat), [v, .int .i64 loc, Value.bool false, v, .int .i64 (Int.ofNat (Sy.lenS v)), .int .i64 (Ex.wrapQ .i64 (Ex.addQ (Int.ofNat i) (1 : Int)))], Blk.mk
 (Let.n (ns 4)) (.obj (.cells (Array.mk [.int .i64 (Let.i (ns 0)), .int .u64 (Let.i (ns 1)), .int .i64 (Let.i (ns 2)), .int .i64 (Let.i (ns 3))]) (114 : Nat))) true :: rdOf B))) (.br (Ex.eqQ (Let.i (ns 0)) (2 : Int)) (.br (bif !bif Ex.eqQ (Let.i (ns 2)) (0 : Int) then Ex.ltQ (Let.i (ns 1)) (Ex.wrapQ .u64 loc) else false then true else !Ex.eqQ (Let.i (ns 3)) (0 : Int)) (.leaf (Exit.ret, (113 : Nat), [v, .int .i64 loc, Value.bool false, v, .int .i64 (Int.ofNat (Sy.lenS v)), .int .i64 (Int.ofNat i)], Blk.mk (Let.n (ns 4)) (.obj (.cells (Array.mk [.int .i64 (Let.i (ns 0)), .int .u64 (Let.i (ns 1)), .int .i64 (Let.i (ns 2)), .int .i64 (Let.i (ns 3))]) (114 : Nat))) true :: rdOf B)) (.leaf (Exit.normal, (113 : Nat), [v, .int .i64 loc, Value.bool false, v, .int .i64 (Int.ofNat (Sy.lenS v)), .int .i64 (Ex.wrapQ .i64 (Ex.addQ (Int.ofNat i) (1 : Int)))], Blk.mk (Let.n (ns 4)) (.obj (.cells (Array.mk [.int .i64 (Let.i (ns 0)), .int .u64 (Let.i (ns 1)), .int .i64 (Let.i (ns 2)), .int .i64 (Let.i (ns
 3))]) (114 : Nat))) true :: rdOf B))) (.br (bif Ex.leQ (3 : Int) (Let.i (ns 0)) then Ex.leQ (Let.i (ns 0)) (5 : Int) else false) (.br (bif !bif Ex.leQ (0 : Int) (Let.i (ns 2)) then Ex.ltQ (Let.i (ns 2)) (Int.ofNat i) else false then true else !bif Ex.eqQ (Let.i (ns 3)) (0 : Int) then Ex.eqQ (Let.i (ns 1)) (0 : Int) else false) (.leaf (Exit.ret, (113 : Nat), [v, .int .i64 loc, Value.bool false, v, .int .i64 (Int.ofNat (Sy.lenS v)), .int .i64 (Int.ofNat i)], Blk.mk (Let.n (ns 4)) (.obj (.cells (Array.mk [.int .i64 (Let.i (ns 0)), .int .u64 (Let.i (ns 1)), .int .i64 (Let.i (ns 2)), .int .i64 (Let.i (ns 3))]) (114 : Nat))) true :: rdOf B)) (.leaf (Exit.normal, (113 : Nat), [v, .int .i64 loc, Value.bool false, v, .int .i64 (Int.ofNat (Sy.lenS v)), .int .i64 (Ex.wrapQ .i64 (Ex.addQ (Int.ofNat i) (1 : Int)))], Blk.mk (Let.n (ns 4)) (.obj (.cells (Array.mk [.int .i64 (Let.i (ns 0)), .int .u64 (Let.i (ns 1)), .int .i64 (Let.i (ns 2)), .int .i64 (Let.i (ns 3))]) (114 : Nat))) true :: rdOf B)))
 (.br (bif !bif Ex.leQ (0 : Int) (Let.i (ns 2)) then Ex.ltQ (Let.i (ns 2)) (Int.ofNat i) else false then true else !bif bif bif bif Ex.leQ (0 : Int) (Let.i (ns 3)) then Ex.ltQ (Let.i (ns 3)) (Int.ofNat i) else false then Ex.leQ (6 : Int) (Let.i (ns 0)) else false then Ex.leQ (Let.i (ns 0)) (19 : Int) else false then Ex.eqQ (Let.i (ns 1)) (0 : Int) else false) (.leaf (Exit.ret, (113 : Nat), [v, .int .i64 loc, Value.bool false, v, .int .i64 (Int.ofNat (Sy.lenS v)), .int .i64 (Int.ofNat i)], Blk.mk (Let.n (ns 4)) (.obj (.cells (Array.mk [.int .i64 (Let.i (ns 0)), .int .u64 (Let.i (ns 1)), .int .i64 (Let.i (ns 2)), .int .i64 (Let.i (ns 3))]) (114 : Nat))) true :: rdOf B)) (.leaf (Exit.normal, (113 : Nat), [v, .int .i64 loc, Value.bool false, v, .int .i64 (Int.ofNat (Sy.lenS v)), .int .i64 (Ex.wrapQ .i64 (Ex.addQ (Int.ofNat i) (1 : Int)))], Blk.mk (Let.n (ns 4)) (.obj (.cells (Array.mk [.int .i64 (Let.i (ns 0)), .int .u64 (Let.i (ns 1)), .int .i64 (Let.i (ns 2)), .int .i64 (Let.i (ns 3))])
 (114 : Nat))) true :: rdOf B))))))))))))))) (.leaf (Exit.exit (0 : Nat), (113 : Nat), [v, .int .i64 loc, Value.bool false, v, .int .i64 (Int.ofNat (Sy.lenS v)), .int .i64 (Int.ofNat i)], rdOf B))

theorem ex1_run (v : Value) (loc : Int) (i : Nat) (f : Nat → Value) (B : List (Nat × Sy.Cont)) : Sy.Ran (Sy.pieceT Try.prog Sy.S0 50 fExpr bodyX 113 (slX v loc i) ((List.range 113).map f) (rdOf B) [0, 1, 4, 9, 10, 11]) ex1_o (ex1_R v loc i f B) := ⟨fun ns => by kernel_rfl, fun ns => by kernel_rfl⟩

end Go.Proofs.Ytbgmkefehfjicaa

/-
  The program's look at an expression's nodes: the loop.
-/
namespace Go.Proofs.Ytbgmkefehfjicaa
open Go Go.RowKit
open Sy (Let Blk HasL)

/-- May number i not be such a node, over so many locals? -/
noncomputable def badX (loc : Int) (i : Nat) (n : NodeD) : Bool := bif Ex.eqQ n.op 1 then (bif !Ex.eqQ n.a 0 then true else !Ex.eqQ n.b 0)
  else bif Ex.eqQ n.op 2 then (bif !bif Ex.eqQ n.a 0 then Ex.ltQ n.val (Ex.wrapQ .u64 loc) else false then true else !Ex.eqQ n.b 0)
  else bif (bif Ex.leQ 3 n.op then Ex.leQ n.op 5 else false) then (bif !bif Ex.leQ 0 n.a then Ex.ltQ n.a (Int.ofNat i) else false then true else !bif Ex.eqQ n.b 0 then Ex.eqQ n.val 0 else false)
  else (bif !bif Ex.leQ 0 n.a then Ex.ltQ n.a (Int.ofNat i) else false then true
    else !bif bif bif bif Ex.leQ 0 n.b then Ex.ltQ n.b (Int.ofNat i) else false then Ex.leQ 6 n.op else false then Ex.leQ n.op 19 else false then Ex.eqQ n.val 0 else false)

def OkX (B : List (Nat × Sy.Cont)) (v : Value) (l : List NodeD) : Prop := NodesR B v l ∧ l.length < 4398046511104

def anyBad (loc : Int) (l : List NodeD) : Prop := ∃ i n, l[i]? = some n ∧ badX loc i n = true

noncomputable def loopXC (B : List (Nat × Sy.Cont)) (v : Value) (l : List NodeD) (loc : Int) : Sy.LoopC :=
  ⟨.loop bodyX, 113, slX v loc 0, OkX B v l, ⟨[], [], 0, B⟩,
    [(⟨fun _ => anyBad loc l, fun _ => [], fun _ => []⟩, .ret, fun _ => [(4, .bool false)]),
     (⟨fun _ => ¬ anyBad loc l, fun _ => [], fun _ => []⟩, .exit 0, fun _ => [(0, v), (1, .int .i64 loc)])]⟩

theorem loopXC_met (B : List (Nat × Sy.Cont)) (v : Value) (l : List NodeD) (loc : Int) : Sy.MeetsL Try.prog (loopXC B v l loc) := by
  refine Sy.loop_ofB (S := fun _ : Nat => Sy.S0) (n := 50) (fn := fExpr) (fun _ => Sy.S0_holds) mixed (body := bodyX) rfl [0, 1, 4, 9, 10, 11] (fun k : Nat => slX v loc k)
    (fun _ => rdOf B) (fun k => k ≤ l.length ∧ OkX B v l ∧ ∀ i n, i < k → l[i]? = some n → badX loc i n = false) (fun k => l.length - k)
    0 (fun h => ⟨Nat.zero_le _, h, fun i x hi => by omega⟩) (fun p hp => hp) (Sy.Ent.refl _) (o := fun _ => ex1_o) (R := fun k f => ex1_R v loc k f B) (fun k f _ => ex1_run v loc k f B) ?_
  rintro - k f ⟨hk, ⟨hR, hlen⟩, hinv⟩ ns
  simp only [ex1_R, Sy.Res.holds]
  refine ⟨fun hlt => ?_, fun hge => ?_⟩
  · have hlt : k < l.length := by rw [Ex.ltQ_eq, hR.len] at hlt; simpa using hlt
    obtain ⟨n, hn⟩ : ∃ n, l[k]? = some n := ⟨_, List.getElem?_eq_getElem hlt⟩
    have next : ∀ (x : Blk), badX loc k n = false → Sy.leafLB (loopXC B v l loc) [0, 1, 4, 9, 10, 11] (fun k : Nat => slX v loc k) (fun _ => rdOf B) (fun k => k ≤ l.length ∧ OkX B v l ∧ ∀ i n, i < k → l[i]? = some n → badX loc i n = false) (fun k => l.length - k) k
        (.normal, 113, [v, .int .i64 loc, .bool false, v, .int .i64 (Int.ofNat (Sy.lenS v)), .int .i64 (Ex.wrapQ .i64 (Ex.addQ (Int.ofNat k) 1))], x :: rdOf B) := fun x hb => by
      refine ⟨rfl, .inl ⟨rfl, k + 1, ⟨by omega, ⟨hR, hlen⟩, fun i m hi hm => ?_⟩, by show l.length - (k + 1) < l.length - k; omega, ?_, Sy.Ent.sub (List.sublist_cons_self _ _)⟩⟩
      · by_cases he : i = k
        · subst he
          rw [hn] at hm
          injection hm with hm
          rw [← hm]
          exact hb
        · exact hinv i m (by omega) hm
      · rw [w_succ (by omega)]
        rfl
    have stop : ∀ (x : Blk), badX loc k n = true → Sy.leafLB (loopXC B v l loc) [0, 1, 4, 9, 10, 11] (fun k : Nat => slX v loc k) (fun _ => rdOf B) (fun k => k ≤ l.length ∧ OkX B v l ∧ ∀ i n, i < k → l[i]? = some n → badX loc i n = false) (fun k => l.length - k) k
        (.ret, 113, [v, .int .i64 loc, .bool false, v, .int .i64 (Int.ofNat (Sy.lenS v)), .int .i64 (Int.ofNat k)], x :: rdOf B) := fun x hb =>
      ⟨rfl, .inr ⟨by simp, _, List.mem_cons_self, rfl, [], rfl, ⟨[2], rfl⟩, Sy.Ent.sub (List.nil_sublist _), k, n, hn, hb⟩⟩
    refine ⟨⟨hR.at_ (fun h => by rw [h] at hlt; simp at hlt), by simp, by rw [hR.len]; simpa using hlt⟩, ⟨n.op, hR.op k n hn⟩, fun e0 => ⟨⟨n.val, hR.val k n hn⟩, fun e1 => ⟨⟨n.a, hR.a k n hn⟩, fun e2 => ⟨⟨n.b, hR.b k n hn⟩, fun e3 => ?_⟩⟩⟩⟩
    have e0 := e0 _ (hR.op k n hn)
    have e1 := e1 _ (hR.val k n hn)
    have e2 := e2 _ (hR.a k n hn)
    have e3 := e3 _ (hR.b k n hn)
    simp only [Value.int.injEq, true_and] at e0 e1 e2 e3
    rw [← e0, ← e1, ← e2, ← e3]
    refine ⟨fun h1 => ⟨fun hb => stop _ ?_, fun hb => next _ ?_⟩, fun h1 => ⟨fun h2 => ⟨fun hb => stop _ ?_, fun hb => next _ ?_⟩, fun h2 => ⟨fun h3 => ⟨fun hb => stop _ ?_, fun hb => next _ ?_⟩, fun h3 => ⟨fun hb => stop _ ?_, fun hb => next _ ?_⟩⟩⟩⟩
    · unfold badX; rw [h1]; exact hb
    · unfold badX; rw [h1]; exact hb
    · unfold badX; rw [h1, h2]; exact hb
    · unfold badX; rw [h1, h2]; exact hb
    · unfold badX; rw [h1, h2, h3]; exact hb
    · unfold badX; rw [h1, h2, h3]; exact hb
    · unfold badX; rw [h1, h2, h3]; exact hb
    · unfold badX; rw [h1, h2, h3]; exact hb
  · have hge : k = l.length := by rw [Ex.ltQ_eq, hR.len] at hge; simp at hge; omega
    subst hge
    refine ⟨rfl, .inr ⟨by simp, _, List.mem_cons_of_mem _ (List.mem_singleton_self _), rfl, [], rfl, ⟨[0, 1], rfl⟩, Sy.Ent.sub (List.nil_sublist _), ?_⟩⟩
    rintro ⟨i, x, hx, hp⟩
    rw [hinv i x (List.getElem?_eq_some_iff.1 hx).1 hx] at hp
    cases hp

noncomputable def ctxX (B : List (Nat × Sy.Cont)) (v : Value) (l : List NodeD) (loc : Int) : Sy.Ctx := Sy.mkS [(fOnce, fun _ _ => onceC B v l)] [(fExpr, fun _ _ => loopXC B v l loc)] []
theorem ctxX_holds (B : List (Nat × Sy.Cont)) (v : Value) (l : List NodeD) (loc : Int) : (ctxX B v l loc).holds Try.prog := Sy.mkS_holds (fun p hp a L => by
  rcases List.mem_singleton.1 hp with rfl
  exact onceC_met _ _ _) (fun p hp a L => by
  rcases List.mem_singleton.1 hp with rfl
  exact loopXC_met _ _ _ _) (fun _ h => (by cases h))

end Go.Proofs.Ytbgmkefehfjicaa

/-
  The program's look at an expression.
-/
namespace Go.Proofs.Ytbgmkefehfjicaa
set_option linter.unusedVariables false
set_option linter.unusedSimpArgs false
open Go Go.RowKit
open Sy (Let Blk HasL)

def exq_o : Sy.O := (Sy.O.pack 4 0x401 (Sy.O.fork (Sy.O.steps [0, 1] Sy.O.nil) (Sy.O.pack 5 0x108420 (Sy.O.fork (Sy.O.pack 6 0x2000400 Sy.O.nil) (Sy.O.steps [0] Sy.O.nil)))))
noncomputable def exq_R (B : List (Nat × Sy.Cont)) (v : Value) (l : List NodeD) (loc : Int) (ns : Nat → Sy.Let) : Sy.Res (Value × List Blk) := .need (∃ (p : Option Addr), ∃ (n : Nat), ∃ (c : Nat), v = Value.slice p n c) (.need (NodesR B v l ∧ List.length l < (4398046511104 : Nat)) (.need (Sy.GotL ([] ++ rdOf B) B) (.both (.hyp (∃ (i : Nat), ∃ (n : NodeD), l[i]? = some n ∧ badX loc i n = true) (.leaf (Value.bool false, [] ++ ([] ++ rdOf B)))) (.hyp (anyBad loc l → False) (.need (∃ (p : Option Addr), ∃ (n : Nat), ∃ (c : Nat), v = Value.slice p n c) (.need (∃ (p : Option Addr), ∃ (n : Nat), ∃ (c : Nat), v = Value.slice p n c) (.br (bif Ex.ltQ (0 : Int) (Int.ofNat (Sy.lenS v)) then Ex.leQ (Int.ofNat (Sy.lenS v)) (65536 : Int) else false) (.need (NodesR B v l ∧ List.length l ≤ (65536 : Nat) ∧ ∀ (n : NodeD), n ∈ l → OperO (List.length l) n) (.need (Sy.GotL ([] ++ ([] ++ ([] ++ rdOf B))) B) (.hyp True (.leaf (Value.bool (bif true then onceF l else false), [] ++ ([] ++ ([] ++ ([] ++ rdOf B)))))))) (.leaf (Value.bool false, [] ++ ([] ++ rdOf B))))))))))

theorem exq_run (B : List (Nat × Sy.Cont)) (v : Value) (l : List NodeD) (loc : Int) : Sy.Ran (Sy.inB Try.prog (ctxX B v l loc) 50 fExpr #[v, .int .i64 loc] (rdOf B)) exq_o (exq_R B v l loc) := ⟨fun ns => by kernel_rfl, fun ns => by kernel_rfl⟩

end Go.Proofs.Ytbgmkefehfjicaa

/-
  The program's look at an expression: the contract.
-/
namespace Go.Proofs.Ytbgmkefehfjicaa
open Go Go.RowKit
open Sy (Let Blk HasL)

noncomputable def anyBadB (loc : Int) : List NodeD → Nat → Bool
  | [], _ => false
  | n :: r, i => badX loc i n || anyBadB loc r (i + 1)

theorem anyBadB_iff (loc : Int) : ∀ (u : List NodeD) (i : Nat), anyBadB loc u i = true ↔ ∃ j x, u[j]? = some x ∧ badX loc (i + j) x = true
  | [], i => by simp [anyBadB]
  | y :: r, i => by
    have ih := anyBadB_iff loc r (i + 1)
    simp only [anyBadB, Bool.or_eq_true, ih]
    constructor
    · rintro (h | ⟨j, x, h1, h2⟩)
      · exact ⟨0, y, rfl, h⟩
      · exact ⟨j + 1, x, by simpa using h1, by rw [show i + (j + 1) = i + 1 + j by omega]; exact h2⟩
    · rintro ⟨j, x, h1, h2⟩
      cases j with
      | zero =>
        simp only [List.getElem?_cons_zero, Option.some.injEq] at h1
        subst h1
        exact .inl h2
      | succ j => exact .inr ⟨j, x, by simpa using h1, by rw [show i + 1 + j = i + (j + 1) by omega]; exact h2⟩
theorem anyBad_iff (loc : Int) (l : List NodeD) : anyBad loc l ↔ anyBadB loc l 0 = true := by
  rw [anyBadB_iff]
  simp [anyBad]

/-- What the program tells of an expression over so many locals. -/
noncomputable def exprF (loc : Int) (l : List NodeD) : Bool := !(anyBadB loc l 0) && (decide (0 < l.length) && (decide (l.length ≤ 65536) && onceF l))

theorem oper_of {loc : Int} {l : List NodeD} (h : ¬ anyBad loc l) : ∀ n ∈ l, OperO l.length n := fun n hn => by
  obtain ⟨i, hi⟩ := List.mem_iff_getElem?.1 hn
  have hlt : i < l.length := (List.getElem?_eq_some_iff.1 hi).1
  have hb : badX loc i n = false := by
    cases hb : badX loc i n with
    | false => rfl
    | true => exact absurd ⟨i, n, hi, hb⟩ h
  unfold badX at hb
  simp only [Ex.eqQ_eq, Ex.leQ_eq, Ex.ltQ_eq] at hb
  constructor
  · intro h3
    by_cases h1 : n.op = 1
    · omega
    by_cases h2 : n.op = 2
    · omega
    by_cases h5 : n.op ≤ 5
    · simp [h1, h2, h3, h5] at hb
      omega
    · simp [h1, h2, h3, h5] at hb
      omega
  · intro h6
    have h1 : n.op ≠ 1 := by omega
    have h2 : n.op ≠ 2 := by omega
    have h5 : ¬ n.op ≤ 5 := by omega
    simp [h1, h2, h5] at hb
    omega

noncomputable def exprC (B : List (Nat × Sy.Cont)) (v : Value) (l : List NodeD) (loc : Int) : Sy.CallC := ⟨fExpr, #[v, .int .i64 loc], OkX B v l, ⟨[], [], 0, B⟩, [Sy.plainO (.bool (exprF loc l))]⟩

theorem exprC_met (B : List (Nat × Sy.Cont)) (v : Value) (l : List NodeD) (loc : Int) : Sy.Meets Try.prog (exprC B v l loc) := by
  refine Sy.meets_ofB (ctxX_holds B v l loc) mixed (L := rdOf B) (Sy.Ent.refl _) (exq_run B v l loc) fun hok ns => ?_
  obtain ⟨hR, hlen⟩ := hok
  have leaf : ∀ (b : Bool) (L : List Blk), b = exprF loc l → Sy.leafB (exprC B v l loc) (.bool b, L) := fun b L h => plainB_leaf (List.mem_singleton_self _) rfl (by rw [h])
  simp only [exq_R, Sy.Res.holds]
  refine ⟨hR.sl, ⟨hR, hlen⟩, gotL_of (fun p hp => by simpa using hp), fun h => leaf _ _ ?_, fun h => ⟨hR.sl, hR.sl, fun hb => ⟨⟨hR, ?_, oper_of h⟩, gotL_of (fun p hp => by simp [hp]), fun _ => leaf _ _ ?_⟩, fun hb => leaf _ _ ?_⟩⟩
  · have : anyBadB loc l 0 = true := (anyBad_iff _ _).1 h
    simp [exprF, this]
  · rw [hR.len, Ex.ltQ_eq, Ex.leQ_eq] at hb
    by_cases h0 : 0 < l.length
    · simp [h0] at hb
      omega
    · simp [h0] at hb
  · have h1 : anyBadB loc l 0 = false := by
      cases h1 : anyBadB loc l 0 with
      | false => rfl
      | true => exact absurd ((anyBad_iff _ _).2 h1) h
    rw [hR.len, Ex.ltQ_eq, Ex.leQ_eq] at hb
    by_cases h0 : 0 < l.length
    · have hl : l.length ≤ 65536 := by
        simp [h0] at hb
        omega
      simp [exprF, h1, h0, hl]
    · simp [h0] at hb
  · have h1 : anyBadB loc l 0 = false := by
      cases h1 : anyBadB loc l 0 with
      | false => rfl
      | true => exact absurd ((anyBad_iff _ _).2 h1) h
    rw [hR.len, Ex.ltQ_eq, Ex.leQ_eq] at hb
    by_cases h0 : 0 < l.length
    · have hl : ¬ l.length ≤ 65536 := by
        intro hl
        simp [h0] at hb
        omega
      simp [exprF, hl]
    · simp [exprF, h0]

end Go.Proofs.Ytbgmkefehfjicaa

/-
  The program's look at an act: modes, places.
-/
namespace Go.Proofs.Ytbgmkefehfjicaa
set_option linter.unusedVariables false
set_option linter.unusedSimpArgs false
open Go Go.RowKit
open Sy (Let Blk HasL)

structure ActD where
  op : Int
  dst : Int
  base : Int
  size : Int
  ix : List NodeD
  e : List NodeD
  f : List NodeD
  mode : Int
  to : Int
  line : Int
  col : Int

def actV (a : ActD) (iv ev fv : Value) : Value := .agg #[.int .i64 a.op, .int .i64 a.dst, .int .i64 a.base, .int .i64 a.size, iv, ev, fv, .int .i64 a.mode, .int .i64 a.to, .int .i64 a.line, .int .i64 a.col]
def progV (cells : Int) (tv : Value) : Value := .agg #[.int .i64 cells, tv]
def thrV (locals : Int) (av : Value) : Value := .agg #[.int .i64 locals, av]

abbrev fMay : FuncId := 40
abbrev fPlace : FuncId := 42
abbrev fAct : FuncId := 19

noncomputable def ctxP (B : List (Nat × Sy.Cont)) (v : Value) (l : List NodeD) (loc : Int) : Sy.Ctx := Sy.mkS [(fExpr, fun _ _ => exprC B v l loc)] [] []
theorem ctxP_holds (B : List (Nat × Sy.Cont)) (v : Value) (l : List NodeD) (loc : Int) : (ctxP B v l loc).holds Try.prog := Sy.mkS_holds (fun p hp a L => by
  rcases List.mem_singleton.1 hp with rfl
  exact exprC_met _ _ _ _) (fun _ h => (by cases h)) (fun _ h => (by cases h))

def may_o : Sy.O := (Sy.O.fork (Sy.O.steps [1, 1] Sy.O.nil) (Sy.O.fork (Sy.O.steps [1, 1] Sy.O.nil) (Sy.O.fork (Sy.O.steps [0, 1] Sy.O.nil) (Sy.O.fork (Sy.O.steps [0, 1] Sy.O.nil) (Sy.O.fork (Sy.O.steps [1] Sy.O.nil) (Sy.O.fork (Sy.O.steps [1] Sy.O.nil) Sy.O.nil))))))
noncomputable def may_R (op : Int) (mode : Int) (ns : Nat → Sy.Let) : Sy.Res (Value × List Blk) := .br (Ex.eqQ op (2 : Int)) (.leaf (Value.bool (bif bif Ex.eqQ mode (1 : Int) then true else Ex.eqQ mode (2 : Int) then true else Ex.eqQ mode (5 : Int)), [])) (.br (Ex.eqQ op (3 : Int)) (.leaf (Value.bool (bif bif Ex.eqQ mode (1 : Int) then true else Ex.eqQ mode (3 : Int) then true else Ex.eqQ mode (5 : Int)), [])) (.br (Ex.eqQ op (4 : Int)) (.leaf (Value.bool (bif Ex.leQ (1 : Int) mode then Ex.leQ mode (5 : Int) else false), [])) (.br (Ex.eqQ op (5 : Int)) (.leaf (Value.bool (bif Ex.leQ (1 : Int) mode then Ex.leQ mode (5 : Int) else false), [])) (.br (Ex.eqQ op (6 : Int)) (.leaf (Value.bool (bif Ex.leQ (1 : Int) mode then Ex.leQ mode (5 : Int) else false), [])) (.br (Ex.eqQ op (7 : Int)) (.leaf (Value.bool (bif Ex.leQ (2 : Int) mode then Ex.leQ mode (5 : Int) else false), [])) (.leaf (Value.bool (Ex.eqQ mode (0 : Int)), [])))))))

theorem may_run (op mode : Int) : Sy.Ran (Sy.inB Try.prog Sy.S0 50 fMay #[.int .i64 op, .int .i64 mode] []) may_o (may_R op mode) := ⟨fun ns => by kernel_rfl, fun ns => by kernel_rfl⟩
def plc_o : Sy.O := (Sy.O.pack 28 0x400000010040100401000200802008020 (Sy.O.fork Sy.O.nil (Sy.O.pack 3 0x20 (Sy.O.fork (Sy.O.pack 7 0x2000400 (Sy.O.fork (Sy.O.pack 4 0x0 Sy.O.nil) (Sy.O.pack 6 0x400 (Sy.O.fork (Sy.O.pack 12 0x4020800000400 Sy.O.nil) (Sy.O.pack 4 0x0 Sy.O.nil))))) (Sy.O.pack 10 0x40000000 (Sy.O.fork (Sy.O.pack 12 0x4020800000400 Sy.O.nil) (Sy.O.pack 4 0x0 Sy.O.nil)))))))
noncomputable def plc_R (B : List (Nat × Sy.Cont)) (op : Int) (dst : Int) (base : Int) (size : Int) (mode : Int) (to : Int) (line : Int) (col : Int) (iv : Value) (ev : Value) (fv : Value) (tv : Value) (ix : List NodeD) (cells : Int) (loc : Int) (ns : Nat → Sy.Let) : Sy.Res (Value × List Blk) := .br (bif bif bif bif Ex.ltQ size (0 : Int) then true else Ex.ltQ (1024 : Int) size then true else !Ex.eqQ (Ex.andQ .i64 size (Ex.wrapQ .i64 (Ex.subQ' size (1 : Int)))) (0 : Int) then true else Ex.ltQ base (0 : Int) then true else Ex.ltQ (Ex.wrapQ .i64 (Ex.subQ' cells (bif Ex.ltQ (1 : Int) size then size else (1 : Int)))) base) (.leaf (Value.bool false, Blk.mk (Let.n (ns 1)) (.obj (.cells (Array.mk [.int .i64 cells, tv]) (27 : Nat))) true :: Blk.mk (Let.n (ns 0)) (.obj (.cells (Array.mk [.int .i64 op, .int .i64 dst, .int .i64 base, .int .i64 size, iv, ev, fv, .int .i64 mode, .int .i64 to, .int .i64 line, .int .i64 col]) (67 : Nat))) true :: rdOf B)) (.br (Ex.eqQ size (0 : Int)) (.need (∃ (p : Option Addr), ∃ (n : Nat), ∃ (c : Nat), iv = Value.slice p n c) (.br (bif true then Ex.eqQ (Int.ofNat (Sy.lenS iv)) (0 : Int) else false) (.leaf (Value.bool true, Blk.mk (Let.n (ns 1)) (.obj (.cells (Array.mk [.int .i64 cells, tv]) (27 : Nat))) true :: Blk.mk (Let.n (ns 0)) (.obj (.cells (Array.mk
 [.int .i64 op, .int .i64 dst, .int .i64 base, .int .i64 size, iv, ev, fv, .int .i64 mode, .int .i64 to, .int .i64 line, .int .i64 col]) (67 : Nat))) true :: rdOf B)) (.br (Ex.ltQ (0 : Int) size) (.need (NodesR B iv ix ∧ List.length ix < (4398046511104 : Nat)) (.need (Sy.GotL (rdOf B) B) (.hyp True (.leaf (Value.bool (bif false then true else bif true then exprF loc ix else false), Blk.mk (Let.n (ns 1)) (.obj (.cells (Array.mk [.int .i64 cells, tv]) (27 : Nat))) true :: Blk.mk (Let.n (ns 0)) (.obj (.cells (Array.mk [.int .i64 op, .int .i64 dst, .int .i64 base, .int .i64 size, iv, ev, fv, .int .i64 mode, .int .i64 to, .int .i64 line, .int .i64 col]) (67 : Nat))) true :: rdOf B))))) (.leaf (Value.bool false, Blk.mk (Let.n (ns 1)) (.obj (.cells (Array.mk [.int .i64 cells, tv]) (27 : Nat))) true :: Blk.mk (Let.n (ns 0)) (.obj (.cells (Array.mk [.int .i64 op, .int .i64 dst, .int .i64 base, .int .i64 size, iv, ev, fv, .int .i64 mode, .int .i64 to, .int .i64 line, .int .i64 col]) (67 : Nat)))
 true :: rdOf B))))) (.br (Ex.ltQ (0 : Int) size) (.need (NodesR B iv ix ∧ List.length ix < (4398046511104 : Nat)) (.need (Sy.GotL (rdOf B) B) (.hyp True (.leaf (Value.bool (bif false then true else bif true then exprF loc ix else false), Blk.mk (Let.n (ns 1)) (.obj (.cells (Array.mk [.int .i64 cells, tv]) (27 : Nat))) true :: Blk.mk (Let.n (ns 0)) (.obj (.cells (Array.mk [.int .i64 op, .int .i64 dst, .int .i64 base, .int .i64 size, iv, ev, fv, .int .i64 mode, .int .i64 to, .int .i64 line, .int .i64 col]) (67 : Nat))) true :: rdOf B))))) (.leaf (Value.bool false, Blk.mk (Let.n (ns 1)) (.obj (.cells (Array.mk [.int .i64 cells, tv]) (27 : Nat))) true :: Blk.mk (Let.n (ns 0)) (.obj (.cells (Array.mk [.int .i64 op, .int .i64 dst, .int .i64 base, .int .i64 size, iv, ev, fv, .int .i64 mode, .int .i64 to, .int .i64 line, .int .i64 col]) (67 : Nat))) true :: rdOf B))))

theorem plc_run (B : List (Nat × Sy.Cont)) (op dst base size mode to line col : Int) (iv ev fv tv : Value) (ix : List NodeD) (cells loc : Int) : Sy.Ran (Sy.inB Try.prog (ctxP B iv ix loc) 50 fPlace #[.agg #[.int .i64 op, .int .i64 dst, .int .i64 base, .int .i64 size, iv, ev, fv, .int .i64 mode, .int .i64 to, .int .i64 line, .int .i64 col], progV cells tv, .int .i64 loc] (rdOf B)) plc_o (plc_R B op dst base size mode to line col iv ev fv tv ix cells loc) := ⟨fun ns => by kernel_rfl, fun ns => by kernel_rfl⟩

end Go.Proofs.Ytbgmkefehfjicaa

/-
  The program's look at an act: contracts of modes and places.
-/
namespace Go.Proofs.Ytbgmkefehfjicaa
open Go Go.RowKit
open Sy (Let Blk HasL)

/-- May an act have that mode? -/
noncomputable def mayF (op mode : Int) : Bool := bif Ex.eqQ op 2 then (bif bif Ex.eqQ mode 1 then true else Ex.eqQ mode 2 then true else Ex.eqQ mode 5)
  else bif Ex.eqQ op 3 then (bif bif Ex.eqQ mode 1 then true else Ex.eqQ mode 3 then true else Ex.eqQ mode 5)
  else bif Ex.eqQ op 4 then (bif Ex.leQ 1 mode then Ex.leQ mode 5 else false)
  else bif Ex.eqQ op 5 then (bif Ex.leQ 1 mode then Ex.leQ mode 5 else false)
  else bif Ex.eqQ op 6 then (bif Ex.leQ 1 mode then Ex.leQ mode 5 else false)
  else bif Ex.eqQ op 7 then (bif Ex.leQ 2 mode then Ex.leQ mode 5 else false)
  else Ex.eqQ mode 0

noncomputable def mayC (op mode : Int) : Sy.CallC := ⟨fMay, #[.int .i64 op, .int .i64 mode], True, ⟨[], [], 0, []⟩, [Sy.plainO (.bool (mayF op mode))]⟩
theorem mayC_met (op mode : Int) : Sy.Meets Try.prog (mayC op mode) := by
  refine Sy.meets_ofB Sy.S0_holds mixed (L := []) (Sy.Ent.refl _) (may_run op mode) fun _ ns => ?_
  simp only [may_R, Sy.Res.holds]
  have leaf : ∀ b, b = mayF op mode → Sy.leafB (mayC op mode) (.bool b, []) := fun b h => plainB_leaf (List.mem_singleton_self _) rfl (by rw [h])
  unfold mayF at leaf
  refine ⟨fun h1 => leaf _ ?_, fun h1 => ⟨fun h2 => leaf _ ?_, fun h2 => ⟨fun h3 => leaf _ ?_, fun h3 => ⟨fun h4 => leaf _ ?_, fun h4 => ⟨fun h5 => leaf _ ?_, fun h5 => ⟨fun h6 => leaf _ ?_, fun h6 => leaf _ ?_⟩⟩⟩⟩⟩⟩
  all_goals simp_all

/-- May there be such a place? -/
noncomputable def placeF (size base cells loc : Int) (ix : List NodeD) : Bool := bif (bif bif bif bif Ex.ltQ size 0 then true else Ex.ltQ 1024 size then true
  else !Ex.eqQ (Ex.andQ .i64 size (Ex.wrapQ .i64 (Ex.subQ' size 1))) 0 then true else Ex.ltQ base 0 then true
  else Ex.ltQ (Ex.wrapQ .i64 (Ex.subQ' cells (bif Ex.ltQ 1 size then size else 1))) base) then false
  else bif Ex.eqQ size 0 then decide (ix.length = 0) else exprF loc ix

noncomputable def placeC (B : List (Nat × Sy.Cont)) (op dst base size mode to line col : Int) (iv ev fv tv : Value) (ix : List NodeD) (cells loc : Int) : Sy.CallC :=
  ⟨fPlace, #[.agg #[.int .i64 op, .int .i64 dst, .int .i64 base, .int .i64 size, iv, ev, fv, .int .i64 mode, .int .i64 to, .int .i64 line, .int .i64 col], progV cells tv, .int .i64 loc], OkX B iv ix, ⟨[], [], 0, B⟩, [Sy.plainO (.bool (placeF size base cells loc ix))]⟩

theorem placeC_met (B : List (Nat × Sy.Cont)) (op dst base size mode to line col : Int) (iv ev fv tv : Value) (ix : List NodeD) (cells loc : Int) : Sy.Meets Try.prog (placeC B op dst base size mode to line col iv ev fv tv ix cells loc) := by
  refine Sy.meets_ofB (ctxP_holds B iv ix loc) mixed (L := rdOf B) (Sy.Ent.refl _) (plc_run B op dst base size mode to line col iv ev fv tv ix cells loc) fun hok ns => ?_
  obtain ⟨hR, hlen⟩ := hok
  simp only [plc_R, Sy.Res.holds]
  have leaf : ∀ b L, b = placeF size base cells loc ix → Sy.leafB (placeC B op dst base size mode to line col iv ev fv tv ix cells loc) (.bool b, L) := fun b L h => plainB_leaf (List.mem_singleton_self _) rfl (by rw [h])
  have got : Sy.GotL (rdOf B) B := gotL_of fun p hp => hp
  have hl : Ex.eqQ (Int.ofNat (Sy.lenS iv)) 0 = decide (ix.length = 0) := by
    rw [hR.len, Ex.eqQ_eq]
    by_cases h : ix.length = 0 <;> simp [h]
  rw [hl]
  refine ⟨fun h1 => leaf _ _ ?_, fun h1 => ⟨fun h2 => ⟨hR.sl, fun h3 => leaf _ _ ?_, fun h3 => ⟨fun h4 => ?_, fun h4 => leaf _ _ ?_⟩⟩, fun h2 => ⟨fun h4 => ⟨⟨hR, hlen⟩, got, fun _ => leaf _ _ ?_⟩, fun h4 => ?_⟩⟩⟩
  · unfold placeF
    rw [h1]
    rfl
  · unfold placeF
    rw [h1, h2]
    simpa using h3.symm
  · exfalso
    rw [Ex.eqQ_eq] at h2
    rw [Ex.ltQ_eq] at h4
    simp at h2 h4
    omega
  · unfold placeF
    rw [h1, h2]
    simpa using h3.symm
  · unfold placeF
    rw [h1, h2]
    rfl
  · exfalso
    rw [Ex.eqQ_eq] at h2
    rw [Ex.ltQ_eq] at h4
    have h5 : Ex.ltQ size 0 = false := by
      cases h5 : Ex.ltQ size 0 with
      | false => rfl
      | true => rw [h5] at h1; simp at h1
    rw [Ex.ltQ_eq] at h5
    simp at h2 h4 h5
    omega

end Go.Proofs.Ytbgmkefehfjicaa
