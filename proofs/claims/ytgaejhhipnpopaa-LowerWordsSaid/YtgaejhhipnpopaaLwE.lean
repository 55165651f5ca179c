/-
  Expressions: their nodes; check.expression.
-/
import Derived.Test.YtgaejhhipnpopaaLwS
namespace Go.Proofs.Ytgaejhhipnpopaa
set_option linter.unusedVariables false
set_option linter.unusedSimpArgs false
open Go Go.RowKit
open Sy (Let Blk)

/-- A node. -/
structure Nd where
  op : Int
  val : Int
  a : Int
  b : Int
  deriving DecidableEq

def Nd.cells (n : Nd) : List Value := [.int .i64 n.op, .int .u64 n.val, .int .i64 n.a, .int .i64 n.b]
def ndCells (l : List Nd) : List Value := l.flatMap Nd.cells

/-- May it be node number i? -/
def nodeOk (loc : Int) (i : Nat) (n : Nd) : Prop :=
  (n.op = 1 ∧ n.a = 0 ∧ n.b = 0) ∨ (n.op = 2 ∧ n.a = 0 ∧ n.b = 0 ∧ n.val < loc) ∨ (3 ≤ n.op ∧ n.op ≤ 5 ∧ n.val = 0 ∧ 0 ≤ n.a ∧ n.a < i ∧ n.b = 0) ∨
  (6 ≤ n.op ∧ n.op ≤ 19 ∧ n.val = 0 ∧ 0 ≤ n.a ∧ n.a < i ∧ 0 ≤ n.b ∧ n.b < i)

def Nd.refs (n : Nd) : List Nat := if n.op < 3 then [] else if n.op < 6 then [n.a.toNat] else [n.a.toNat, n.b.toNat]
def refs (l : List Nd) : List Nat := l.flatMap Nd.refs

def nodesOk (loc : Int) (l : List Nd) : Prop := ∀ i n, l[i]? = some n → nodeOk loc i n

/-- Each node but the last is an operand just once. -/
def onceOk (l : List Nd) : Prop := ∀ j, j < l.length → (refs l).count j = if j + 1 < l.length then 1 else 0

def isExpr (loc : Int) (l : List Nd) : Prop := nodesOk loc l ∧ 0 < l.length ∧ l.length ≤ 65536 ∧ onceOk l

noncomputable def tru (p : Prop) : Bool := @decide p (Classical.propDecidable p)

abbrev tN : TypeId := 33
abbrev fCE : FuncId := 64
noncomputable def bodyCE : Code := Sy.loopBody Try.f64 0

def slCE (g o c n k : Nat) (loc : Int) : List (Nat × Value) := [(0, .slice (some ⟨g, o, none⟩) n c), (1, .int .i64 loc), (4, .bool false), (9, .slice (some ⟨g, o, none⟩) n c), (10, .int .i64 n), (11, .int .i64 k)]

def ceB_o : Sy.O := (Sy.O.fork (Sy.O.steps [1, 0, 1, 1, 1, 1, 1, 1, 0, 0, 0, 0, 0, 1, 0, 0, 2, 3, 4, 1, 5, 0, 0, 6, 7, 8, 9, 10, 0, 0, 11, 12, 13, 1, 14, 0, 0, 15, 16, 17, 18, 19, 0, 0] (Sy.O.fork (Sy.O.steps [0, 0, 1, 0, 0, 2, 3, 4, 0, 0, 5, 6, 7, 1] (Sy.O.fork Sy.O.nil Sy.O.nil)) (Sy.O.steps [0, 0] (Sy.O.fork (Sy.O.steps [0, 0, 1, 0, 0, 2, 3, 4, 1, 5, 0, 0, 6, 7, 8, 9, 10, 11, 0, 0, 12, 13, 14, 1] (Sy.O.fork Sy.O.nil Sy.O.nil)) (Sy.O.steps [0, 0, 1, 0, 0] (Sy.O.fork (Sy.O.steps [0, 0, 1, 0, 0, 1] (Sy.O.fork Sy.O.nil Sy.O.nil)) (Sy.O.steps [1, 0, 0, 1, 0, 0, 1, 0, 0, 1] (Sy.O.fork Sy.O.nil Sy.O.nil)))))))) Sy.O.nil)
noncomputable def ceB_R (g : Nat) (o : Nat) (c : Nat) (n : Nat) (k : Nat) (loc : Int) (xs : List Value) (rest : List Value) (ns : Nat → Sy.Let) : Sy.Res (Exit × Nat × List Value × List Blk) := Sy.Res.br (Ex.ltQ (↑k : Int) (↑n : Int))
 (Sy.Res.need ((0 : Int) ≤ (↑k : Int) ∧ (↑k : Int) < (↑n : Int))
 (Sy.Res.need
 (∃ (i : Int),
 Sy.Cont.at (Sy.Cont.seg o xs) (o + Int.toNat (↑k : Int) * (4 : Nat)) = some (Value.int IntKind.i64 i))
 (Sy.Res.hyp
 (Sy.Cont.at (Sy.Cont.seg o xs) (o + Int.toNat (↑k : Int) * (4 : Nat)) =
 some (Value.int IntKind.i64 (Let.i (ns (0 : Nat)))))
 (Sy.Res.need
 (∃ (i : Int),
 Sy.Cont.at (Sy.Cont.seg o xs) (o + Int.toNat (↑k : Int) * (4 : Nat) + (1 : Nat)) =
 some (Value.int IntKind.u64 i))
 (Sy.Res.hyp
 (Sy.Cont.at (Sy.Cont.seg o xs) (o + Int.toNat (↑k : Int) * (4 : Nat) + (1 : Nat)) =
 some (Value.int IntKind.u64 (Let.i (ns (1 : Nat)))))
 (Sy.Res.need
 (∃ (i : Int),
 Sy.Cont.at (Sy.Cont.seg o xs) (o + Int.toNat (↑k : Int) * (4 : Nat) + (1 : Nat) + (1 : Nat)) =
 some (Value.int IntKind.i64 i))
 (Sy.Res.hyp
 (Sy.Cont.at (Sy.Cont.seg o xs) (o + Int.toNat (↑k : Int) * (4 : Nat) + (1 : Nat) + (1 : Nat)) =
 some (Value.int IntKind.i64 (Let.i (ns (2 : Nat)))))
 (Sy.Res.need
 (∃ (i : Int),
 Sy.Cont.at (Sy.Cont.seg o xs)
 (o + Int.toNat (↑k : Int) * (4 : Nat) + (1 : Nat) + (1 : Nat) + (1 : Nat)) =
 some (Value.int IntKind.i64 i))
 (Sy.Res.hyp
 (Sy.Cont.at (Sy.Cont.seg o xs)
 (o + Int.toNat (↑k : Int) * (4 : Nat) + (1 : Nat) + (1 : Nat) + (1 : Nat)) =
 some (Value.int IntKind.i64 (Let.i (ns (3 : Nat)))))
 (Sy.Res.br (Ex.eqQ (Let.i (ns (0 : Nat))) (1 : Int))
 (Sy.Res.br
 (bif !Ex.eqQ (Let.i (ns (2 : Nat))) (0 : Int) then true
 else !Ex.eqQ (Let.i (ns (3 : Nat))) (0 : Int))
 (Sy.Res.leaf
 (Exit.ret, (113 : Nat),
 [Value.slice (some (Addr.mk g o none)) n c, Value.int IntKind.i64 loc, Value.bool false,
 Value.slice (some (Addr.mk g o none)) n c, Value.int IntKind.i64 (↑n : Int),
 Value.int IntKind.i64 (↑k : Int)],
 [Blk.mk (Let.n (ns (4 : Nat)))
 (Sy.Cont.obj
 (Obj.cells
 (Array.mk
 [Value.int IntKind.i64 (Let.i (ns (0 : Nat))),
 Value.int IntKind.u64 (Let.i (ns (1 : Nat))),
 Value.int IntKind.i64 (Let.i (ns (2 : Nat))),
 Value.int IntKind.i64 (Let.i (ns (3 : Nat)))])
 (33 : Nat)))
 true,
 Blk.mk g (Sy.Cont.seg o xs) false]))
 (Sy.Res.leaf
 (Exit.normal, (113 : Nat),
 [Value.slice (some (Addr.mk g o none)) n c, Value.int IntKind.i64 loc, Value.bool false,
 Value.slice (some (Addr.mk g o none)) n c, Value.int IntKind.i64 (↑n : Int),
 Value.int IntKind.i64 (Ex.wrapQ IntKind.i64 (Ex.addQ (↑k : Int) (1 : Int)))],
 [Blk.mk (Let.n (ns (4 : Nat)))
 (Sy.Cont.obj
 (Obj.cells
 (Array.mk
 [Value.int IntKind.i64 (Let.i (ns (0 : Nat))),
 Value.int IntKind.u64 (Let.i (ns (1 : Nat))),
 Value.int IntKind.i64 (Let.i (ns (2 : Nat))),
 Value.int IntKind.i64 (Let.i (ns (3 : Nat)))])
 (33 : Nat)))
 true,
 Blk.mk g (Sy.Cont.seg o xs) false])))
 (Sy.Res.br (Ex.eqQ (Let.i (ns (0 : Nat))) (2 : Int))
 (Sy.Res.br
 (bif
 !bif Ex.eqQ (Let.i (ns (2 : Nat))) (0 : Int) then
 Ex.ltQ (Let.i (ns (1 : Nat))) (Ex.wrapQ IntKind.u64 loc)
 else false then
 true
 else !Ex.eqQ (Let.i (ns (3 : Nat))) (0 : Int))
 (Sy.Res.leaf
 (Exit.ret, (113 : Nat),
 [Value.slice (some (Addr.mk g o none)) n c, Value.int IntKind.i64 loc, Value.bool false,
 Value.slice (some (Addr.mk g o none)) n c, Value.int IntKind.i64 (↑n : Int),
 Value.int IntKind.i64 (↑k : Int)],
 [Blk.mk (Let.n (ns (4 : Nat)))
 (Sy.Cont.obj
 (Obj.cells
 (Array.mk
 [Value.int IntKind.i64 (Let.i (ns (0 : Nat))),
 Value.int IntKind.u64 (Let.i (ns (1 : Nat))),
 Value.int IntKind.i64 (Let.i (ns (2 : Nat))),
 Value.int IntKind.i64 (Let.i (ns (3 : Nat)))])
 (33 : Nat)))
 true,
 Blk.mk g (Sy.Cont.seg o xs) false]))
 (Sy.Res.leaf
 (Exit.normal, (113 : Nat),
 [Value.slice (some (Addr.mk g o none)) n c, Value.int IntKind.i64 loc, Value.bool false,
 Value.slice (some (Addr.mk g o none)) n c, Value.int IntKind.i64 (↑n : Int),
 Value.int IntKind.i64 (Ex.wrapQ IntKind.i64 (Ex.addQ (↑k : Int) (1 : Int)))],
 [Blk.mk (Let.n (ns (4 : Nat)))
 (Sy.Cont.obj
 (Obj.cells
 (Array.mk
 [Value.int IntKind.i64 (Let.i (ns (0 : Nat))),
 Value.int IntKind.u64 (Let.i (ns (1 : Nat))),
 Value.int IntKind.i64 (Let.i (ns (2 : Nat))),
 Value.int IntKind.i64 (Let.i (ns (3 : Nat)))])
 (33 : Nat)))
 true,
 Blk.mk g (Sy.Cont.seg o xs) false])))
 (Sy.Res.br
 (bif Ex.leQ (3 : Int) (Let.i (ns (0 : Nat))) then Ex.leQ (Let.i (ns (0 : Nat))) (5 : Int)
 else false)
 (Sy.Res.br
 (bif
 !bif Ex.leQ (0 : Int) (Let.i (ns (2 : Nat))) then
 Ex.ltQ (Let.i (ns (2 : Nat))) (↑k : Int)
 else false then
 true
 else
 !bif Ex.eqQ (Let.i (ns (3 : Nat))) (0 : Int) then Ex.eqQ (Let.i (ns (1 : Nat))) (0 : Int)
 else false)
 (Sy.Res.leaf
 (Exit.ret, (113 : Nat),
 [Value.slice (some (Addr.mk g o none)) n c, Value.int IntKind.i64 loc, Value.bool false,
 Value.slice (some (Addr.mk g o none)) n c, Value.int IntKind.i64 (↑n : Int),
 Value.int IntKind.i64 (↑k : Int)],
 [Blk.mk (Let.n (ns (4 : Nat)))
 (Sy.Cont.obj
 (Obj.cells
 (Array.mk
 [Value.int IntKind.i64 (Let.i (ns (0 : Nat))),
 Value.int IntKind.u64 (Let.i (ns (1 : Nat))),
 Value.int IntKind.i64 (Let.i (ns (2 : Nat))),
 Value.int IntKind.i64 (Let.i (ns (3 : Nat)))])
 (33 : Nat)))
 true,
 Blk.mk g (Sy.Cont.seg o xs) false]))
 (Sy.Res.leaf
 (Exit.normal, (113 : Nat),
 [Value.slice (some (Addr.mk g o none)) n c, Value.int IntKind.i64 loc, Value.bool false,
 Value.slice (some (Addr.mk g o none)) n c, Value.int IntKind.i64 (↑n : Int),
 Value.int IntKind.i64 (Ex.wrapQ IntKind.i64 (Ex.addQ (↑k : Int) (1 : Int)))],
 [Blk.mk (Let.n (ns (4 : Nat)))
 (Sy.Cont.obj
 (Obj.cells
 (Array.mk
 [Value.int IntKind.i64 (Let.i (ns (0 : Nat))),
 Value.int IntKind.u64 (Let.i (ns (1 : Nat))),
 Value.int IntKind.i64 (Let.i (ns (2 : Nat))),
 Value.int IntKind.i64 (Let.i (ns (3 : Nat)))])
 (33 : Nat)))
 true,
 Blk.mk g (Sy.Cont.seg o xs) false])))
 (Sy.Res.br
 (bif
 !bif Ex.leQ (0 : Int) (Let.i (ns (2 : Nat))) then
 Ex.ltQ (Let.i (ns (2 : Nat))) (↑k : Int)
 else false then
 true
 else
 !bif
 bif
 bif
 bif Ex.leQ (0 : Int) (Let.i (ns (3 : Nat))) then
 Ex.ltQ (Let.i (ns (3 : Nat))) (↑k : Int)
 else false then
 Ex.leQ (6 : Int) (Let.i (ns (0 : Nat)))
 else false then
 Ex.leQ (Let.i (ns (0 : Nat))) (19 : Int)
 else false then
 Ex.eqQ (Let.i (ns (1 : Nat))) (0 : Int)
 else false)
 (Sy.Res.leaf
 (Exit.ret, (113 : Nat),
 [Value.slice (some (Addr.mk g o none)) n c, Value.int IntKind.i64 loc, Value.bool false,
 Value.slice (some (Addr.mk g o none)) n c, Value.int IntKind.i64 (↑n : Int),
 Value.int IntKind.i64 (↑k : Int)],
 [Blk.mk (Let.n (ns (4 : Nat)))
 (Sy.Cont.obj
 (Obj.cells
 (Array.mk
 [Value.int IntKind.i64 (Let.i (ns (0 : Nat))),
 Value.int IntKind.u64 (Let.i (ns (1 : Nat))),
 Value.int IntKind.i64 (Let.i (ns (2 : Nat))),
 Value.int IntKind.i64 (Let.i (ns (3 : Nat)))])
 (33 : Nat)))
 true,
 Blk.mk g (Sy.Cont.seg o xs) false]))
 (Sy.Res.leaf
 (Exit.normal, (113 : Nat),
 [Value.slice (some (Addr.mk g o none)) n c, Value.int IntKind.i64 loc, Value.bool false,
 Value.slice (some (Addr.mk g o none)) n c, Value.int IntKind.i64 (↑n : Int),
 Value.int IntKind.i64 (Ex.wrapQ IntKind.i64 (Ex.addQ (↑k : Int) (1 : Int)))],
 [Blk.mk (Let.n (ns (4 : Nat)))
 (Sy.Cont.obj
 (Obj.cells
 (Array.mk
 [Value.int IntKind.i64 (Let.i (ns (0 : Nat))),
 Value.int IntKind.u64 (Let.i (ns (1 : Nat))),
 Value.int IntKind.i64 (Let.i (ns (2 : Nat))),
 Value.int IntKind.i64 (Let.i (ns (3 : Nat)))])
 (33 : Nat)))
 true,
 Blk.mk g (Sy.Cont.seg o xs) false])))))))))))))))
 (Sy.Res.leaf
 (Exit.exit (0 : Nat), (113 : Nat),
 [Value.slice (some (Addr.mk g o none)) n c, Value.int IntKind.i64 loc, Value.bool false,
 Value.slice (some (Addr.mk g o none)) n c, Value.int IntKind.i64 (↑n : Int), Value.int IntKind.i64 (↑k : Int)],
 [Blk.mk g (Sy.Cont.seg o xs) false]))
theorem ceB_run (g o c n k : Nat) (loc : Int) (xs : List Value) (rest : List Value) : Sy.Ran (Sy.pieceT Try.prog Sy.S0 50 fCE bodyCE 113 (slCE g o c n k loc) rest [⟨g, .seg o xs, false⟩] [0, 1, 4, 9, 10, 11]) ceB_o (ceB_R g o c n k loc xs rest) := ⟨fun ns => by kernel_rfl, fun ns => by kernel_rfl⟩

theorem nd_at {l : List Nd} {k : Nat} {x : Nd} (h : l[k]? = some x) (o : Nat) :
    (Sy.Cont.seg o (ndCells l)).at (o + Int.toNat (k : Int) * 4) = some (.int .i64 x.op) ∧ (Sy.Cont.seg o (ndCells l)).at (o + Int.toNat (k : Int) * 4 + 1) = some (.int .u64 x.val) ∧
    (Sy.Cont.seg o (ndCells l)).at (o + Int.toNat (k : Int) * 4 + 1 + 1) = some (.int .i64 x.a) ∧ (Sy.Cont.seg o (ndCells l)).at (o + Int.toNat (k : Int) * 4 + 1 + 1 + 1) = some (.int .i64 x.b) := by
  have hh := fun j u hu => seg_at Nd.cells 4 (fun _ => rfl) h o j (u := u) hu
  simp only [Int.toNat_natCast]
  exact ⟨hh 0 _ rfl, hh 1 _ rfl, hh 2 _ rfl, hh 3 _ rfl⟩

theorem wrapU {x : Int} (h0 : 0 ≤ x) (h1 : x < 18446744073709551616) : Ex.wrapQ .u64 x = x := by
  rw [Ex.wrapQ_eq]
  simp [IntKind.wrap, IntKind.signed, IntKind.bits]
  omega

theorem some_bool (a b : Bool) : ((some (Value.bool a) : Option Value) = some (Value.bool b)) = (a = b) := by simp

noncomputable def loopCE (g o c : Nat) (l : List Nd) (loc : Int) : Sy.LoopC :=
  ⟨.loop bodyCE, 113, slCE g o c l.length 0 loc, 0 ≤ loc ∧ loc ≤ 1000 ∧ l.length ≤ 4398046511104, ⟨[(g, .seg o (ndCells l))], [], 0⟩,
    [(⟨fun _ => nodesOk loc l, fun _ => []⟩, .exit 0, fun _ => [(0, .slice (some ⟨g, o, none⟩) l.length c), (1, .int .i64 loc), (4, .bool false)]), (⟨fun _ => ¬ nodesOk loc l, fun _ => []⟩, .ret, fun _ => [(4, .bool false)])]⟩

theorem loopCE_met (g o c : Nat) (l : List Nd) (loc : Int) : Sy.MeetsL Try.prog (loopCE g o c l loc) := by
  refine Sy.loop_of (n := 50) (fn := fCE) Sy.S0_holds mixed (body := bodyCE) rfl [0, 1, 4, 9, 10, 11] (fun k : Nat => slCE g o c l.length k loc) (fun _ => [⟨g, .seg o (ndCells l), false⟩])
    (fun k => k ≤ l.length ∧ 0 ≤ loc ∧ loc ≤ 1000 ∧ l.length ≤ 4398046511104 ∧ ∀ i n, i < k → l[i]? = some n → nodeOk loc i n) (fun k => l.length - k)
    0 (fun h => ⟨Nat.zero_le _, h.1, h.2.1, h.2.2, fun i n hi => absurd hi (Nat.not_lt_zero i)⟩) (fun p hp => hp) [0] (by decide) rfl (o := fun _ => ceB_o) (R := fun k xs => ceB_R g o c l.length k loc (ndCells l) xs) (fun k xs _ => ceB_run g o c l.length k loc (ndCells l) xs) ?_
  rintro - k rest ⟨hk, hl0, hl1, hm, hall⟩ ns
  have hw : Ex.wrapQ .u64 loc = loc := wrapU hl0 (by omega)
  simp only [ceB_R, Sy.Res.holds, Sy.b_and, Sy.b_or, Sy.b_not, Sy.b_f, Sy.b_and', Sy.b_or', Sy.q_lt, Sy.q_le, Sy.q_eq, Sy.b_tt, Sy.b_ft, not_true_eq_false, not_false_eq_true, hw]
  refine ⟨fun hlt => ?_, fun hge => ?_⟩
  · have hlt : k < l.length := by omega
    have ea : l[k]? = some l[k] := List.getElem?_eq_getElem hlt
    obtain ⟨a0, a1, a2, a3⟩ := nd_at ea o
    simp only [a0, a1, a2, a3, some_int, some_bool, exists_eq', true_and]
    generalize l[k] = x at *
    refine ⟨by omega, fun h0 h1 h2 h3 => ?_⟩
    simp only [← h0, ← h1, ← h2, ← h3]
    have bad : ¬ nodeOk loc k x → ¬ nodesOk loc l := fun h h' => h (h' k x ea)
    have good : nodeOk loc k x → k + 1 ≤ l.length ∧ 0 ≤ loc ∧ loc ≤ 1000 ∧ l.length ≤ 4398046511104 ∧ ∀ i n, i < k + 1 → l[i]? = some n → nodeOk loc i n := fun h => ⟨by omega, hl0, hl1, hm, fun i n hi hn => by
      rcases Nat.lt_succ_iff_lt_or_eq.1 hi with hi | rfl
      · exact hall i n hi hn
      · rw [ea] at hn
        injection hn with hn
        rw [← hn]; exact h⟩
    have inc := Sy.inc_q k (by omega)
    refine ⟨fun c1 => ⟨fun r => ?_, fun r => ?_⟩, fun c1 => ⟨fun c2 => ⟨fun r => ?_, fun r => ?_⟩, fun c2 => ⟨fun c3 => ⟨fun r => ?_, fun r => ?_⟩, fun c3 => ⟨fun r => ?_, fun r => ?_⟩⟩⟩⟩
    all_goals first
      | exact Sy.leafL_end 1 rfl rfl (by simp) rfl [] rfl [2] rfl [] List.nodup_nil trivial (bad (by unfold nodeOk; omega))
      | exact Sy.leafL_next (k + 1) rfl (good (by unfold nodeOk; omega)) (by show l.length - (k + 1) < l.length - k; omega) (by rw [inc]; rfl) [1] (by decide) rfl
  · refine Sy.leafL_end 0 rfl rfl (by simp) rfl [] rfl [0, 1, 2] rfl [] List.nodup_nil trivial fun i n hn => hall i n ?_ hn
    have := (List.getElem?_eq_some_iff.1 hn).1
    omega

end Go.Proofs.Ytgaejhhipnpopaa
