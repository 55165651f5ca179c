/-
  check.once: each node but the last is an operand just once.
-/
import Derived.Test.YtgaejhhipnpopaaLwE
namespace Go.Proofs.Ytgaejhhipnpopaa
set_option linter.unusedVariables false
set_option linter.unusedSimpArgs false
open Go Go.RowKit
open Sy (Let Blk)

abbrev fON : FuncId := 65
abbrev tInt : TypeId := 3
noncomputable def bodyO1 : Code := Sy.loopBody Try.f65 0
noncomputable def bodyO2 : Code := Sy.loopBody Try.f65 1

/-- How often each of n numbers stands in R. -/
def cntV (n : Nat) (R : List Nat) : List Value := (List.range n).map fun j => Value.int .i64 ((R.count j : Nat) : Int)

def slO1 (g o c gu n k : Nat) : List (Nat × Value) := [(0, .slice (some ⟨g, o, none⟩) n c), (2, .bool false), (3, .slice (some ⟨gu, 0, none⟩) n n), (11, .slice (some ⟨g, o, none⟩) n c), (12, .int .i64 n), (13, .int .i64 k)]
def slO2 (g o c gu n k : Nat) : List (Nat × Value) := [(0, .slice (some ⟨g, o, none⟩) n c), (2, .bool false), (38, .slice (some ⟨gu, 0, none⟩) n n), (39, .int .i64 n), (40, .int .i64 k)]

def o1_o : Sy.O := (Sy.O.fork (Sy.O.steps [1, 0, 1, 1, 1, 1, 1, 1, 0, 0, 0, 0, 0] (Sy.O.fork (Sy.O.steps [0, 0, 1, 2, 1, 1, 1, 1, 2, 0, 1, 0, 0] (Sy.O.fork (Sy.O.steps [0, 0, 1, 2, 1, 1, 1, 1, 2, 0, 1] Sy.O.nil) Sy.O.nil)) (Sy.O.steps [0, 0] (Sy.O.fork (Sy.O.steps [0, 0, 1, 2, 1, 1, 1, 1, 2, 0, 1] Sy.O.nil) Sy.O.nil)))) Sy.O.nil)
noncomputable def o1_R (g : Nat) (o : Nat) (c : Nat) (gu : Nat) (n : Nat) (k : Nat) (xs : List Value) (us : List Value) (rest : List Value) (ns : Nat → Sy.Let) : Sy.Res (Exit × Nat × List Value × List Blk) := Sy.Res.br (Ex.ltQ (↑k : Int) (↑n : Int))
 (Sy.Res.need ((0 : Int) ≤ (↑k : Int) ∧ (↑k : Int) < (↑n : Int))
 (Sy.Res.need
 (∃ (i : Int),
 Sy.Cont.at (Sy.Cont.seg o xs) (o + Int.toNat (↑k : Int) * (4 : Nat)) = some (Value.int IntKind.i64 i))
 (Sy.Res.hyp
 (Sy.Cont.at (Sy.Cont.seg o xs) (o + Int.toNat (↑k : Int) * (4 : Nat)) =
 some (Value.int IntKind.i64 (Let.i (ns (0 : Nat)))))
 (Sy.Res.need
 (∃ (i : Int),
 Sy.Cont.at (Sy.Cont.seg o xs) (o + Int.toNat (↑k : Int) * (4 : Nat) + (1 : Nat)) =
 some (Value.int IntKind.u64 i))
 (Sy.Res.hyp
 (Sy.Cont.at (Sy.Cont.seg o xs) (o + Int.toNat (↑k : Int) * (4 : Nat) + (1 : Nat)) =
 some (Value.int IntKind.u64 (Let.i (ns (1 : Nat)))))
 (Sy.Res.need
 (∃ (i : Int),
 Sy.Cont.at (Sy.Cont.seg o xs) (o + Int.toNat (↑k : Int) * (4 : Nat) + (1 : Nat) + (1 : Nat)) =
 some (Value.int IntKind.i64 i))
 (Sy.Res.hyp
 (Sy.Cont.at (Sy.Cont.seg o xs) (o + Int.toNat (↑k : Int) * (4 : Nat) + (1 : Nat) + (1 : Nat)) =
 some (Value.int IntKind.i64 (Let.i (ns (2 : Nat)))))
 (Sy.Res.need
 (∃ (i : Int),
 Sy.Cont.at (Sy.Cont.seg o xs)
 (o + Int.toNat (↑k : Int) * (4 : Nat) + (1 : Nat) + (1 : Nat) + (1 : Nat)) =
 some (Value.int IntKind.i64 i))
 (Sy.Res.hyp
 (Sy.Cont.at (Sy.Cont.seg o xs)
 (o + Int.toNat (↑k : Int) * (4 : Nat) + (1 : Nat) + (1 : Nat) + (1 : Nat)) =
 some (Value.int IntKind.i64 (Let.i (ns (3 : Nat)))))
 (Sy.Res.br (Ex.leQ (3 : Int) (Let.i (ns (0 : Nat))))
 (Sy.Res.need ((0 : Int) ≤ Let.i (ns (2 : Nat)) ∧ Let.i (ns (2 : Nat)) < (↑n : Int))
 (Sy.Res.need
 (∃ (i : Int),
 Sy.Cont.at (Sy.Cont.row (3 : Nat) (1 : Nat) n n us)
 ((0 : Nat) + Int.toNat (Let.i (ns (2 : Nat))) * (1 : Nat)) =
 some (Value.int IntKind.i64 i))
 (Sy.Res.hyp
 (Sy.Cont.at (Sy.Cont.row (3 : Nat) (1 : Nat) n n us)
 ((0 : Nat) + Int.toNat (Let.i (ns (2 : Nat))) * (1 : Nat)) =
 some (Value.int IntKind.i64 (Let.i (ns (5 : Nat)))))
 (Sy.Res.need ((0 : Int) ≤ Let.i (ns (2 : Nat)) ∧ Let.i (ns (2 : Nat)) < (↑n : Int))
 (Sy.Res.need ((0 : Nat) + Int.toNat (Let.i (ns (2 : Nat))) * (1 : Nat) < List.length us)
 (Sy.Res.br (Ex.leQ (6 : Int) (Let.i (ns (0 : Nat))))
 (Sy.Res.need ((0 : Int) ≤ Let.i (ns (3 : Nat)) ∧ Let.i (ns (3 : Nat)) < (↑n : Int))
 (Sy.Res.need
 (∃ (i : Int),
 Sy.Cont.at
 (Sy.Cont.row (3 : Nat) (1 : Nat) n n
 (List.set us ((0 : Nat) + Int.toNat (Let.i (ns (2 : Nat))) * (1 : Nat))
 (Value.int IntKind.i64
 (Ex.wrapQ IntKind.i64 (Ex.addQ (Let.i (ns (5 : Nat))) (1 : Int))))))
 ((0 : Nat) + Int.toNat (Let.i (ns (3 : Nat))) * (1 : Nat)) =
 some (Value.int IntKind.i64 i))
 (Sy.Res.hyp
 (Sy.Cont.at
 (Sy.Cont.row (3 : Nat) (1 : Nat) n n
 (List.set us ((0 : Nat) + Int.toNat (Let.i (ns (2 : Nat))) * (1 : Nat))
 (Value.int IntKind.i64
 (Ex.wrapQ IntKind.i64 (Ex.addQ (Let.i (ns (5 : Nat))) (1 : Int))))))
 ((0 : Nat) + Int.toNat (Let.i (ns (3 : Nat))) * (1 : Nat)) =
 some (Value.int IntKind.i64 (Let.i (ns (6 : Nat)))))
 (Sy.Res.need
 ((0 : Int) ≤ Let.i (ns (3 : Nat)) ∧ Let.i (ns (3 : Nat)) < (↑n : Int))
 (Sy.Res.need
 ((0 : Nat) + Int.toNat (Let.i (ns (3 : Nat))) * (1 : Nat) <
 List.length
 (List.set us ((0 : Nat) + Int.toNat (Let.i (ns (2 : Nat))) * (1 : Nat))
 (Value.int IntKind.i64
 (Ex.wrapQ IntKind.i64 (Ex.addQ (Let.i (ns (5 : Nat))) (1 : Int))))))
 (Sy.Res.leaf
 (Exit.normal, (58 : Nat),
 [Value.slice (some (Addr.mk g o none)) n c, Value.bool false,
 Value.slice (some (Addr.mk gu (0 : Nat) none)) n n,
 Value.slice (some (Addr.mk g o none)) n c,
 Value.int IntKind.i64 (↑n : Int),
 Value.int IntKind.i64
 (Ex.wrapQ IntKind.i64 (Ex.addQ (↑k : Int) (1 : Int)))],
 [Blk.mk (Let.n (ns (4 : Nat)))
 (Sy.Cont.obj
 (Obj.cells
 (Array.mk
 [Value.int IntKind.i64 (Let.i (ns (0 : Nat))),
 Value.int IntKind.u64 (Let.i (ns (1 : Nat))),
 Value.int IntKind.i64 (Let.i (ns (2 : Nat))),
 Value.int IntKind.i64 (Let.i (ns (3 : Nat)))])
 (33 : Nat)))
 true,
 Blk.mk g (Sy.Cont.seg o xs) false,
 Blk.mk gu
 (Sy.Cont.row (3 : Nat) (1 : Nat) n n
 (List.set
 (List.set us
 ((0 : Nat) + Int.toNat (Let.i (ns (2 : Nat))) * (1 : Nat))
 (Value.int IntKind.i64
 (Ex.wrapQ IntKind.i64
 (Ex.addQ (Let.i (ns (5 : Nat))) (1 : Int)))))
 ((0 : Nat) + Int.toNat (Let.i (ns (3 : Nat))) * (1 : Nat))
 (Value.int IntKind.i64
 (Ex.wrapQ IntKind.i64
 (Ex.addQ (Let.i (ns (6 : Nat))) (1 : Int))))))
 true])))))))
 (Sy.Res.leaf
 (Exit.normal, (58 : Nat),
 [Value.slice (some (Addr.mk g o none)) n c, Value.bool false,
 Value.slice (some (Addr.mk gu (0 : Nat) none)) n n,
 Value.slice (some (Addr.mk g o none)) n c, Value.int IntKind.i64 (↑n : Int),
 Value.int IntKind.i64 (Ex.wrapQ IntKind.i64 (Ex.addQ (↑k : Int) (1 : Int)))],
 [Blk.mk (Let.n (ns (4 : Nat)))
 (Sy.Cont.obj
 (Obj.cells
 (Array.mk
 [Value.int IntKind.i64 (Let.i (ns (0 : Nat))),
 Value.int IntKind.u64 (Let.i (ns (1 : Nat))),
 Value.int IntKind.i64 (Let.i (ns (2 : Nat))),
 Value.int IntKind.i64 (Let.i (ns (3 : Nat)))])
 (33 : Nat)))
 true,
 Blk.mk g (Sy.Cont.seg o xs) false,
 Blk.mk gu
 (Sy.Cont.row (3 : Nat) (1 : Nat) n n
 (List.set us ((0 : Nat) + Int.toNat (Let.i (ns (2 : Nat))) * (1 : Nat))
 (Value.int IntKind.i64
 (Ex.wrapQ IntKind.i64 (Ex.addQ (Let.i (ns (5 : Nat))) (1 : Int))))))
 true]))))))))
 (Sy.Res.br (Ex.leQ (6 : Int) (Let.i (ns (0 : Nat))))
 (Sy.Res.need ((0 : Int) ≤ Let.i (ns (3 : Nat)) ∧ Let.i (ns (3 : Nat)) < (↑n : Int))
 (Sy.Res.need
 (∃ (i : Int),
 Sy.Cont.at (Sy.Cont.row (3 : Nat) (1 : Nat) n n us)
 ((0 : Nat) + Int.toNat (Let.i (ns (3 : Nat))) * (1 : Nat)) =
 some (Value.int IntKind.i64 i))
 (Sy.Res.hyp
 (Sy.Cont.at (Sy.Cont.row (3 : Nat) (1 : Nat) n n us)
 ((0 : Nat) + Int.toNat (Let.i (ns (3 : Nat))) * (1 : Nat)) =
 some (Value.int IntKind.i64 (Let.i (ns (5 : Nat)))))
 (Sy.Res.need ((0 : Int) ≤ Let.i (ns (3 : Nat)) ∧ Let.i (ns (3 : Nat)) < (↑n : Int))
 (Sy.Res.need ((0 : Nat) + Int.toNat (Let.i (ns (3 : Nat))) * (1 : Nat) < List.length us)
 (Sy.Res.leaf
 (Exit.normal, (58 : Nat),
 [Value.slice (some (Addr.mk g o none)) n c, Value.bool false,
 Value.slice (some (Addr.mk gu (0 : Nat) none)) n n,
 Value.slice (some (Addr.mk g o none)) n c, Value.int IntKind.i64 (↑n : Int),
 Value.int IntKind.i64 (Ex.wrapQ IntKind.i64 (Ex.addQ (↑k : Int) (1 : Int)))],
 [Blk.mk (Let.n (ns (4 : Nat)))
 (Sy.Cont.obj
 (Obj.cells
 (Array.mk
 [Value.int IntKind.i64 (Let.i (ns (0 : Nat))),
 Value.int IntKind.u64 (Let.i (ns (1 : Nat))),
 Value.int IntKind.i64 (Let.i (ns (2 : Nat))),
 Value.int IntKind.i64 (Let.i (ns (3 : Nat)))])
 (33 : Nat)))
 true,
 Blk.mk g (Sy.Cont.seg o xs) false,
 Blk.mk gu
 (Sy.Cont.row (3 : Nat) (1 : Nat) n n
 (List.set us ((0 : Nat) + Int.toNat (Let.i (ns (3 : Nat))) * (1 : Nat))
 (Value.int IntKind.i64
 (Ex.wrapQ IntKind.i64 (Ex.addQ (Let.i (ns (5 : Nat))) (1 : Int))))))
 true])))))))
 (Sy.Res.leaf
 (Exit.normal, (58 : Nat),
 [Value.slice (some (Addr.mk g o none)) n c, Value.bool false,
 Value.slice (some (Addr.mk gu (0 : Nat) none)) n n,
 Value.slice (some (Addr.mk g o none)) n c, Value.int IntKind.i64 (↑n : Int),
 Value.int IntKind.i64 (Ex.wrapQ IntKind.i64 (Ex.addQ (↑k : Int) (1 : Int)))],
 [Blk.mk (Let.n (ns (4 : Nat)))
 (Sy.Cont.obj
 (Obj.cells
 (Array.mk
 [Value.int IntKind.i64 (Let.i (ns (0 : Nat))),
 Value.int IntKind.u64 (Let.i (ns (1 : Nat))),
 Value.int IntKind.i64 (Let.i (ns (2 : Nat))),
 Value.int IntKind.i64 (Let.i (ns (3 : Nat)))])
 (33 : Nat)))
 true,
 Blk.mk g (Sy.Cont.seg o xs) false,
 Blk.mk gu (Sy.Cont.row (3 : Nat) (1 : Nat) n n us) true])))))))))))))
 (Sy.Res.leaf
 (Exit.exit (0 : Nat), (58 : Nat),
 [Value.slice (some (Addr.mk g o none)) n c, Value.bool false, Value.slice (some (Addr.mk gu (0 : Nat) none)) n n,
 Value.slice (some (Addr.mk g o none)) n c, Value.int IntKind.i64 (↑n : Int), Value.int IntKind.i64 (↑k : Int)],
 [Blk.mk g (Sy.Cont.seg o xs) false, Blk.mk gu (Sy.Cont.row (3 : Nat) (1 : Nat) n n us) true]))
theorem o1_run (g o c gu n k : Nat) (xs us : List Value) (rest : List Value) : Sy.Ran (Sy.pieceT Try.prog Sy.S0 50 fON bodyO1 58 (slO1 g o c gu n k) rest [⟨g, .seg o xs, false⟩, ⟨gu, .row tInt 1 n n us, true⟩] [0, 2, 3, 11, 12, 13]) o1_o (o1_R g o c gu n k xs us rest) := ⟨fun ns => by kernel_rfl, fun ns => by kernel_rfl⟩
def o2_o : Sy.O := (Sy.O.fork (Sy.O.steps [1, 0, 1, 1, 1, 1] (Sy.O.fork Sy.O.nil Sy.O.nil)) Sy.O.nil)
noncomputable def o2_R (g : Nat) (o : Nat) (c : Nat) (gu : Nat) (n : Nat) (k : Nat) (us : List Value) (rest : List Value) (ns : Nat → Sy.Let) : Sy.Res (Exit × Nat × List Value × List Blk) := Sy.Res.br (Ex.ltQ (↑k : Int) (↑n : Int))
 (Sy.Res.need ((0 : Int) ≤ (↑k : Int) ∧ (↑k : Int) < (↑n : Int))
 (Sy.Res.need
 (∃ (i : Int),
 Sy.Cont.at (Sy.Cont.row (3 : Nat) (1 : Nat) n n us) ((0 : Nat) + Int.toNat (↑k : Int) * (1 : Nat)) =
 some (Value.int IntKind.i64 i))
 (Sy.Res.hyp
 (Sy.Cont.at (Sy.Cont.row (3 : Nat) (1 : Nat) n n us) ((0 : Nat) + Int.toNat (↑k : Int) * (1 : Nat)) =
 some (Value.int IntKind.i64 (Let.i (ns (0 : Nat)))))
 (Sy.Res.br
 (bif
 !Ex.eqQ (Let.i (ns (0 : Nat))) (1 : Int) ==
 Ex.ltQ (↑k : Int) (Ex.wrapQ IntKind.i64 (Ex.subQ' (↑n : Int) (1 : Int))) then
 true
 else Ex.ltQ (1 : Int) (Let.i (ns (0 : Nat))))
 (Sy.Res.leaf
 (Exit.ret, (58 : Nat),
 [Value.slice (some (Addr.mk g o none)) n c, Value.bool false,
 Value.slice (some (Addr.mk gu (0 : Nat) none)) n n, Value.int IntKind.i64 (↑n : Int),
 Value.int IntKind.i64 (↑k : Int)],
 [Blk.mk gu (Sy.Cont.row (3 : Nat) (1 : Nat) n n us) true]))
 (Sy.Res.leaf
 (Exit.normal, (58 : Nat),
 [Value.slice (some (Addr.mk g o none)) n c, Value.bool false,
 Value.slice (some (Addr.mk gu (0 : Nat) none)) n n, Value.int IntKind.i64 (↑n : Int),
 Value.int IntKind.i64 (Ex.wrapQ IntKind.i64 (Ex.addQ (↑k : Int) (1 : Int)))],
 [Blk.mk gu (Sy.Cont.row (3 : Nat) (1 : Nat) n n us) true]))))))
 (Sy.Res.leaf
 (Exit.exit (2 : Nat), (58 : Nat),
 [Value.slice (some (Addr.mk g o none)) n c, Value.bool false, Value.slice (some (Addr.mk gu (0 : Nat) none)) n n,
 Value.int IntKind.i64 (↑n : Int), Value.int IntKind.i64 (↑k : Int)],
 [Blk.mk gu (Sy.Cont.row (3 : Nat) (1 : Nat) n n us) true]))
theorem o2_run (g o c gu n k : Nat) (us : List Value) (rest : List Value) : Sy.Ran (Sy.pieceT Try.prog Sy.S0 50 fON bodyO2 58 (slO2 g o c gu n k) rest [⟨gu, .row tInt 1 n n us, true⟩] [0, 2, 38, 39, 40]) o2_o (o2_R g o c gu n k us rest) := ⟨fun ns => by kernel_rfl, fun ns => by kernel_rfl⟩

theorem cntV_length (n : Nat) (R : List Nat) : (cntV n R).length = n := by simp [cntV]
theorem cntV_nil (n : Nat) : cntV n [] = List.replicate n (.int .i64 0) := by
  apply List.ext_getElem
  · simp [cntV]
  · intro i h1 h2
    simp [cntV]
theorem cntV_get {n a : Nat} (R : List Nat) (h : a < n) : (cntV n R)[a]? = some (.int .i64 ((R.count a : Nat) : Int)) := by simp [cntV, h]
theorem cntV_at {n a : Nat} (R : List Nat) (h : a < n) (e : TypeId) (s m c : Nat) : (Sy.Cont.row e s m c (cntV n R)).at (0 + a * 1) = some (.int .i64 ((R.count a : Nat) : Int)) := by
  rw [Nat.zero_add, Nat.mul_one]
  exact cntV_get R h
theorem cntV_set {n a : Nat} (R : List Nat) (h : a < n) (hR : R.length < 9223372036854775807) : (cntV n R).set (0 + a * 1) (.int .i64 (Ex.wrapQ .i64 (Ex.addQ ((R.count a : Nat) : Int) 1))) = cntV n (R ++ [a]) := by
  have hc := List.count_le_length (a := a) (l := R)
  rw [Nat.zero_add, Nat.mul_one, Sy.inc_q _ (by omega)]
  apply List.ext_getElem?
  intro j
  rw [List.getElem?_set]
  by_cases hj : j < n
  · rw [cntV_get _ hj, cntV_length]
    split
    · rename_i e
      subst e
      rw [cntV_get _ hj]
      simp
    · rename_i e
      rw [cntV_get _ hj]
      simp [e]
  · rw [List.getElem?_eq_none (by rw [cntV_length]; omega), List.getElem?_eq_none (by rw [cntV_length]; omega)]
    split
    · omega
    · rfl

theorem refs_length (l : List Nd) : (refs l).length ≤ 2 * l.length := by
  induction l with
  | nil => simp [refs]
  | cons x l ih =>
    have h1 : x.refs.length ≤ 2 := by unfold Nd.refs; split <;> (try split) <;> simp
    have h2 : refs (x :: l) = x.refs ++ refs l := by simp [refs]
    rw [h2, List.length_append, List.length_cons]
    omega
theorem refs_take {l : List Nd} {k : Nat} {x : Nd} (h : l[k]? = some x) : refs (l.take (k + 1)) = refs (l.take k) ++ x.refs := by
  obtain ⟨hk, he⟩ := List.getElem?_eq_some_iff.1 h
  rw [List.take_succ_eq_append_getElem hk, he]
  simp [refs]

theorem ok_a {loc : Int} {i : Nat} {n : Nd} (h : nodeOk loc i n) (h3 : 3 ≤ n.op) : 0 ≤ n.a ∧ n.a < i := by unfold nodeOk at h; omega
theorem ok_b {loc : Int} {i : Nat} {n : Nd} (h : nodeOk loc i n) (h6 : 6 ≤ n.op) : 0 ≤ n.b ∧ n.b < i := by unfold nodeOk at h; omega

noncomputable def loopO1 (g o c gu : Nat) (l : List Nd) (loc : Int) : Sy.LoopC :=
  ⟨.loop bodyO1, 58, slO1 g o c gu l.length 0, l.length ≤ 4398046511104 ∧ nodesOk loc l, ⟨[(g, .seg o (ndCells l))], [(gu, .row tInt 1 l.length l.length (List.replicate l.length (.int .i64 0)))], 0⟩,
    [(⟨fun _ => True, fun _ => [(gu, .row tInt 1 l.length l.length (cntV l.length (refs l)))]⟩, .exit 0, fun _ => [(0, .slice (some ⟨g, o, none⟩) l.length c), (2, .bool false), (3, .slice (some ⟨gu, 0, none⟩) l.length l.length)])]⟩

theorem loopO1_met (g o c gu : Nat) (l : List Nd) (loc : Int) : Sy.MeetsL Try.prog (loopO1 g o c gu l loc) := by
  refine Sy.loop_of (n := 50) (fn := fON) Sy.S0_holds mixed (body := bodyO1) rfl [0, 2, 3, 11, 12, 13] (fun k : Nat => slO1 g o c gu l.length k) (fun k => [⟨g, .seg o (ndCells l), false⟩, ⟨gu, .row tInt 1 l.length l.length (cntV l.length (refs (l.take k))), true⟩])
    (fun k => k ≤ l.length ∧ l.length ≤ 4398046511104 ∧ nodesOk loc l) (fun k => l.length - k)
    0 (fun h => ⟨Nat.zero_le _, h⟩) (fun p hp => hp) [0, 1] (by decide) (by rw [List.take_zero, show refs [] = [] from rfl, cntV_nil]; rfl) (o := fun _ => o1_o) (R := fun k xs => o1_R g o c gu l.length k (ndCells l) (cntV l.length (refs (l.take k))) xs) (fun k xs _ => o1_run g o c gu l.length k (ndCells l) (cntV l.length (refs (l.take k))) xs) ?_
  rintro - k rest ⟨hk, hm, hok⟩ ns
  simp only [o1_R, Sy.Res.holds, Sy.b_and, Sy.b_or, Sy.b_not, Sy.b_f, Sy.b_and', Sy.b_or', Sy.q_lt, Sy.q_le, Sy.q_eq, Sy.b_tt, Sy.b_ft, not_true_eq_false, not_false_eq_true]
  refine ⟨fun hlt => ?_, fun hge => ?_⟩
  · have hlt : k < l.length := by omega
    have ea : l[k]? = some l[k] := List.getElem?_eq_getElem hlt
    obtain ⟨a0, a1, a2, a3⟩ := nd_at ea o
    simp only [a0, a1, a2, a3, some_int, some_bool, exists_eq', true_and]
    generalize l[k] = x at *
    refine ⟨by omega, fun h0 h1 h2 h3 => ?_⟩
    simp only [← h0, ← h2, ← h3]
    have hx := hok k x ea
    have hr := refs_take ea
    have hrl := refs_length (l.take k)
    have htl : (l.take k).length = k := by rw [List.length_take]; omega
    have fin : ∀ B R, R = refs (l.take (k + 1)) → Sy.leafL (loopO1 g o c gu l loc) [0, 2, 3, 11, 12, 13] (fun k : Nat => slO1 g o c gu l.length k) (fun k => [⟨g, .seg o (ndCells l), false⟩, ⟨gu, .row tInt 1 l.length l.length (cntV l.length (refs (l.take k))), true⟩])
        (fun k => k ≤ l.length ∧ l.length ≤ 4398046511104 ∧ nodesOk loc l) (fun k => l.length - k) k (Exit.normal, 58, [.slice (some ⟨g, o, none⟩) l.length c, .bool false, .slice (some ⟨gu, 0, none⟩) l.length l.length, .slice (some ⟨g, o, none⟩) l.length c, .int .i64 l.length, .int .i64 (Ex.wrapQ IntKind.i64 (Ex.addQ (↑k : Int) 1))],
          [B, ⟨g, .seg o (ndCells l), false⟩, ⟨gu, .row tInt 1 l.length l.length (cntV l.length R), true⟩]) := fun B R hR => by
      subst hR
      exact Sy.leafL_next (k + 1) rfl ⟨by omega, hm, hok⟩ (by show l.length - (k + 1) < l.length - k; omega) (by rw [Sy.inc_q k (by omega)]; rfl) [1, 2] (by decide) rfl
    refine ⟨fun c3 => ?_, fun c3 => ⟨fun c6 => absurd c6 (by omega), fun c6 => fin _ _ ?_⟩⟩
    · have ha := ok_a hx c3
      have la : x.a.toNat < l.length := by omega
      simp only [cntV_at _ la, cntV_length, some_int, some_bool, exists_eq', true_and]
      refine ⟨by omega, fun h5 => ⟨by omega, by omega, ?_⟩⟩
      simp only [← h5, cntV_set _ la (show (refs (l.take k)).length < _ by omega)]
      refine ⟨fun c6 => ?_, fun c6 => fin _ _ ?_⟩
      · have hb := ok_b hx c6
        have lb : x.b.toNat < l.length := by omega
        simp only [cntV_at _ lb, cntV_length, some_int, some_bool, exists_eq', true_and]
        refine ⟨by omega, fun h6 => ⟨by omega, by omega, ?_⟩⟩
        simp only [← h6, cntV_set _ lb (show (refs (l.take k) ++ [x.a.toNat]).length < _ by rw [List.length_append, List.length_singleton]; omega)]
        refine fin _ _ ?_
        rw [hr, List.append_assoc]
        unfold Nd.refs
        rw [if_neg (by omega), if_neg (by omega)]
        rfl
      · rw [hr]
        unfold Nd.refs
        rw [if_neg (by omega), if_pos (by omega)]
    · rw [hr]
      unfold Nd.refs
      rw [if_pos (by omega), List.append_nil]
  · have hkl : k = l.length := by omega
    subst hkl
    rw [List.take_length]
    exact Sy.leafL_end 0 rfl rfl (by simp) rfl [] rfl [0, 1, 2] rfl [1] (by decide) ⟨⟨rfl, rfl, .inl rfl⟩, trivial⟩ trivial

noncomputable def loopO2 (g o c gu : Nat) (l : List Nd) : Sy.LoopC :=
  ⟨.loop bodyO2, 58, slO2 g o c gu l.length 0, l.length ≤ 4398046511104, ⟨[], [(gu, .row tInt 1 l.length l.length (cntV l.length (refs l)))], 0⟩,
    [(⟨fun _ => onceOk l, fun _ => []⟩, .exit 2, fun _ => []), (⟨fun _ => ¬ onceOk l, fun _ => []⟩, .ret, fun _ => [(2, .bool false)])]⟩

theorem beq_t (a b : Bool) : ((a == b) = true) = ((a = true) ↔ (b = true)) := by cases a <;> cases b <;> simp

theorem dec_q (n : Nat) (h0 : 0 < n) (h : n < 9223372036854775807) : Ex.wrapQ .i64 (Ex.subQ' (n : Int) 1) = ((n - 1 : Nat) : Int) := by
  rw [Ex.wrapQ_eq, Ex.subQ_eq]
  simp [IntKind.wrap, IntKind.signed, IntKind.bits]
  omega

theorem loopO2_met (g o c gu : Nat) (l : List Nd) : Sy.MeetsL Try.prog (loopO2 g o c gu l) := by
  refine Sy.loop_of (n := 50) (fn := fON) Sy.S0_holds mixed (body := bodyO2) rfl [0, 2, 38, 39, 40] (fun k : Nat => slO2 g o c gu l.length k) (fun k => [⟨gu, .row tInt 1 l.length l.length (cntV l.length (refs l)), true⟩])
    (fun k => k ≤ l.length ∧ l.length ≤ 4398046511104 ∧ ∀ j, j < k → (refs l).count j = if j + 1 < l.length then 1 else 0) (fun k => l.length - k)
    0 (fun h => ⟨Nat.zero_le _, h, fun j hj => absurd hj (Nat.not_lt_zero j)⟩) (fun p hp => hp) [0] (by decide) rfl (o := fun _ => o2_o) (R := fun k xs => o2_R g o c gu l.length k (cntV l.length (refs l)) xs) (fun k xs _ => o2_run g o c gu l.length k (cntV l.length (refs l)) xs) ?_
  rintro - k rest ⟨hk, hm, hall⟩ ns
  simp only [o2_R, Sy.Res.holds, Sy.b_and, Sy.b_or, Sy.b_not, Sy.b_f, Sy.b_and', Sy.b_or', Sy.q_lt, Sy.q_le, Sy.q_eq, Sy.b_tt, Sy.b_ft, not_true_eq_false, not_false_eq_true, beq_t]
  refine ⟨fun hlt => ?_, fun hge => ?_⟩
  · have hlt : k < l.length := by omega
    simp only [Int.toNat_natCast, cntV_at _ hlt, some_int, some_bool, exists_eq', true_and]
    refine ⟨by omega, fun h0 => ?_⟩
    simp only [← h0, dec_q l.length (by omega) (by omega)]
    refine ⟨fun r => ?_, fun r => ?_⟩
    · refine Sy.leafL_end 1 rfl rfl (by simp) rfl [] rfl [1] rfl [] List.nodup_nil trivial fun h => ?_
      have := h k hlt
      split at this <;> omega
    · refine Sy.leafL_next (k + 1) rfl ⟨by omega, hm, fun j hj => ?_⟩ (by show l.length - (k + 1) < l.length - k; omega) (by rw [Sy.inc_q k (by omega)]; rfl) [0] (by decide) rfl
      rcases Nat.lt_succ_iff_lt_or_eq.1 hj with hj | rfl
      · exact hall j hj
      · split <;> omega
  · exact Sy.leafL_end 0 rfl rfl (by simp) rfl [] rfl [] rfl [] List.nodup_nil trivial fun j hj => hall j (by omega)

end Go.Proofs.Ytgaejhhipnpopaa
