/-
  check.once: each node but the last is an operand just once; check.once and check.expression: the calls; lower.may; expressions as trees; Expressions as trees: their instructions; how great they are; lower.binary; the reference's plain and cond; lower.needs; lower.expr; The reference's Expression: it
-/
import Derived.Test.YtlpcnaeknbmjdaaGreatPb

namespace Go.Proofs.YtlpcnaeknbmjdaaGreat.Lw
set_option linter.unusedVariables false
set_option linter.unusedSimpArgs false
open Go Go.RowKit
open Go.Proofs.YtlpcnaeknbmjdaaGreat.Sy (Let Blk)
abbrev fON : FuncId := 129
abbrev tInt : TypeId := 3
noncomputable def bodyO1 : Code := Sy.loopBody Tryz.f129 0
noncomputable def bodyO2 : Code := Sy.loopBody Tryz.f129 1
def cntV (n : Nat) (R : List Nat) : List Value := (List.range n).map fun j => Value.int .i64 ((R.count j : Nat) : Int)
def slO1 (g o c gu n k : Nat) : List (Nat × Value) := [(0, .slice (some ⟨g, o, none⟩) n c), (2, .bool false), (3, .slice (some ⟨gu, 0, none⟩) n n), (11, .slice (some ⟨g, o, none⟩) n c), (12, .int .i64 n), (13, .int .i64 k)]
def slO2 (g o c gu n k : Nat) : List (Nat × Value) := [(0, .slice (some ⟨g, o, none⟩) n c), (2, .bool false), (38, .slice (some ⟨gu, 0, none⟩) n n), (39, .int .i64 n), (40, .int .i64 k)]
def o1_o : Sy.O := (Sy.O.fork (Sy.O.steps [0, 1, 0, 0, 1, 1, 1, 1, 1, 1, 0, 0, 0, 0, 0, 0] (Sy.O.fork (Sy.O.steps [0, 0, 0, 0, 1, 0, 2, 1, 1, 1, 0, 1, 2, 0, 1, 0, 0, 0] (Sy.O.fork (Sy.O.steps [0, 0, 0, 0, 1, 0, 2, 1, 1, 1, 0, 1, 2, 0, 1] Sy.O.nil) Sy.O.nil)) (Sy.O.steps [0, 0, 0] (Sy.O.fork (Sy.O.steps [0, 0, 0, 0, 1, 0, 2, 1, 1, 1, 0, 1, 2, 0, 1] Sy.O.nil) Sy.O.nil)))) Sy.O.nil)
noncomputable def o1_R (g : Nat) (o : Nat) (c : Nat) (gu : Nat) (n : Nat) (k : Nat) (xs : List Value) (us : List Value) (rest : List Value) (ns : Nat → Sy.Let) : Sy.Res (Exit × Nat × List Value × List Blk) :=
 let z0 := (Sy.Cont.seg o xs)
 let z1 := (o + Int.toNat (↑k : Int) * (4 : Nat))
 let z2 := (o + Int.toNat (↑k : Int) * (4 : Nat) + (1 : Nat))
 let z3 := (o + Int.toNat (↑k : Int) * (4 : Nat) + (1 : Nat) + (1 : Nat))
 let z4 := (o + Int.toNat (↑k : Int) * (4 : Nat) + (1 : Nat) + (1 : Nat) + (1 : Nat))
 let z5 := (Sy.Cont.row (3 : Nat) (1 : Nat) n n us)
 let z6 := (some (Addr.mk g o none))
 let z7 := (some (Addr.mk gu (0 : Nat) none))
 let z8 := [Value.slice z6 n c, Value.bool false, Value.slice z7 n n, Value.slice z6 n c, Value.int IntKind.i64 (↑n : Int), Value.int IntKind.i64 (Ex.wrapQ IntKind.i64 (Ex.addQ (↑k : Int) (1 : Int)))]
 let z9 := (Let.n (ns 4))
 Sy.Res.br (Ex.ltQ (↑k : Int) (↑n : Int)) (Sy.Res.need ((0 : Int) ≤ (↑k : Int) ∧ (↑k : Int) < (↑n : Int)) (Sy.Res.need (∃ (i : Int), Sy.Cont.at z0 z1 = some (Value.int IntKind.i64 i)) (Sy.Res.hyp (Sy.Cont.at z0 z1 = some (Value.int IntKind.i64 (Let.i (ns 0)))) (Sy.Res.need (∃ (i : Int), Sy.Cont.at z0 z2 = some (Value.int IntKind.u64 i)) (Sy.Res.hyp (Sy.Cont.at z0 z2 = some (Value.int IntKind.u64 (Let.i (ns 1)))) (Sy.Res.need (∃ (i : Int), Sy.Cont.at z0 z3 = some (Value.int IntKind.i64 i)) (Sy.Res.hyp (Sy.Cont.at z0 z3 = some (Value.int IntKind.i64 (Let.i (ns 2)))) (Sy.Res.need (∃ (i : Int), Sy.Cont.at z0 z4 = some (Value.int IntKind.i64 i)) (Sy.Res.hyp (Sy.Cont.at z0 z4 = some (Value.int IntKind.i64 (Let.i (ns 3)))) (Sy.Res.br (Ex.leQ (3 : Int) (Let.i (ns 0))) (Sy.Res.need ((0 : Int) ≤ Let.i (ns 2) ∧ Let.i (ns 2) < (↑n : Int)) (Sy.Res.need (∃ (i : Int), Sy.Cont.at z5 ((0 : Nat) + Int.toNat (Let.i (ns 2)) * (1 : Nat)) = some (Value.int IntKind.i64 i)) (Sy.Res.hyp (Sy.Cont.at z5 ((0 : Nat) + Int.toNat (Let.i (ns 2)) * (1 : Nat)) = some (Value.int IntKind.i64 (Let.i (ns 5)))) (Sy.Res.need ((0 : Int) ≤ Let.i (ns 2) ∧ Let.i (ns 2) < (↑n : Int)) (Sy.Res.need ((0 : Nat) + Int.toNat (Let.i (ns 2)) * (1 : Nat) < List.length us) (Sy.Res.br (Ex.leQ (6 : Int) (Let.i (ns 0))) (Sy.Res.need ((0 : Int) ≤ Let.i (ns 3) ∧ Let.i (ns 3) < (↑n : Int)) (Sy.Res.need (∃ (i : Int), Sy.Cont.at (Sy.Cont.row (3 : Nat) (1 : Nat) n n (List.set us ((0 : Nat) + Int.toNat (Let.i (ns 2)) * (1 : Nat)) (Value.int
 IntKind.i64 (Ex.wrapQ IntKind.i64 (Ex.addQ (Let.i (ns 5)) (1 : Int)))))) ((0 : Nat) + Int.toNat (Let.i (ns 3)) * (1 : Nat)) = some (Value.int IntKind.i64 i)) (Sy.Res.hyp (Sy.Cont.at (Sy.Cont.row (3 : Nat) (1 : Nat) n n (List.set us ((0 : Nat) + Int.toNat (Let.i (ns 2)) * (1 : Nat)) (Value.int IntKind.i64 (Ex.wrapQ IntKind.i64 (Ex.addQ (Let.i (ns 5)) (1 : Int)))))) ((0 : Nat) + Int.toNat (Let.i (ns 3)) * (1 : Nat)) = some (Value.int IntKind.i64 (Let.i (ns 6)))) (Sy.Res.need ((0 : Int) ≤ Let.i (ns 3) ∧ Let.i (ns 3) < (↑n : Int)) (Sy.Res.need ((0 : Nat) + Int.toNat (Let.i (ns 3)) * (1 : Nat) < List.length (List.set us ((0 : Nat) + Int.toNat (Let.i (ns 2)) * (1 : Nat)) (Value.int IntKind.i64 (Ex.wrapQ IntKind.i64 (Ex.addQ (Let.i (ns 5)) (1 : Int)))))) (Sy.Res.leaf (Exit.normal, (58 : Nat), z8, [Blk.mk z9 (Sy.Cont.obj (Obj.cells (Array.mk [Value.int IntKind.i64 (Let.i (ns 0)), Value.int IntKind.u64 (Let.i (ns 1)), Value.int IntKind.i64 (Let.i (ns 2)), Value.int IntKind.i64 (Let.i (ns 3))]) (127 : Nat))) true, Blk.mk g z0 false, Blk.mk gu (Sy.Cont.row (3 : Nat) (1 : Nat) n n (List.set (List.set us ((0 : Nat) + Int.toNat (Let.i (ns 2)) * (1 : Nat)) (Value.int IntKind.i64 (Ex.wrapQ IntKind.i64 (Ex.addQ (Let.i (ns 5)) (1 : Int))))) ((0 : Nat) + Int.toNat (Let.i (ns 3)) * (1 : Nat)) (Value.int IntKind.i64 (Ex.wrapQ IntKind.i64 (Ex.addQ (Let.i (ns 6)) (1 : Int)))))) true]))))))) (Sy.Res.leaf (Exit.normal, (58 : Nat), z8, [Blk.mk z9 (Sy.Cont.obj (Obj.cells (Array.mk [Value.int IntKind.i64
 (Let.i (ns 0)), Value.int IntKind.u64 (Let.i (ns 1)), Value.int IntKind.i64 (Let.i (ns 2)), Value.int IntKind.i64 (Let.i (ns 3))]) (127 : Nat))) true, Blk.mk g z0 false, Blk.mk gu (Sy.Cont.row (3 : Nat) (1 : Nat) n n (List.set us ((0 : Nat) + Int.toNat (Let.i (ns 2)) * (1 : Nat)) (Value.int IntKind.i64 (Ex.wrapQ IntKind.i64 (Ex.addQ (Let.i (ns 5)) (1 : Int)))))) true])))))))) (Sy.Res.br (Ex.leQ (6 : Int) (Let.i (ns 0))) (Sy.Res.need ((0 : Int) ≤ Let.i (ns 3) ∧ Let.i (ns 3) < (↑n : Int)) (Sy.Res.need (∃ (i : Int), Sy.Cont.at z5 ((0 : Nat) + Int.toNat (Let.i (ns 3)) * (1 : Nat)) = some (Value.int IntKind.i64 i)) (Sy.Res.hyp (Sy.Cont.at z5 ((0 : Nat) + Int.toNat (Let.i (ns 3)) * (1 : Nat)) = some (Value.int IntKind.i64 (Let.i (ns 5)))) (Sy.Res.need ((0 : Int) ≤ Let.i (ns 3) ∧ Let.i (ns 3) < (↑n : Int)) (Sy.Res.need ((0 : Nat) + Int.toNat (Let.i (ns 3)) * (1 : Nat) < List.length us) (Sy.Res.leaf (Exit.normal, (58 : Nat), z8, [Blk.mk z9 (Sy.Cont.obj (Obj.cells (Array.mk [Value.int IntKind.i64 (Let.i (ns 0)), Value.int IntKind.u64 (Let.i (ns 1)), Value.int IntKind.i64 (Let.i (ns 2)), Value.int IntKind.i64 (Let.i (ns 3))]) (127 : Nat))) true, Blk.mk g z0 false, Blk.mk gu (Sy.Cont.row (3 : Nat) (1 : Nat) n n (List.set us ((0 : Nat) + Int.toNat (Let.i (ns 3)) * (1 : Nat)) (Value.int IntKind.i64 (Ex.wrapQ IntKind.i64 (Ex.addQ (Let.i (ns 5)) (1 : Int)))))) true]))))))) (Sy.Res.leaf (Exit.normal, (58 : Nat), z8, [Blk.mk z9 (Sy.Cont.obj (Obj.cells (Array.mk [Value.int IntKind.i64 (Let.i
 (ns 0)), Value.int IntKind.u64 (Let.i (ns 1)), Value.int IntKind.i64 (Let.i (ns 2)), Value.int IntKind.i64 (Let.i (ns 3))]) (127 : Nat))) true, Blk.mk g z0 false, Blk.mk gu z5 true]))))))))))))) (Sy.Res.leaf (Exit.exit (0 : Nat), (58 : Nat), [Value.slice z6 n c, Value.bool false, Value.slice z7 n n, Value.slice z6 n c, Value.int IntKind.i64 (↑n : Int), Value.int IntKind.i64 (↑k : Int)], [Blk.mk g z0 false, Blk.mk gu z5 true]))
theorem o1_run (g o c gu n k : Nat) (xs us : List Value) (rest : List Value) : Sy.Ran (Sy.pieceT Tryz.prog Sy.S0 50 fON bodyO1 58 (slO1 g o c gu n k) rest [⟨g, .seg o xs, false⟩, ⟨gu, .row tInt 1 n n us, true⟩] [0, 2, 3, 11, 12, 13]) o1_o (o1_R g o c gu n k xs us rest) := ⟨fun ns => by kernel_rfl, fun ns => by kernel_rfl⟩
def o2_o : Sy.O := (Sy.O.fork (Sy.O.steps [0, 1, 0, 0, 1, 1, 1, 0, 1] (Sy.O.fork Sy.O.nil Sy.O.nil)) Sy.O.nil)
noncomputable def o2_R (g : Nat) (o : Nat) (c : Nat) (gu : Nat) (n : Nat) (k : Nat) (us : List Value) (rest : List Value) (ns : Nat → Sy.Let) : Sy.Res (Exit × Nat × List Value × List Blk) :=
 let z0 := (Sy.Cont.row (3 : Nat) (1 : Nat) n n us)
 let z1 := ((0 : Nat) + Int.toNat (↑k : Int) * (1 : Nat))
 let z2 := (some (Addr.mk g o none))
 let z3 := (some (Addr.mk gu (0 : Nat) none))
 let z4 := [Value.slice z2 n c, Value.bool false, Value.slice z3 n n, Value.int IntKind.i64 (↑n : Int), Value.int IntKind.i64 (↑k : Int)]
 let z5 := [Blk.mk gu z0 true]
 Sy.Res.br (Ex.ltQ (↑k : Int) (↑n : Int)) (Sy.Res.need ((0 : Int) ≤ (↑k : Int) ∧ (↑k : Int) < (↑n : Int)) (Sy.Res.need (∃ (i : Int), Sy.Cont.at z0 z1 = some (Value.int IntKind.i64 i)) (Sy.Res.hyp (Sy.Cont.at z0 z1 = some (Value.int IntKind.i64 (Let.i (ns 0)))) (Sy.Res.br (bif !Ex.eqQ (Let.i (ns 0)) (1 : Int) == Ex.ltQ (↑k : Int) (Ex.wrapQ IntKind.i64 (Ex.subQ' (Int.ofNat n) (1 : Int))) then true else Ex.ltQ (1 : Int) (Let.i (ns 0))) (Sy.Res.leaf (Exit.ret, (58 : Nat), z4, z5)) (Sy.Res.leaf (Exit.normal, (58 : Nat), [Value.slice z2 n c, Value.bool false, Value.slice z3 n n, Value.int IntKind.i64 (↑n : Int), Value.int IntKind.i64 (Ex.wrapQ IntKind.i64 (Ex.addQ (↑k : Int) (1 : Int)))], z5)))))) (Sy.Res.leaf (Exit.exit (2 : Nat), (58 : Nat), z4, z5))
theorem o2_run (g o c gu n k : Nat) (us : List Value) (rest : List Value) : Sy.Ran (Sy.pieceT Tryz.prog Sy.S0 50 fON bodyO2 58 (slO2 g o c gu n k) rest [⟨gu, .row tInt 1 n n us, true⟩] [0, 2, 38, 39, 40]) o2_o (o2_R g o c gu n k us rest) := ⟨fun ns => by kernel_rfl, fun ns => by kernel_rfl⟩
theorem cntV_length (n : Nat) (R : List Nat) : (cntV n R).length = n := by simp [cntV]
theorem cntV_nil (n : Nat) : cntV n [] = List.replicate n (.int .i64 0) := by
  apply List.ext_getElem
  · simp [cntV]
  · intro i h1 h2
    simp [cntV]
theorem cntV_get {n a : Nat} (R : List Nat) (h : a < n) : (cntV n R)[a]? = some (.int .i64 ((R.count a : Nat) : Int)) := by simp [cntV, h]
theorem cntV_at {n a : Nat} (R : List Nat) (h : a < n) (e : TypeId) (s m c : Nat) : (Sy.Cont.row e s m c (cntV n R)).at (0 + a * 1) = some (.int .i64 ((R.count a : Nat) : Int)) := by
  rw [Nat.zero_add, Nat.mul_one]
  exact cntV_get R h
theorem cntV_set {n a : Nat} (R : List Nat) (h : a < n) (hR : R.length < 9223372036854775807) : (cntV n R).set (0 + a * 1) (.int .i64 (Ex.wrapQ .i64 (Ex.addQ ((R.count a : Nat) : Int) 1))) = cntV n (R ++ [a]) := by
  have hc := List.count_le_length (a := a) (l := R)
  rw [Nat.zero_add, Nat.mul_one, Sy.inc_q _ (by omega)]
  apply List.ext_getElem?
  intro j
  rw [List.getElem?_set]
  by_cases hj : j < n
  · rw [cntV_get _ hj, cntV_length]
    split
    · rename_i e
      subst e
      rw [cntV_get _ hj]
      simp
    · rename_i e
      rw [cntV_get _ hj]
      simp [e]
  · rw [List.getElem?_eq_none (by rw [cntV_length]; omega), List.getElem?_eq_none (by rw [cntV_length]; omega)]
    split
    · omega
    · rfl
theorem refs_length (l : List Nd) : (refs l).length ≤ 2 * l.length := by
  induction l with
  | nil => simp [refs]
  | cons x l ih =>
    have h1 : x.refs.length ≤ 2 := by unfold Nd.refs; split <;> (try split) <;> simp
    have h2 : refs (x :: l) = x.refs ++ refs l := by simp [refs]
    rw [h2, List.length_append, List.length_cons]
    omega
theorem refs_take {l : List Nd} {k : Nat} {x : Nd} (h : l[k]? = some x) : refs (l.take (k + 1)) = refs (l.take k) ++ x.refs := by
  obtain ⟨hk, he⟩ := List.getElem?_eq_some_iff.1 h
  rw [List.take_succ_eq_append_getElem hk, he]
  simp [refs]
theorem ok_a {loc : Int} {i : Nat} {n : Nd} (h : nodeOk loc i n) (h3 : 3 ≤ n.op) : 0 ≤ n.a ∧ n.a < i := by unfold nodeOk at h; omega
theorem ok_b {loc : Int} {i : Nat} {n : Nd} (h : nodeOk loc i n) (h6 : 6 ≤ n.op) : 0 ≤ n.b ∧ n.b < i := by unfold nodeOk at h; omega
noncomputable def loopO1 (g o c gu : Nat) (l : List Nd) (loc : Int) : Sy.LoopC :=
  ⟨.loop bodyO1, 58, slO1 g o c gu l.length 0, l.length ≤ 4398046511104 ∧ nodesOk loc l, ⟨[(g, .seg o (ndCells l))], [(gu, .row tInt 1 l.length l.length (List.replicate l.length (.int .i64 0)))], 0, []⟩,
    [(⟨fun _ => True, fun _ => [(gu, .row tInt 1 l.length l.length (cntV l.length (refs l)))], fun _ => []⟩, .exit 0, fun _ => [(0, .slice (some ⟨g, o, none⟩) l.length c), (2, .bool false), (3, .slice (some ⟨gu, 0, none⟩) l.length l.length)])]⟩
theorem loopO1_met (g o c gu : Nat) (l : List Nd) (loc : Int) : Sy.MeetsL Tryz.prog (loopO1 g o c gu l loc) := by
  refine Sy.loop_of (n := 50) (fn := fON) Sy.S0_holds mixed (body := bodyO1) rfl [0, 2, 3, 11, 12, 13] (fun k : Nat => slO1 g o c gu l.length k) (fun k => [⟨g, .seg o (ndCells l), false⟩, ⟨gu, .row tInt 1 l.length l.length (cntV l.length (refs (l.take k))), true⟩])
    (fun k => k ≤ l.length ∧ l.length ≤ 4398046511104 ∧ nodesOk loc l) (fun k => l.length - k)
    0 (fun h => ⟨Nat.zero_le _, h⟩) (fun p hp => hp) [0, 1] (by decide) (by rw [List.take_zero, show refs [] = [] from rfl, cntV_nil]; rfl) (o := fun _ => o1_o) (R := fun k xs => o1_R g o c gu l.length k (ndCells l) (cntV l.length (refs (l.take k))) xs) (fun k xs _ => o1_run g o c gu l.length k (ndCells l) (cntV l.length (refs (l.take k))) xs) ?_
  rintro - k rest ⟨hk, hm, hok⟩ ns
  simp only [o1_R, Sy.Res.holds, Int.ofNat_eq_natCast, Sy.b_and, Sy.b_or, Sy.b_not, Sy.b_f, Sy.b_and', Sy.b_or', Sy.q_lt, Sy.q_le, Sy.q_eq, Sy.b_tt, Sy.b_ft, not_true_eq_false, not_false_eq_true]
  refine ⟨fun hlt => ?_, fun hge => ?_⟩
  · have hlt : k < l.length := by omega
    have ea : l[k]? = some l[k] := List.getElem?_eq_getElem hlt
    obtain ⟨a0, a1, a2, a3⟩ := nd_at ea o
    simp only [a0, a1, a2, a3, some_int, some_bool, exists_eq', true_and]
    generalize l[k] = x at *
    refine ⟨by omega, fun h0 h1 h2 h3 => ?_⟩
    simp only [← h0, ← h2, ← h3]
    have hx := hok k x ea
    have hr := refs_take ea
    have hrl := refs_length (l.take k)
    have htl : (l.take k).length = k := by rw [List.length_take]; omega
    have fin : ∀ B R, R = refs (l.take (k + 1)) → Sy.leafL (loopO1 g o c gu l loc) [0, 2, 3, 11, 12, 13] (fun k : Nat => slO1 g o c gu l.length k) (fun k => [⟨g, .seg o (ndCells l), false⟩, ⟨gu, .row tInt 1 l.length l.length (cntV l.length (refs (l.take k))), true⟩])
        (fun k => k ≤ l.length ∧ l.length ≤ 4398046511104 ∧ nodesOk loc l) (fun k => l.length - k) k (Exit.normal, 58, [.slice (some ⟨g, o, none⟩) l.length c, .bool false, .slice (some ⟨gu, 0, none⟩) l.length l.length, .slice (some ⟨g, o, none⟩) l.length c, .int .i64 l.length, .int .i64 (Ex.wrapQ IntKind.i64 (Ex.addQ (↑k : Int) 1))],
          [B, ⟨g, .seg o (ndCells l), false⟩, ⟨gu, .row tInt 1 l.length l.length (cntV l.length R), true⟩]) := fun B R hR => by
      subst hR
      exact Sy.leafL_next (k + 1) rfl ⟨by omega, hm, hok⟩ (by show l.length - (k + 1) < l.length - k; omega) (by rw [Sy.inc_q k (by omega)]; rfl) [1, 2] (by decide) rfl
    refine ⟨fun c3 => ?_, fun c3 => ⟨fun c6 => absurd c6 (by omega), fun c6 => fin _ _ ?_⟩⟩
    · have ha := ok_a hx c3
      have la : x.a.toNat < l.length := by omega
      simp only [cntV_at _ la, cntV_length, some_int, some_bool, exists_eq', true_and]
      refine ⟨by omega, fun h5 => ⟨by omega, by omega, ?_⟩⟩
      simp only [← h5, cntV_set _ la (show (refs (l.take k)).length < _ by omega)]
      refine ⟨fun c6 => ?_, fun c6 => fin _ _ ?_⟩
      · have hb := ok_b hx c6
        have lb : x.b.toNat < l.length := by omega
        simp only [cntV_at _ lb, cntV_length, some_int, some_bool, exists_eq', true_and]
        refine ⟨by omega, fun h6 => ⟨by omega, by omega, ?_⟩⟩
        simp only [← h6, cntV_set _ lb (show (refs (l.take k) ++ [x.a.toNat]).length < _ by rw [List.length_append, List.length_singleton]; omega)]
        refine fin _ _ ?_
        rw [hr, List.append_assoc]
        unfold Nd.refs
        rw [if_neg (by omega), if_neg (by omega)]
        rfl
      · rw [hr]
        unfold Nd.refs
        rw [if_neg (by omega), if_pos (by omega)]
    · rw [hr]
      unfold Nd.refs
      rw [if_pos (by omega), List.append_nil]
  · have hkl : k = l.length := by omega
    subst hkl
    rw [List.take_length]
    exact Sy.leafL_end 0 rfl rfl (by simp) rfl [] rfl [0, 1, 2] rfl [1] (by decide) ⟨⟨rfl, rfl, .inl rfl⟩, trivial⟩ trivial
noncomputable def loopO2 (g o c gu : Nat) (l : List Nd) : Sy.LoopC :=
  ⟨.loop bodyO2, 58, slO2 g o c gu l.length 0, l.length ≤ 4398046511104, ⟨[], [(gu, .row tInt 1 l.length l.length (cntV l.length (refs l)))], 0, []⟩,
    [(⟨fun _ => onceOk l, fun _ => [], fun _ => []⟩, .exit 2, fun _ => []), (⟨fun _ => ¬ onceOk l, fun _ => [], fun _ => []⟩, .ret, fun _ => [(2, .bool false)])]⟩
theorem beq_t (a b : Bool) : ((a == b) = true) = ((a = true) ↔ (b = true)) := by cases a <;> cases b <;> simp
theorem dec_q (n : Nat) (h0 : 0 < n) (h : n < 9223372036854775807) : Ex.wrapQ .i64 (Ex.subQ' (n : Int) 1) = ((n - 1 : Nat) : Int) := by
  rw [Ex.wrapQ_eq, Ex.subQ_eq]
  simp [IntKind.wrap, IntKind.signed, IntKind.bits]
  omega
theorem loopO2_met (g o c gu : Nat) (l : List Nd) : Sy.MeetsL Tryz.prog (loopO2 g o c gu l) := by
  refine Sy.loop_of (n := 50) (fn := fON) Sy.S0_holds mixed (body := bodyO2) rfl [0, 2, 38, 39, 40] (fun k : Nat => slO2 g o c gu l.length k) (fun k => [⟨gu, .row tInt 1 l.length l.length (cntV l.length (refs l)), true⟩])
    (fun k => k ≤ l.length ∧ l.length ≤ 4398046511104 ∧ ∀ j, j < k → (refs l).count j = if j + 1 < l.length then 1 else 0) (fun k => l.length - k)
    0 (fun h => ⟨Nat.zero_le _, h, fun j hj => absurd hj (Nat.not_lt_zero j)⟩) (fun p hp => hp) [0] (by decide) rfl (o := fun _ => o2_o) (R := fun k xs => o2_R g o c gu l.length k (cntV l.length (refs l)) xs) (fun k xs _ => o2_run g o c gu l.length k (cntV l.length (refs l)) xs) ?_
  rintro - k rest ⟨hk, hm, hall⟩ ns
  simp only [o2_R, Sy.Res.holds, Int.ofNat_eq_natCast, Sy.b_and, Sy.b_or, Sy.b_not, Sy.b_f, Sy.b_and', Sy.b_or', Sy.q_lt, Sy.q_le, Sy.q_eq, Sy.b_tt, Sy.b_ft, not_true_eq_false, not_false_eq_true, beq_t]
  refine ⟨fun hlt => ?_, fun hge => ?_⟩
  · have hlt : k < l.length := by omega
    simp only [Int.toNat_natCast, cntV_at _ hlt, some_int, some_bool, exists_eq', true_and]
    refine ⟨by omega, fun h0 => ?_⟩
    simp only [← h0, dec_q l.length (by omega) (by omega)]
    refine ⟨fun r => ?_, fun r => ?_⟩
    · refine Sy.leafL_end 1 rfl rfl (by simp) rfl [] rfl [1] rfl [] List.nodup_nil trivial fun h => ?_
      have := h k hlt
      split at this <;> omega
    · refine Sy.leafL_next (k + 1) rfl ⟨by omega, hm, fun j hj => ?_⟩ (by show l.length - (k + 1) < l.length - k; omega) (by rw [Sy.inc_q k (by omega)]; rfl) [0] (by decide) rfl
      rcases Nat.lt_succ_iff_lt_or_eq.1 hj with hj | rfl
      · exact hall j hj
      · split <;> omega
  · exact Sy.leafL_end 0 rfl rfl (by simp) rfl [] rfl [] rfl [] List.nodup_nil trivial fun j hj => hall j (by omega)
end Go.Proofs.YtlpcnaeknbmjdaaGreat.Lw

namespace Go.Proofs.YtlpcnaeknbmjdaaGreat.Lw
set_option linter.unusedVariables false
set_option linter.unusedSimpArgs false
open Go Go.RowKit
open Go.Proofs.YtlpcnaeknbmjdaaGreat.Sy (Let Blk)
noncomputable def onceC (g o c : Nat) (l : List Nd) (loc : Int) : Sy.CallC := ⟨fON, #[.slice (some ⟨g, o, none⟩) l.length c], nodesOk loc l ∧ l.length ≤ 4398046511104, ⟨[(g, .seg o (ndCells l))], [], 0, []⟩, [Sy.plainO (.bool (tru (onceOk l)))]⟩
noncomputable def ctxO (g o c : Nat) (l : List Nd) (loc : Int) : Sy.Ctx := Sy.mkS [] [(fON, fun a _ => loopO1 g o c (Sy.ptrN (a.get 3)) l loc), (fON, fun a _ => loopO2 g o c (Sy.ptrN (a.get 38)) l)] []
def once_o : Sy.O := (Sy.O.steps [0, 1, 1, 0, 0, 1, 0, 0, 0, 0, 0, 0, 0, 1, 0, 0, 0] (Sy.O.fork (Sy.O.steps [0, 0] Sy.O.nil) (Sy.O.steps [0, 0] Sy.O.nil)))
noncomputable def once_R (g : Nat) (o : Nat) (c : Nat) (l : List Nd) (loc : Int) (ns : Nat → Sy.Let) : Sy.Res (Value × List Blk) :=
 let z0 := (List.length l)
 Sy.Res.need ((0 : Int) ≤ Int.ofNat z0 ∧ Int.toNat (Int.ofNat z0) * (8 : Nat) ≤ (281474976710656 : Nat) ∧ Int.toNat (Int.ofNat z0) ≤ (9223372036854775807 : Nat)) (Sy.Res.need (List.length l ≤ (4398046511104 : Nat) ∧ nodesOk loc l) (Sy.Res.hyp True (Sy.Res.need (Nat.le z0 (4398046511104 : Nat)) (Sy.Res.both (Sy.Res.hyp (∀ (j : Nat), j < List.length l → List.countP.go (fun (x : Nat) => x == j) (refs l) (0 : Nat) = if j + (1 : Nat) < List.length l then (1 : Nat) else (0 : Nat)) (Sy.Res.leaf (Value.bool true, []))) (Sy.Res.hyp (onceOk l → False) (Sy.Res.leaf (Value.bool false, [])))))))
theorem once_run (g o c : Nat) (l : List Nd) (loc : Int) : Sy.Ran (Sy.inT Tryz.prog (ctxO g o c l loc) 50 fON (onceC g o c l loc).args (Sy.blks (onceC g o c l loc).mem) Sy.noB) once_o (once_R g o c l loc) := ⟨fun ns => by kernel_rfl, fun ns => by kernel_rfl⟩
theorem ctxO_holds (g o c : Nat) (l : List Nd) (loc : Int) : (ctxO g o c l loc).holds Tryz.prog := Sy.mkS_holds (fun _ h => (by cases h)) (fun p hp a L => by
  rcases List.mem_cons.1 hp with rfl | hp
  · exact loopO1_met _ _ _ _ _ _
  rcases List.mem_singleton.1 hp with rfl
  exact loopO2_met _ _ _ _ _) (fun _ h => (by cases h))
theorem tru_pos {p : Prop} (h : p) : tru p = true := by unfold tru; exact @decide_eq_true p (Classical.propDecidable p) h
theorem tru_neg {p : Prop} (h : ¬ p) : tru p = false := by unfold tru; exact @decide_eq_false p (Classical.propDecidable p) h
theorem tru_t (p : Prop) : (tru p = true) = p := propext ⟨fun h => Classical.byContradiction fun hn => (by rw [tru_neg hn] at h; cases h), tru_pos⟩
theorem onceC_met (g o c : Nat) (l : List Nd) (loc : Int) : Sy.Meets Tryz.prog (onceC g o c l loc) := by
  refine Sy.meets_of (ctxO_holds g o c l loc) mixed (once_run g o c l loc) fun hok ns => ?_
  obtain ⟨h1, h2⟩ : nodesOk loc l ∧ l.length ≤ 4398046511104 := hok
  simp only [once_R, Sy.Res.holds]
  refine ⟨⟨Int.natCast_nonneg _, ?_, ?_⟩, ⟨h2, h1⟩, fun _ => ⟨h2, fun h => Sy.plainO_leaf (List.mem_singleton_self _) rfl (by rw [tru_pos (show onceOk l from h)]), fun h => Sy.plainO_leaf (List.mem_singleton_self _) rfl (by rw [tru_neg (show ¬ onceOk l from h)])⟩⟩
  · show l.length * 8 ≤ _
    omega
  · show l.length ≤ _
    omega
noncomputable def ceC (g o c : Nat) (l : List Nd) (loc : Int) : Sy.CallC := ⟨fCE, #[.slice (some ⟨g, o, none⟩) l.length c, .int .i64 loc], 0 ≤ loc ∧ loc ≤ 1000 ∧ l.length ≤ 4398046511104, ⟨[(g, .seg o (ndCells l))], [], 0, []⟩, [Sy.plainO (.bool (tru (isExpr loc l)))]⟩
noncomputable def ctxCE (g o c : Nat) (l : List Nd) (loc : Int) : Sy.Ctx := Sy.mkS [(fON, fun _ _ => onceC g o c l loc)] [(fCE, fun _ _ => loopCE g o c l loc)] []
def ce_o : Sy.O := (Sy.O.steps [0, 0, 0, 0, 0] (Sy.O.fork (Sy.O.steps [0, 0, 0, 1, 0] (Sy.O.fork (Sy.O.steps [0, 0, 0, 0, 0, 0, 0] Sy.O.nil) (Sy.O.steps [0] Sy.O.nil))) (Sy.O.steps [0, 0] Sy.O.nil)))
noncomputable def ce_R (g : Nat) (o : Nat) (c : Nat) (l : List Nd) (loc : Int) (ns : Nat → Sy.Let) : Sy.Res (Value × List Blk) :=
 let z0 := (Int.ofNat (List.length l))
 Sy.Res.need ((0 : Int) ≤ loc ∧ loc ≤ (1000 : Int) ∧ List.length l ≤ (4398046511104 : Nat)) (Sy.Res.both (Sy.Res.hyp (∀ (i : Nat) (n : Nd), l[i]? = some n → nodeOk loc i n) (Sy.Res.br (bif Ex.ltQ (0 : Int) z0 then Ex.leQ z0 (65536 : Int) else false) (Sy.Res.need (nodesOk loc l ∧ List.length l ≤ (4398046511104 : Nat)) (Sy.Res.hyp True (Sy.Res.leaf (Value.bool (bif true then tru (onceOk l) else false), [])))) (Sy.Res.leaf (Value.bool false, [])))) (Sy.Res.hyp (nodesOk loc l → False) (Sy.Res.leaf (Value.bool false, []))))
theorem ce_run (g o c : Nat) (l : List Nd) (loc : Int) : Sy.Ran (Sy.inT Tryz.prog (ctxCE g o c l loc) 50 fCE (ceC g o c l loc).args (Sy.blks (ceC g o c l loc).mem) Sy.noB) ce_o (ce_R g o c l loc) := ⟨fun ns => by kernel_rfl, fun ns => by kernel_rfl⟩
theorem ceC_met (g o c : Nat) (l : List Nd) (loc : Int) : Sy.Meets Tryz.prog (ceC g o c l loc) := by
  have HS : (ctxCE g o c l loc).holds Tryz.prog := Sy.mkS_holds (fun p hp a L => by
    rcases List.mem_singleton.1 hp with rfl
    exact onceC_met _ _ _ _ _) (fun p hp a L => by
    rcases List.mem_singleton.1 hp with rfl
    exact loopCE_met _ _ _ _ _) (fun _ h => (by cases h))
  refine Sy.meets_of HS mixed (ce_run g o c l loc) fun hok ns => ?_
  obtain ⟨h0, h1, h2⟩ : 0 ≤ loc ∧ loc ≤ 1000 ∧ l.length ≤ 4398046511104 := hok
  simp only [ce_R, Sy.Res.holds, Int.ofNat_eq_natCast, Sy.b_and, Sy.b_or, Sy.b_not, Sy.b_f, Sy.b_and', Sy.b_or', Sy.q_lt, Sy.q_le, Sy.q_eq, Sy.b_tt, Sy.b_ft, not_true_eq_false, not_false_eq_true]
  refine ⟨⟨h0, h1, h2⟩, fun hn => ⟨fun hl => ⟨⟨hn, h2⟩, fun _ => Sy.plainO_leaf (List.mem_singleton_self _) rfl ?_⟩, fun hl => Sy.plainO_leaf (List.mem_singleton_self _) rfl ?_⟩, fun hn => Sy.plainO_leaf (List.mem_singleton_self _) rfl ?_⟩
  · show Value.bool (tru (onceOk l)) = _
    by_cases ho : onceOk l
    · rw [tru_pos ho, tru_pos ⟨hn, by omega, by omega, ho⟩]
    · rw [tru_neg ho, tru_neg fun h => ho h.2.2.2]
  · rw [tru_neg fun h => hl (by have := h.2.1; have := h.2.2.1; omega)]
  · rw [tru_neg fun h => hn h.1]
end Go.Proofs.YtlpcnaeknbmjdaaGreat.Lw

namespace Go.Proofs.YtlpcnaeknbmjdaaGreat.Lw
set_option linter.unusedVariables false
set_option linter.unusedSimpArgs false
open Go Go.RowKit
open Go.Proofs.YtlpcnaeknbmjdaaGreat.Sy (Let Blk)
abbrev fMay : FuncId := 158
noncomputable def mayC (g o c : Nat) (l : List Nd) : Sy.CallC := ⟨fMay, #[.slice (some ⟨g, o, none⟩) l.length c], 0 < l.length ∧ l.length ≤ 4398046511104, ⟨[(g, .seg o (ndCells l))], [], 0, []⟩, [Sy.plainO (.bool (tru (isExpr 24 l)))]⟩
noncomputable def ctxM (g o c : Nat) (l : List Nd) : Sy.Ctx := Sy.mkS [(fCE, fun _ _ => ceC g o c l 24)] [] []
def may_o : Sy.O := (Sy.O.steps [0, 0, 0, 0, 0, 0, 0, 0, 0, 0, 0, 0, 0, 0, 0, 0, 0, 0, 0, 0, 0, 0, 0, 0, 0, 0, 0, 0, 0, 0, 0, 0, 0, 1, 0, 0, 0, 0, 0, 0, 0, 0, 0, 0, 0, 0, 0, 0, 0, 0, 0, 0, 0, 0, 0, 0, 0, 0, 0, 0] (Sy.O.steps [0, 0, 0, 0, 0, 0, 0, 0, 0, 0, 0, 3, 0, 0, 0, 0, 0, 0, 0, 0, 2, 0, 0, 1, 0, 0, 2, 0, 0, 0, 0, 0, 0, 2, 0, 0, 0, 0, 0, 0, 2, 0, 0, 0, 0, 2, 0, 0, 0, 0, 0, 0, 0, 0, 0, 0, 0, 2, 0, 0] (Sy.O.steps [0, 0, 0, 0, 0, 0, 0, 0, 0, 0, 0, 0, 0, 0, 0, 0, 0, 0, 0, 0, 0, 0, 0, 0, 0, 4, 0, 0, 0, 0, 0, 0, 0, 0, 0, 0, 0, 0, 0, 0, 0, 0, 0, 0, 0, 0, 4, 0, 0, 0, 0, 0, 0, 4, 0, 0, 0, 0, 0, 0] (Sy.O.steps [0, 4, 0, 0, 0, 0, 0, 0, 0, 0, 0, 0, 4, 0, 0] (Sy.O.fork (Sy.O.steps [0, 0] Sy.O.nil) (Sy.O.steps [0, 0, 0, 0, 4, 0, 0, 0, 0, 0, 0, 0, 0, 0, 4, 0, 0, 0, 0, 2, 0, 0, 0, 10, 0, 0, 0, 0, 0] (Sy.O.fork (Sy.O.steps [0, 0] Sy.O.nil) (Sy.O.steps [0, 1, 0, 0, 0, 0, 0, 0, 0, 0, 0, 1, 0, 0, 0, 0, 0, 0, 0, 0, 1, 0, 0, 0, 0, 0, 0, 5, 0, 0, 0, 0, 0, 0, 0] Sy.O.nil))))))))
noncomputable def may_R (g : Nat) (o : Nat) (c : Nat) (l : List Nd) (ns : Nat → Sy.Let) : Sy.Res (Value × List Blk) :=
 Sy.Res.br (!true == Ex.ltQ (0 : Int) (Int.ofNat (List.length l))) (Sy.Res.leaf (Value.bool false, [])) (Sy.Res.need ((0 : Int) ≤ (24 : Int) ∧ (24 : Int) ≤ (1000 : Int) ∧ List.length l ≤ (4398046511104 : Nat)) (Sy.Res.hyp True (Sy.Res.br (bif true then !tru (isExpr (24 : Int) l) else false) (Sy.Res.leaf (Value.bool false, [])) (Sy.Res.leaf (Value.bool true, [])))))
theorem may_run (g o c : Nat) (l : List Nd) : Sy.Ran (Sy.inT Tryz.prog (ctxM g o c l) 60 fMay (mayC g o c l).args (Sy.blks (mayC g o c l).mem) Sy.noB) may_o (may_R g o c l) := ⟨fun ns => by kernel_rfl, fun ns => by kernel_rfl⟩
theorem mayC_met (g o c : Nat) (l : List Nd) : Sy.Meets Tryz.prog (mayC g o c l) := by
  have HS : (ctxM g o c l).holds Tryz.prog := Sy.mkS_holds (fun p hp a L => by
    rcases List.mem_singleton.1 hp with rfl
    exact ceC_met _ _ _ _ _) (fun _ h => (by cases h)) (fun _ h => (by cases h))
  refine Sy.meets_of HS mixed (may_run g o c l) fun hok ns => ?_
  obtain ⟨h0, h1⟩ : 0 < l.length ∧ l.length ≤ 4398046511104 := hok
  simp only [may_R, Sy.Res.holds, Int.ofNat_eq_natCast, Sy.b_and, Sy.b_or, Sy.b_not, Sy.b_f, Sy.b_and', Sy.b_or', Sy.q_lt, Sy.q_le, Sy.q_eq, Sy.b_tt, Sy.b_ft, not_true_eq_false, not_false_eq_true, beq_t, tru_t]
  refine ⟨fun h => absurd ⟨fun _ => by omega, fun _ => trivial⟩ h, fun h => ⟨⟨by omega, by omega, h1⟩, fun _ => ⟨fun hn => Sy.plainO_leaf (List.mem_singleton_self _) rfl ?_, fun hn => Sy.plainO_leaf (List.mem_singleton_self _) rfl ?_⟩⟩⟩
  · rw [tru_neg hn.2]
  · rw [tru_pos (Classical.byContradiction fun he => hn ⟨trivial, he⟩)]
inductive E where
  | num (v : Int)
  | loc (v : Int)
  | un (op : Int) (x : E)
  | bin (op : Int) (x y : E)
def tr (l : List Nd) (i : Nat) : E := match l[i]? with
  | none => .num 0
  | some n => if n.op ≤ 1 then .num n.val else if n.op = 2 then .loc n.val else if n.op ≤ 5 then (if _h : n.a.toNat < i then .un n.op (tr l n.a.toNat) else .num 0)
    else if _h : n.a.toNat < i ∧ n.b.toNat < i then .bin n.op (tr l n.a.toNat) (tr l n.b.toNat) else .num 0
termination_by i
theorem tr_num {l : List Nd} {i : Nat} {n : Nd} (h : l[i]? = some n) (h1 : n.op ≤ 1) : tr l i = .num n.val := by
  rw [tr]; simp only [h, if_pos h1]
theorem tr_loc {l : List Nd} {i : Nat} {n : Nd} (h : l[i]? = some n) (h1 : n.op = 2) : tr l i = .loc n.val := by
  rw [tr]; simp only [h]; rw [if_neg (by omega), if_pos h1]
theorem tr_un {l : List Nd} {i : Nat} {n : Nd} (h : l[i]? = some n) (h1 : 3 ≤ n.op) (h2 : n.op ≤ 5) (ha : n.a.toNat < i) : tr l i = .un n.op (tr l n.a.toNat) := by
  rw [tr]; simp only [h]; rw [if_neg (by omega), if_neg (by omega), if_pos h2, dif_pos ha]
theorem tr_bin {l : List Nd} {i : Nat} {n : Nd} (h : l[i]? = some n) (h1 : 6 ≤ n.op) (ha : n.a.toNat < i) (hb : n.b.toNat < i) : tr l i = .bin n.op (tr l n.a.toNat) (tr l n.b.toNat) := by
  rw [tr]; simp only [h]; rw [if_neg (by omega), if_neg (by omega), if_neg (by omega), dif_pos ⟨ha, hb⟩]
def E.needs : E → Nat
  | .num _ => 1
  | .loc _ => 1
  | .un _ x => x.needs
  | .bin _ x y => max x.needs (y.needs + 1)
def E.size : E → Nat
  | .num _ => 1
  | .loc _ => 1
  | .un _ x => x.size + 1
  | .bin _ x y => x.size + y.size + 1
theorem E.needs_le (x : E) : x.needs ≤ x.size := by
  induction x with
  | num _ => exact Nat.le_refl _
  | loc _ => exact Nat.le_refl _
  | un _ x ih => simp only [needs, size]; omega
  | bin _ x y ihx ihy => simp only [needs, size]; omega
end Go.Proofs.YtlpcnaeknbmjdaaGreat.Lw

namespace Go.Proofs.YtlpcnaeknbmjdaaGreat.Lw
open Go Go.RowKit
def binOp (op : Int) : Int := if op = 6 then 9 else if op = 7 then 3 else if op = 8 then 4 else if op = 9 then 10 else if op = 10 then 11 else if op = 11 then 5 else if op = 12 then 7 else if op = 13 then 6 else 0
def binCond (op : Int) : Int := if op = 14 then 0 else if op = 15 then 1 else if op = 16 then 3 else if op = 17 then 9 else if op = 18 then 8 else 2
def unL (op t : Int) : List I := if op = 3 then [⟨4, t, 31, t, 0, 0⟩] else if op = 4 then [⟨8, t, 31, t, 0, 0⟩] else [⟨16, 0, t, 31, 0, 0⟩, ⟨17, t, 0, 0, 0, 0⟩]
def binL (op t : Int) : List I := if binOp op = 0 then [⟨16, 0, t, t + 1, 0, 0⟩, ⟨17, t, 0, 0, 0, binCond op⟩] else [⟨binOp op, t, t, t + 1, 0, 0⟩]
def lay : E → Int → List I
  | .num v, t => numL t v
  | .loc v, t => [⟨6, t, 31, v, 0, 0⟩]
  | .un op x, t => lay x t ++ unL op t
  | .bin op x y, t => lay x t ++ (lay y (t + 1) ++ binL op t)
theorem numL_pos (r v : Int) : 0 < (numL r v).length := by unfold numL; simp
theorem numL_le (r v : Int) : (numL r v).length ≤ 4 := by
  unfold numL movk
  split <;> split <;> split <;> simp
theorem lay_pos : ∀ (x : E) (t : Int), 0 < (lay x t).length
  | .num v, t => numL_pos t v
  | .loc v, t => by simp [lay]
  | .un op x, t => by have := lay_pos x t; simp only [lay, List.length_append]; omega
  | .bin op x y, t => by have := lay_pos x t; simp only [lay, List.length_append]; omega
theorem unL_le (op t : Int) : (unL op t).length ≤ 2 := by unfold unL; split <;> (try split) <;> simp
theorem unL_pos (op t : Int) : 0 < (unL op t).length := by unfold unL; split <;> (try split) <;> simp
theorem binL_le (op t : Int) : (binL op t).length ≤ 2 := by unfold binL; split <;> simp
theorem lay_le : ∀ (x : E) (t : Int), (lay x t).length ≤ 4 * x.size
  | .num v, t => by have := numL_le t v; simp only [lay, E.size]; omega
  | .loc v, t => by simp [lay, E.size]
  | .un op x, t => by have := lay_le x t; have := unL_le op t; simp only [lay, List.length_append, E.size]; omega
  | .bin op x y, t => by have := lay_le x t; have := lay_le y (t + 1); have := binL_le op t; simp only [lay, List.length_append, E.size]; omega
theorem E.needs_pos : ∀ x : E, 0 < x.needs
  | .num _ => by simp [needs]
  | .loc _ => by simp [needs]
  | .un _ x => x.needs_pos
  | .bin _ x y => by have := x.needs_pos; simp only [needs]; omega
noncomputable def szSum (l : List Nd) (R : List Nat) : Nat → Nat
  | 0 => 0
  | n + 1 => szSum l R n + (if n ∈ R then 0 else (tr l n).size)
theorem szSum_congr {l : List Nd} {R R' : List Nat} : ∀ {n : Nat}, (∀ j, j < n → (j ∈ R ↔ j ∈ R')) → szSum l R n = szSum l R' n
  | 0, _ => rfl
  | n + 1, h => by
    have h1 := h n (by omega)
    have ih := szSum_congr (l := l) (n := n) fun j hj => h j (by omega)
    simp only [szSum, ih]
    by_cases hn : n ∈ R
    · rw [if_pos hn, if_pos (h1.1 hn)]
    · rw [if_neg hn, if_neg fun h => hn (h1.2 h)]
theorem szSum_add {l : List Nd} {R : List Nat} {a : Nat} (hR : a ∉ R) : ∀ {n : Nat}, a < n → szSum l R n = szSum l (R ++ [a]) n + (tr l a).size
  | 0, h => absurd h (Nat.not_lt_zero a)
  | n + 1, h => by
    simp only [szSum]
    rcases Nat.lt_succ_iff_lt_or_eq.1 h with hlt | rfl
    · rw [szSum_add hR hlt]
      have : (n ∈ R ++ [a]) ↔ n ∈ R := by
        rw [List.mem_append, List.mem_singleton]
        exact ⟨fun h => h.elim id fun h => absurd h (by omega), .inl⟩
      by_cases hn : n ∈ R
      · rw [if_pos hn, if_pos (this.2 hn)]; omega
      · rw [if_neg hn, if_neg fun h => hn (this.1 h)]; omega
    · rw [if_neg hR, if_pos (by simp)]
      rw [szSum_congr (R' := R ++ [a]) fun j hj => by
        rw [List.mem_append, List.mem_singleton]
        exact ⟨.inl, fun h => h.elim id fun h => absurd h (by omega)⟩]
      omega
theorem refs_lt {loc : Int} {l : List Nd} (hok : nodesOk loc l) {n : Nat} (hn : n ≤ l.length) {j : Nat} (hj : j ∈ refs (l.take n)) : j < n := by
  unfold refs at hj
  obtain ⟨x, hx, hj⟩ := List.mem_flatMap.1 hj
  obtain ⟨m, hm, he⟩ := List.mem_iff_getElem.1 hx
  have hml : m < n := by rw [List.length_take] at hm; omega
  have hx' : l[m]? = some x := by
    rw [List.getElem_take] at he
    rw [← he]
    exact List.getElem?_eq_getElem (by omega)
  have h1 := hok m x hx'
  unfold Nd.refs at hj
  split at hj
  · cases hj
  · split at hj
    · have := ok_a h1 (by omega)
      rcases List.mem_singleton.1 hj with rfl
      omega
    · have := ok_a h1 (by omega)
      have := ok_b h1 (by omega)
      rcases List.mem_cons.1 hj with rfl | hj
      · omega
      · rcases List.mem_singleton.1 hj with rfl
        omega
theorem szSum_is {loc : Int} {l : List Nd} (hok : nodesOk loc l) (hd : (refs l).Nodup) : ∀ n, n ≤ l.length → szSum l (refs (l.take n)) n = n
  | 0, _ => rfl
  | n + 1, h => by
    have ih := szSum_is hok hd n (by omega)
    have ea : l[n]? = some l[n] := List.getElem?_eq_getElem (by omega)
    have hr := refs_take ea
    have hself : n ∉ refs (l.take (n + 1)) := fun hm => by
      rw [hr] at hm
      rcases List.mem_append.1 hm with hm | hm
      · have := refs_lt hok (by omega) hm; omega
      · have h1 := hok n _ ea
        unfold Nd.refs at hm
        split at hm
        · cases hm
        · split at hm
          · have := ok_a h1 (by omega)
            have := List.mem_singleton.1 hm
            omega
          · have := ok_a h1 (by omega)
            have := ok_b h1 (by omega)
            rcases List.mem_cons.1 hm with hm | hm
            · omega
            · have := List.mem_singleton.1 hm
              omega
    have hnd : (refs (l.take (n + 1))).Nodup := by
      have : refs l = refs (l.take (n + 1)) ++ refs (l.drop (n + 1)) := by
        unfold refs
        rw [← List.flatMap_append, List.take_append_drop]
      rw [this] at hd
      exact (List.nodup_append.1 hd).1
    simp only [szSum, if_neg hself]
    rw [hr] at hnd ⊢
    have h1 := hok n _ ea
    generalize l[n] = x at *
    have hdis := (List.nodup_append.1 hnd).2
    unfold Nd.refs at *
    split at hnd
    · rename_i h3
      rw [if_pos h3, List.append_nil, ih]
      by_cases h2 : x.op ≤ 1
      · rw [tr_num ea h2]; rfl
      · rw [tr_loc ea (by omega)]; rfl
    · rename_i h3
      split at hnd
      · rename_i h6
        have ha := ok_a h1 (by omega)
        have h7 : x.a.toNat ∉ refs (l.take n) := fun hm => by
          rw [if_neg h3, if_pos h6] at hdis
          exact hdis.2 _ hm _ (List.mem_singleton_self _) rfl
        rw [if_neg h3, if_pos h6]
        have := szSum_add (l := l) h7 (n := n) (by omega)
        rw [tr_un ea (by omega) (by omega) (by omega)]
        simp only [E.size]
        omega
      · rename_i h6
        have ha := ok_a h1 (by omega)
        have hb := ok_b h1 (by omega)
        rw [if_neg h3, if_neg h6] at hdis
        have h7 : x.a.toNat ∉ refs (l.take n) := fun hm => hdis.2 _ hm _ List.mem_cons_self rfl
        have h8 : x.b.toNat ∉ refs (l.take n) ++ [x.a.toNat] := fun hm => by
          rcases List.mem_append.1 hm with hm | hm
          · exact hdis.2 _ hm _ (List.mem_cons_of_mem _ (List.mem_singleton_self _)) rfl
          · have := List.mem_singleton.1 hm
            have h9 := hdis.1
            rw [this] at h9
            simp at h9
        rw [if_neg h3, if_neg h6]
        have e1 := szSum_add (l := l) h7 (n := n) (by omega)
        have e2 := szSum_add (l := l) h8 (n := n) (by omega)
        rw [show refs (l.take n) ++ [x.a.toNat] ++ [x.b.toNat] = refs (l.take n) ++ [x.a.toNat, x.b.toNat] by simp] at e2
        rw [tr_bin ea (by omega) (by omega) (by omega)]
        simp only [E.size]
        omega
theorem refs_nodup {loc : Int} {l : List Nd} (hok : nodesOk loc l) (ho : onceOk l) : (refs l).Nodup := by
  rw [List.nodup_iff_count]
  intro j
  rcases Nat.lt_or_ge j l.length with h | h
  · rw [ho j h]; split <;> omega
  · have : j ∉ refs l := fun hm => by
      have := refs_lt hok (Nat.le_refl _) (j := j) (by rw [List.take_length]; exact hm)
      omega
    rw [List.count_eq_zero.2 this]; omega
theorem tr_small {loc : Int} {l : List Nd} (h : isExpr loc l) {i : Nat} (hi : i < l.length) : (tr l i).size ≤ i + 1 := by
  have hs := szSum_is h.1 (refs_nodup h.1 h.2.2.2) (i + 1) (by omega)
  simp only [szSum] at hs
  split at hs
  · rename_i hm
    exfalso
    have ea : l[i]? = some l[i] := List.getElem?_eq_getElem hi
    have h1 := h.1 i _ ea
    rw [refs_take ea] at hm
    rcases List.mem_append.1 hm with hm | hm
    · have := refs_lt h.1 (by omega) hm; omega
    · unfold Nd.refs at hm
      split at hm
      · cases hm
      · split at hm
        · have := ok_a h1 (by omega)
          have := List.mem_singleton.1 hm
          omega
        · have := ok_a h1 (by omega)
          have := ok_b h1 (by omega)
          rcases List.mem_cons.1 hm with hm | hm
          · omega
          · have := List.mem_singleton.1 hm
            omega
  · omega
end Go.Proofs.YtlpcnaeknbmjdaaGreat.Lw

namespace Go.Proofs.YtlpcnaeknbmjdaaGreat.Lw
set_option linter.unusedVariables false
set_option linter.unusedSimpArgs false
open Go Go.RowKit
open Go.Proofs.YtlpcnaeknbmjdaaGreat.Sy (Let Blk)
abbrev fBin : FuncId := 165
abbrev fPlain : FuncId := 163
abbrev fCond : FuncId := 164
def binCd (op : Int) : Int := if binOp op = 0 then binCond op else 0
def binC (op : Int) : Sy.CallC := ⟨fBin, #[.int .i64 op], 6 ≤ op ∧ op ≤ 19, ⟨[], [], 0, []⟩, [Sy.plainO (.tuple #[.int .i64 (binOp op), .int .i64 (binCd op)])]⟩
def plC (op : Int) : Sy.CallC := ⟨fPlain, #[.int .i64 op], True, ⟨[], [], 0, []⟩, [Sy.plainO (.int .i64 (binOp op))]⟩
def cdC (op : Int) : Sy.CallC := ⟨fCond, #[.int .i64 op], True, ⟨[], [], 0, []⟩, [Sy.plainO (.int .i64 (binCond op))]⟩
def bin_o : Sy.O := (Sy.O.fork Sy.O.nil (Sy.O.fork Sy.O.nil (Sy.O.fork Sy.O.nil (Sy.O.fork Sy.O.nil (Sy.O.fork Sy.O.nil (Sy.O.fork Sy.O.nil (Sy.O.fork Sy.O.nil (Sy.O.fork Sy.O.nil (Sy.O.fork Sy.O.nil (Sy.O.fork Sy.O.nil (Sy.O.fork Sy.O.nil (Sy.O.fork Sy.O.nil (Sy.O.fork Sy.O.nil Sy.O.nil)))))))))))))
noncomputable def bin_R (op : Int) (ns : Nat → Sy.Let) : Sy.Res (Value × List Blk) :=
 Sy.Res.br (Ex.eqQ op (6 : Int)) (Sy.Res.leaf (Value.tuple (Array.mk [Value.int IntKind.i64 (9 : Int), Value.int IntKind.i64 (0 : Int)]), [])) (Sy.Res.br (Ex.eqQ op (7 : Int)) (Sy.Res.leaf (Value.tuple (Array.mk [Value.int IntKind.i64 (3 : Int), Value.int IntKind.i64 (0 : Int)]), [])) (Sy.Res.br (Ex.eqQ op (8 : Int)) (Sy.Res.leaf (Value.tuple (Array.mk [Value.int IntKind.i64 (4 : Int), Value.int IntKind.i64 (0 : Int)]), [])) (Sy.Res.br (Ex.eqQ op (9 : Int)) (Sy.Res.leaf (Value.tuple (Array.mk [Value.int IntKind.i64 (10 : Int), Value.int IntKind.i64 (0 : Int)]), [])) (Sy.Res.br (Ex.eqQ op (10 : Int)) (Sy.Res.leaf (Value.tuple (Array.mk [Value.int IntKind.i64 (11 : Int), Value.int IntKind.i64 (0 : Int)]), [])) (Sy.Res.br (Ex.eqQ op (11 : Int)) (Sy.Res.leaf (Value.tuple (Array.mk [Value.int IntKind.i64 (5 : Int), Value.int IntKind.i64 (0 : Int)]), [])) (Sy.Res.br (Ex.eqQ op (12 : Int)) (Sy.Res.leaf (Value.tuple (Array.mk [Value.int IntKind.i64 (7 : Int), Value.int IntKind.i64 (0 : Int)]), [])) (Sy.Res.br (Ex.eqQ op (13 : Int)) (Sy.Res.leaf (Value.tuple (Array.mk [Value.int IntKind.i64 (6 : Int), Value.int IntKind.i64 (0 : Int)]), [])) (Sy.Res.br (Ex.eqQ op (14 : Int)) (Sy.Res.leaf (Value.tuple (Array.mk [Value.int IntKind.i64 (0 : Int), Value.int IntKind.i64 (0 : Int)]), [])) (Sy.Res.br (Ex.eqQ op (15 : Int)) (Sy.Res.leaf (Value.tuple (Array.mk [Value.int IntKind.i64 (0 : Int), Value.int IntKind.i64 (1 : Int)]), [])) (Sy.Res.br (Ex.eqQ op (16 : Int)) (Sy.Res.leaf (Value.tuple
 (Array.mk [Value.int IntKind.i64 (0 : Int), Value.int IntKind.i64 (3 : Int)]), [])) (Sy.Res.br (Ex.eqQ op (17 : Int)) (Sy.Res.leaf (Value.tuple (Array.mk [Value.int IntKind.i64 (0 : Int), Value.int IntKind.i64 (9 : Int)]), [])) (Sy.Res.br (Ex.eqQ op (18 : Int)) (Sy.Res.leaf (Value.tuple (Array.mk [Value.int IntKind.i64 (0 : Int), Value.int IntKind.i64 (8 : Int)]), [])) (Sy.Res.leaf (Value.tuple (Array.mk [Value.int IntKind.i64 (0 : Int), Value.int IntKind.i64 (2 : Int)]), []))))))))))))))
theorem bin_run (op : Int) : Sy.Ran (Sy.inT Tryz.prog Sy.S0 60 fBin (binC op).args [] Sy.noB) bin_o (bin_R op) := ⟨fun ns => by kernel_rfl, fun ns => by kernel_rfl⟩
def pl_o : Sy.O := (Sy.O.fork Sy.O.nil (Sy.O.fork Sy.O.nil (Sy.O.fork Sy.O.nil (Sy.O.fork Sy.O.nil (Sy.O.fork Sy.O.nil (Sy.O.fork Sy.O.nil (Sy.O.fork Sy.O.nil (Sy.O.fork Sy.O.nil Sy.O.nil))))))))
noncomputable def pl_R (op : Int) (ns : Nat → Sy.Let) : Sy.Res (Value × List Blk) :=
 Sy.Res.br (Ex.eqQ op (6 : Int)) (Sy.Res.leaf (Value.int IntKind.i64 (9 : Int), [])) (Sy.Res.br (Ex.eqQ op (7 : Int)) (Sy.Res.leaf (Value.int IntKind.i64 (3 : Int), [])) (Sy.Res.br (Ex.eqQ op (8 : Int)) (Sy.Res.leaf (Value.int IntKind.i64 (4 : Int), [])) (Sy.Res.br (Ex.eqQ op (9 : Int)) (Sy.Res.leaf (Value.int IntKind.i64 (10 : Int), [])) (Sy.Res.br (Ex.eqQ op (10 : Int)) (Sy.Res.leaf (Value.int IntKind.i64 (11 : Int), [])) (Sy.Res.br (Ex.eqQ op (11 : Int)) (Sy.Res.leaf (Value.int IntKind.i64 (5 : Int), [])) (Sy.Res.br (Ex.eqQ op (12 : Int)) (Sy.Res.leaf (Value.int IntKind.i64 (7 : Int), [])) (Sy.Res.br (Ex.eqQ op (13 : Int)) (Sy.Res.leaf (Value.int IntKind.i64 (6 : Int), [])) (Sy.Res.leaf (Value.int IntKind.i64 (0 : Int), [])))))))))
theorem pl_run (op : Int) : Sy.Ran (Sy.inT Tryz.prog Sy.S0 60 fPlain (plC op).args [] Sy.noB) pl_o (pl_R op) := ⟨fun ns => by kernel_rfl, fun ns => by kernel_rfl⟩
def cd_o : Sy.O := (Sy.O.fork Sy.O.nil (Sy.O.fork Sy.O.nil (Sy.O.fork Sy.O.nil (Sy.O.fork Sy.O.nil (Sy.O.fork Sy.O.nil Sy.O.nil)))))
noncomputable def cd_R (op : Int) (ns : Nat → Sy.Let) : Sy.Res (Value × List Blk) :=
 Sy.Res.br (Ex.eqQ op (14 : Int)) (Sy.Res.leaf (Value.int IntKind.i64 (0 : Int), [])) (Sy.Res.br (Ex.eqQ op (15 : Int)) (Sy.Res.leaf (Value.int IntKind.i64 (1 : Int), [])) (Sy.Res.br (Ex.eqQ op (16 : Int)) (Sy.Res.leaf (Value.int IntKind.i64 (3 : Int), [])) (Sy.Res.br (Ex.eqQ op (17 : Int)) (Sy.Res.leaf (Value.int IntKind.i64 (9 : Int), [])) (Sy.Res.br (Ex.eqQ op (18 : Int)) (Sy.Res.leaf (Value.int IntKind.i64 (8 : Int), [])) (Sy.Res.leaf (Value.int IntKind.i64 (2 : Int), []))))))
theorem cd_run (op : Int) : Sy.Ran (Sy.inT Tryz.prog Sy.S0 60 fCond (cdC op).args [] Sy.noB) cd_o (cd_R op) := ⟨fun ns => by kernel_rfl, fun ns => by kernel_rfl⟩
theorem binC_met (op : Int) : Sy.Meets Tryz.prog (binC op) := by
  refine Sy.meets_of Sy.S0_holds mixed (bin_run op) fun hok ns => ?_
  obtain ⟨h0, h1⟩ : 6 ≤ op ∧ op ≤ 19 := hok
  simp only [bin_R, Sy.Res.holds, Int.ofNat_eq_natCast, Sy.b_and, Sy.b_or, Sy.b_not, Sy.b_f, Sy.b_and', Sy.b_or', Sy.q_lt, Sy.q_le, Sy.q_eq, Sy.b_tt, Sy.b_ft, not_true_eq_false, not_false_eq_true]
  repeat' refine And.intro (fun h => ?_) (fun h => ?_)
  all_goals first
    | (subst h; exact Sy.plainO_leaf (List.mem_singleton_self _) rfl rfl)
    | (obtain rfl : op = 19 := by omega
       exact Sy.plainO_leaf (List.mem_singleton_self _) rfl rfl)
theorem plC_met (op : Int) : Sy.Meets Tryz.prog (plC op) := by
  refine Sy.meets_of Sy.S0_holds mixed (pl_run op) fun hok ns => ?_
  simp only [pl_R, Sy.Res.holds, Int.ofNat_eq_natCast, Sy.b_and, Sy.b_or, Sy.b_not, Sy.b_f, Sy.b_and', Sy.b_or', Sy.q_lt, Sy.q_le, Sy.q_eq, Sy.b_tt, Sy.b_ft, not_true_eq_false, not_false_eq_true]
  repeat' refine And.intro (fun h => ?_) (fun h => ?_)
  all_goals first
    | (subst h; exact Sy.plainO_leaf (List.mem_singleton_self _) rfl rfl)
    | exact Sy.plainO_leaf (List.mem_singleton_self _) rfl (by show _ = Value.int .i64 (binOp op); unfold binOp; simp only [*, if_false])
theorem cdC_met (op : Int) : Sy.Meets Tryz.prog (cdC op) := by
  refine Sy.meets_of Sy.S0_holds mixed (cd_run op) fun hok ns => ?_
  simp only [cd_R, Sy.Res.holds, Int.ofNat_eq_natCast, Sy.b_and, Sy.b_or, Sy.b_not, Sy.b_f, Sy.b_and', Sy.b_or', Sy.q_lt, Sy.q_le, Sy.q_eq, Sy.b_tt, Sy.b_ft, not_true_eq_false, not_false_eq_true]
  repeat' refine And.intro (fun h => ?_) (fun h => ?_)
  all_goals first
    | (subst h; exact Sy.plainO_leaf (List.mem_singleton_self _) rfl rfl)
    | exact Sy.plainO_leaf (List.mem_singleton_self _) rfl (by show _ = Value.int .i64 (binCond op); unfold binCond; simp only [*, if_false])
end Go.Proofs.YtlpcnaeknbmjdaaGreat.Lw

namespace Go.Proofs.YtlpcnaeknbmjdaaGreat.Lw
set_option linter.unusedVariables false
set_option linter.unusedSimpArgs false
open Go Go.RowKit
open Go.Proofs.YtlpcnaeknbmjdaaGreat.Sy (Let Blk)
theorem max_q (x y : Nat) (h : y < 9223372036854775807) : (bif Ex.ltQ (x : Int) (Ex.wrapQ .i64 (Ex.addQ (y : Int) 1)) then Ex.wrapQ .i64 (Ex.addQ (y : Int) 1) else (x : Int)) = ((max x (y + 1) : Nat) : Int) := by
  rw [Sy.inc_q y h, Ex.ltQ_eq]
  by_cases hlt : (x : Int) < ((y + 1 : Nat) : Int)
  · rw [decide_eq_true hlt]; simp only [cond_true]; omega
  · rw [decide_eq_false hlt]; simp only [cond_false]; omega
abbrev fNeeds : FuncId := 160
def needsC (g o c : Nat) (l : List Nd) (loc : Int) (i0 : Nat) (i : Int) : Sy.CallC :=
  ⟨fNeeds, #[.slice (some ⟨g, o, none⟩) l.length c, .int .i64 i], isExpr loc l ∧ 0 ≤ i ∧ i < l.length ∧ i < i0, ⟨[(g, .seg o (ndCells l))], [], 0, []⟩, [Sy.plainO (.int .i64 ((tr l i.toNat).needs : Int))]⟩
noncomputable def ctxNd (g o c : Nat) (l : List Nd) (loc : Int) (i0 : Nat) : Sy.Ctx := Sy.mkS [(fNeeds, fun a _ => needsC g o c l loc i0 (Sy.argI a 1))] [] []
def nd_o : Sy.O := (Sy.O.steps [0, 1, 0, 0, 1, 1, 1, 1, 1, 1, 0, 0, 0, 0, 0, 0] (Sy.O.fork Sy.O.nil (Sy.O.steps [0, 0, 0] (Sy.O.fork (Sy.O.steps [0, 0, 0, 0, 1, 0, 0, 0, 0] Sy.O.nil) (Sy.O.steps [1, 0, 0, 0, 1, 2, 0, 0, 0, 4, 5, 6, 0, 0, 0, 13, 0, 1, 0, 0, 0, 0, 1, 0, 1, 13, 0, 0, 0, 0, 0, 0, 1, 0, 1, 8, 9, 10] Sy.O.nil)))))
noncomputable def nd_R (g : Nat) (o : Nat) (c : Nat) (l : List Nd) (loc : Int) (i : Int) (i0 : Nat) (ns : Nat → Sy.Let) : Sy.Res (Value × List Blk) :=
 let z0 := (Sy.Cont.seg o (ndCells l))
 let z1 := (o + Int.toNat i * (4 : Nat))
 let z2 := (Let.i (ns 0))
 let z3 := (o + Int.toNat i * (4 : Nat) + (1 : Nat))
 let z4 := (o + Int.toNat i * (4 : Nat) + (1 : Nat) + (1 : Nat))
 let z5 := (o + Int.toNat i * (4 : Nat) + (1 : Nat) + (1 : Nat) + (1 : Nat))
 let z6 := (isExpr loc l ∧ (0 : Int) ≤ Let.i (ns 2) ∧ Let.i (ns 2) < (↑(List.length l) : Int) ∧ Let.i (ns 2) < (↑i0 : Int))
 let z7 := (Ex.addQ (↑(E.needs (tr l (Int.toNat (Let.i (ns 3))))) : Int) (1 : Int))
 Sy.Res.need ((0 : Int) ≤ i ∧ i < (↑(List.length l) : Int)) (Sy.Res.need (∃ (i_1 : Int), Sy.Cont.at z0 z1 = some (Value.int IntKind.i64 i_1)) (Sy.Res.hyp (Sy.Cont.at z0 z1 = some (Value.int IntKind.i64 z2)) (Sy.Res.need (∃ (i_1 : Int), Sy.Cont.at z0 z3 = some (Value.int IntKind.u64 i_1)) (Sy.Res.hyp (Sy.Cont.at z0 z3 = some (Value.int IntKind.u64 (Let.i (ns 1)))) (Sy.Res.need (∃ (i_1 : Int), Sy.Cont.at z0 z4 = some (Value.int IntKind.i64 i_1)) (Sy.Res.hyp (Sy.Cont.at z0 z4 = some (Value.int IntKind.i64 (Let.i (ns 2)))) (Sy.Res.need (∃ (i_1 : Int), Sy.Cont.at z0 z5 = some (Value.int IntKind.i64 i_1)) (Sy.Res.hyp (Sy.Cont.at z0 z5 = some (Value.int IntKind.i64 (Let.i (ns 3)))) (Sy.Res.br (Ex.leQ z2 (2 : Int)) (Sy.Res.leaf (Value.int IntKind.i64 (1 : Int), [])) (Sy.Res.br (Ex.leQ z2 (5 : Int)) (Sy.Res.need z6 (Sy.Res.hyp True (Sy.Res.leaf (Value.int IntKind.i64 (↑(E.needs (tr l (Int.toNat (Let.i (ns 2))))) : Int), [])))) (Sy.Res.need z6 (Sy.Res.hyp True (Sy.Res.need (isExpr loc l ∧ (0 : Int) ≤ Let.i (ns 3) ∧ Let.i (ns 3) < (↑(List.length l) : Int) ∧ Let.i (ns 3) < (↑i0 : Int)) (Sy.Res.hyp True (Sy.Res.leaf (Value.int IntKind.i64 (bif Ex.ltQ (↑(E.needs (tr l (Int.toNat (Let.i (ns 2))))) : Int) (Ex.wrapQ IntKind.i64 z7) then Ex.wrapQ IntKind.i64 z7 else (↑(E.needs (tr l (Int.toNat (Let.i (ns 2))))) : Int)), []))))))))))))))))
theorem nd_run (g o c : Nat) (l : List Nd) (loc i : Int) (i0 : Nat) : Sy.Ran (Sy.inT Tryz.prog (ctxNd g o c l loc i0) 60 fNeeds (needsC g o c l loc i0 i).args (Sy.blks (needsC g o c l loc i0 i).mem) Sy.noB) nd_o (nd_R g o c l loc i i0) := ⟨fun ns => by kernel_rfl, fun ns => by kernel_rfl⟩
theorem nd_atI {l : List Nd} {i : Int} {x : Nd} (h : l[i.toNat]? = some x) (o : Nat) :
    (Sy.Cont.seg o (ndCells l)).at (o + Int.toNat i * 4) = some (.int .i64 x.op) ∧ (Sy.Cont.seg o (ndCells l)).at (o + Int.toNat i * 4 + 1) = some (.int .u64 x.val) ∧
    (Sy.Cont.seg o (ndCells l)).at (o + Int.toNat i * 4 + 1 + 1) = some (.int .i64 x.a) ∧ (Sy.Cont.seg o (ndCells l)).at (o + Int.toNat i * 4 + 1 + 1 + 1) = some (.int .i64 x.b) := by
  have := nd_at h o
  simpa only [Int.toNat_natCast] using this
theorem needsC_step (g o c : Nat) (l : List Nd) (loc : Int) (i0 : Nat) (ih : ∀ i, Sy.Meets Tryz.prog (needsC g o c l loc i0 i)) (i : Int) : Sy.Meets Tryz.prog (needsC g o c l loc (i0 + 1) i) := by
  have HS : (ctxNd g o c l loc i0).holds Tryz.prog := Sy.mkS_holds (fun p hp a L => by
    rcases List.mem_singleton.1 hp with rfl
    exact ih _) (fun _ h => (by cases h)) (fun _ h => (by cases h))
  refine Sy.meets_of HS mixed (nd_run g o c l loc i i0) fun hok ns => ?_
  obtain ⟨hE, h0, h1, h2⟩ : isExpr loc l ∧ 0 ≤ i ∧ i < l.length ∧ i < ((i0 + 1 : Nat) : Int) := hok
  have hok := hE.1
  simp only [nd_R, Sy.Res.holds, Int.ofNat_eq_natCast, Sy.b_and, Sy.b_or, Sy.b_not, Sy.b_f, Sy.b_and', Sy.b_or', Sy.q_lt, Sy.q_le, Sy.q_eq, Sy.b_tt, Sy.b_ft, not_true_eq_false, not_false_eq_true]
  have hlt : i.toNat < l.length := by omega
  have ea : l[i.toNat]? = some l[i.toNat] := List.getElem?_eq_getElem hlt
  obtain ⟨a0, a1, a2, a3⟩ := nd_atI ea o
  simp only [a0, a1, a2, a3, some_int, some_bool, exists_eq', true_and]
  generalize l[i.toNat] = x at *
  refine ⟨⟨h0, h1⟩, fun e0 e1 e2 e3 => ?_⟩
  simp only [← e0, ← e2, ← e3]
  have hx := hok _ x ea
  refine ⟨fun c2 => ?_, fun c2 => ⟨fun c5 => ⟨⟨hE, ?_⟩, fun _ => ?_⟩, fun c5 => ?_⟩⟩
  · refine Sy.plainO_leaf (List.mem_singleton_self _) rfl ?_
    by_cases h : x.op ≤ 1
    · rw [tr_num ea h]; rfl
    · rw [tr_loc ea (by omega)]; rfl
  · have := ok_a hx (by omega)
    omega
  · have := ok_a hx (by omega)
    refine Sy.plainO_leaf (List.mem_singleton_self _) rfl ?_
    rw [tr_un ea (by omega) (by omega) (by omega)]; rfl
  · have ha := ok_a hx (by omega)
    have hb := ok_b hx (by omega)
    refine ⟨⟨hE, by omega⟩, fun _ => ⟨⟨hE, by omega⟩, fun _ => Sy.plainO_leaf (List.mem_singleton_self _) rfl ?_⟩⟩
    have hs := tr_small hE (i := x.b.toNat) (by omega)
    have hn := (tr l x.b.toNat).needs_le
    have hl := hE.2.2.1
    rw [max_q _ _ (by omega), tr_bin ea (by omega) (by omega) (by omega)]; rfl
theorem needsC_met (g o c : Nat) (l : List Nd) (loc : Int) : ∀ (i0 : Nat) (i : Int), Sy.Meets Tryz.prog (needsC g o c l loc i0 i)
  | 0, i => fun hok => absurd hok.2.2.2 (by have := hok.2.1; omega)
  | i0 + 1, i => needsC_step g o c l loc i0 (fun j => needsC_met g o c l loc i0 j) i
end Go.Proofs.YtlpcnaeknbmjdaaGreat.Lw

namespace Go.Proofs.YtlpcnaeknbmjdaaGreat.Lw
set_option linter.unusedVariables false
set_option linter.unusedSimpArgs false
open Go Go.RowKit
open Go.Proofs.YtlpcnaeknbmjdaaGreat.Sy (Let Blk)
abbrev fExpr : FuncId := 157
def goodN (l : List Nd) : Prop := ∀ n ∈ l, goodU n.val
noncomputable def exprC (g o c : Nat) (l : List Nd) (i0 : Nat) (i k : Int) : Sy.CallC :=
  ⟨fExpr, #[.slice (some ⟨g, o, none⟩) l.length c, .int .i64 i, .int .i64 k], (isExpr 24 l ∧ goodN l) ∧ 0 ≤ i ∧ i < l.length ∧ i < i0 ∧ 0 ≤ k ∧ k + (tr l i.toNat).needs ≤ 5,
   ⟨[(g, .seg o (ndCells l))], [], 2, []⟩, [Sy.rowO tI 6 (lay (tr l i.toNat) (24 + k)).length (insCells (lay (tr l i.toNat) (24 + k))) id]⟩
noncomputable def ctxX (g o c : Nat) (l : List Nd) (i0 : Nat) : Sy.Ctx := Sy.mkS [(fExpr, fun a _ => exprC g o c l i0 (Sy.argI a 1) (Sy.argI a 2)), (159, fun a _ => numC (Sy.argI a 0) (Sy.argI a 1)), (fBin, fun a _ => binC (Sy.argI a 0))] [] []
def ex_o : Sy.O := (Sy.O.steps [0, 1, 0, 0, 1, 1, 1, 1, 1, 1, 0, 0, 0, 0, 0, 0] (Sy.O.fork (Sy.O.steps [0, 0, 0, 0, 0, 0, 0] Sy.O.nil) (Sy.O.fork (Sy.O.steps [0, 0, 0] Sy.O.nil) (Sy.O.fork (Sy.O.steps [0, 0, 0, 0, 1, 0, 0, 0, 0, 0, 0, 0, 0, 0, 0, 0, 0, 2, 1, 1, 1, 1, 2, 0, 0, 0, 0, 0, 0, 0, 0, 2, 0, 0, 3, 0, 0, 0, 1, 1, 3, 0, 0, 0, 0, 0, 0, 0] Sy.O.nil) (Sy.O.fork (Sy.O.steps [0, 0, 0, 0, 1, 0, 0, 0, 0, 0, 0, 0, 0, 0, 0, 0, 0, 2, 1, 1, 1, 1, 2, 0, 0, 0, 0, 0, 0, 0, 0, 2, 0, 0, 3, 0, 0, 0, 1, 1, 3, 0, 0, 0, 0, 0, 0, 0] Sy.O.nil) (Sy.O.fork (Sy.O.steps [0, 0, 0, 0, 1, 0, 0, 0, 0, 0, 0, 0, 0, 0, 0, 0, 0, 3, 1, 1, 1, 1, 3, 0, 0, 0, 0, 0, 0, 0, 0, 2, 0, 0, 4, 0, 0, 0, 1, 1, 4, 0, 0, 0, 0, 0, 0, 0, 0, 0, 0, 3, 0, 0, 4, 0, 0, 0, 1, 1] (Sy.O.steps [4, 0, 0, 0, 0, 0, 0, 0] Sy.O.nil)) (Sy.O.steps [1, 0, 0, 0, 1, 2, 0, 0, 0, 3, 5, 6, 7, 0, 0, 0, 8, 9, 16, 0, 1, 0, 0, 0, 0, 1, 0, 2, 16, 0, 1, 0, 0, 0, 0, 1, 0, 3, 16, 1, 0, 4, 16, 0, 0, 0, 0, 0, 0, 0, 0, 3, 1, 1, 1, 1, 3, 0, 0, 0] (Sy.O.steps [0, 0, 0, 0, 0, 2, 0, 0, 3, 1, 0, 1, 1, 1, 3, 0, 0, 0, 0, 0, 0, 0, 1, 0, 5, 13, 0, 5, 0, 0, 0, 0, 0] (Sy.O.fork (Sy.O.steps [0, 0, 0, 0, 0, 0, 0, 0, 3, 1, 1, 1, 1, 3, 0, 0, 0, 0, 0, 0, 0, 0, 2, 0, 0, 4, 0, 0, 0, 1, 1, 4, 0, 0, 0, 0, 0, 0, 0, 0, 0, 0, 3, 0, 0, 4, 0, 0, 0, 1, 1, 4, 0, 0, 0, 0, 0, 0, 0] Sy.O.nil) (Sy.O.steps [0, 0, 0, 0, 0, 0, 0, 0, 2, 1, 1, 1, 1, 2, 0, 0, 0, 0, 0, 0, 0, 0, 2, 0, 0, 3, 0, 0, 0, 1, 1, 3, 0, 0, 0, 0, 0, 0, 0] Sy.O.nil))))))))))
noncomputable def ex_R (g : Nat) (o : Nat) (c : Nat) (l : List Nd) (i : Int) (k : Int) (i0 : Nat) (ns : Nat → Sy.Let) : Sy.Res (Value × List Blk) :=
 let z0 := (Sy.Cont.seg o (ndCells l))
 let z1 := (o + Int.toNat i * (4 : Nat))
 let z2 := (Let.i (ns 0))
 let z3 := (o + Int.toNat i * (4 : Nat) + (1 : Nat))
 let z4 := (Let.i (ns 1))
 let z5 := (o + Int.toNat i * (4 : Nat) + (1 : Nat) + (1 : Nat))
 let z6 := (o + Int.toNat i * (4 : Nat) + (1 : Nat) + (1 : Nat) + (1 : Nat))
 let z7 := (Ex.wrapQ IntKind.i64 (Ex.addQ (24 : Int) k))
 let z8 := (List.length (numL z7 z4))
 let z9 := (Let.n (ns 6))
 let z10 := (Let.n (ns 5))
 let z11 := (some (Addr.mk z10 (0 : Nat) none))
 let z12 := (isExpr (24 : Int) l ∧ goodN l)
 let z13 := (tr l (Int.toNat (Let.i (ns 2))))
 let z14 := (z12 ∧ (0 : Int) ≤ Let.i (ns 2) ∧ Let.i (ns 2) < (↑(List.length l) : Int) ∧ Let.i (ns 2) < (↑i0 : Int) ∧ (0 : Int) ≤ k ∧ k + (↑(E.needs z13) : Int) ≤ (5 : Int))
 let z15 := (lay z13 ((24 : Int) + k))
 let z16 := (Nat.le (List.length z15) z9)
 let z17 := ((1 : Nat) ≤ List.length z15)
 let z18 := ((0 : Nat) + List.length z15 ≤ (9223372036854775807 : Nat))
 let z19 := ((0 : Nat) + List.length z15)
 let z20 := (z19 * (48 : Nat) ≤ (140737488355328 : Nat))
 let z21 := (Nat.le z19 (Let.n (ns 10)))
 let z22 := ((0 : Nat) + List.length z15 + (1 : Nat) ≤ (9223372036854775807 : Nat))
 let z23 := ((0 : Nat) + List.length z15 + (1 : Nat))
 let z24 := (z23 * (48 : Nat) ≤ (140737488355328 : Nat))
 let z25 := (Let.n (ns 12))
 let z26 := (Let.n (ns 11))
 let z27 := (some (Addr.mk z26 (0 : Nat) none))
 let z28 := ([] ++ insCells z15)
 let z29 := [Value.int IntKind.i64 (4 : Int), Value.int IntKind.i64 z7, Value.int IntKind.i64 (31 : Int), Value.int IntKind.i64 z7, Value.int IntKind.i64 (0 : Int), Value.int IntKind.i64 (0 : Int)]
 let z30 := (Let.n (ns 7))
 let z31 := (Sy.Cont.row (49 : Nat) (6 : Nat) (List.length z15) z9 (insCells z15))
 let z32 := [Value.int IntKind.i64 (8 : Int), Value.int IntKind.i64 z7, Value.int IntKind.i64 (31 : Int), Value.int IntKind.i64 z7, Value.int IntKind.i64 (0 : Int), Value.int IntKind.i64 (0 : Int)]
 let z33 := (Let.n (ns 13))
 let z34 := ((0 : Nat) + List.length z15 + (1 : Nat) + (1 : Nat))
 let z35 := (Let.n (ns 15))
 let z36 := (Let.n (ns 14))
 let z37 := [Value.int IntKind.i64 (16 : Int), Value.int IntKind.i64 (0 : Int), Value.int IntKind.i64 z7, Value.int IntKind.i64 (31 : Int), Value.int IntKind.i64 (0 : Int), Value.int IntKind.i64 (0 : Int)]
 let z38 := [Value.int IntKind.i64 (17 : Int), Value.int IntKind.i64 z7, Value.int IntKind.i64 (0 : Int), Value.int IntKind.i64 (0 : Int), Value.int IntKind.i64 (0 : Int), Value.int IntKind.i64 (0 : Int)]
 let z39 := (Let.n (ns 8))
 let z40 := (Ex.addQ k (1 : Int))
 let z41 := (tr l (Int.toNat (Let.i (ns 3))))
 let z42 := ((24 : Int) + Ex.wrapQ IntKind.i64 z40)
 let z43 := (lay z41 z42)
 let z44 := (insCells z43)
 let z45 := ((0 : Nat) + List.length z15 + List.length z43)
 let z46 := (List.append z28 z44)
 let z47 := ((1 : Nat) ≤ (0 : Nat) + List.length z15 + List.length z43)
 let z48 := ((0 : Nat) + z45 ≤ (9223372036854775807 : Nat))
 let z49 := ((0 : Nat) + z45)
 let z50 := (z49 * (48 : Nat) ≤ (140737488355328 : Nat))
 let z51 := (Let.n (ns 18))
 let z52 := ((0 : Nat) + z45 + (1 : Nat) ≤ (9223372036854775807 : Nat))
 let z53 := ((0 : Nat) + z45 + (1 : Nat))
 let z54 := (z53 * (48 : Nat) ≤ (140737488355328 : Nat))
 let z55 := (lay (tr l (Int.toNat (Let.i (ns (2 : Nat))))) ((24 : Int) + k))
 let z56 := (lay (tr l (Int.toNat (Let.i (ns (3 : Nat))))) z42)
 let z57 := ((0 : Nat) + List.length z55 + List.length z56)
 let z58 := ((0 : Nat) + z57 + (1 : Nat) + (1 : Nat))
 let z59 := (Let.n (ns 22))
 let z60 := ([] ++ insCells z55)
 let z61 := (List.append z60 (insCells z56))
 let z62 := (Ex.wrapQ IntKind.i64 (Ex.addQ z7 (1 : Int)))
 let z63 := [Value.int IntKind.i64 (16 : Int), Value.int IntKind.i64 (0 : Int), Value.int IntKind.i64 z7, Value.int IntKind.i64 z62, Value.int IntKind.i64 (0 : Int), Value.int IntKind.i64 (0 : Int)]
 let z64 := [Value.int IntKind.i64 (17 : Int), Value.int IntKind.i64 z7, Value.int IntKind.i64 (0 : Int), Value.int IntKind.i64 (0 : Int), Value.int IntKind.i64 (0 : Int), Value.int IntKind.i64 (binCd (Let.i (ns (0 : Nat))))]
 let z65 := (Let.n (ns 19))
 let z66 := [Value.int IntKind.i64 (binOp z2), Value.int IntKind.i64 z7, Value.int IntKind.i64 z7, Value.int IntKind.i64 z62, Value.int IntKind.i64 (0 : Int), Value.int IntKind.i64 (0 : Int)]
 Sy.Res.need ((0 : Int) ≤ i ∧ i < (↑(List.length l) : Int)) (Sy.Res.need (∃ (i_1 : Int), Sy.Cont.at z0 z1 = some (Value.int IntKind.i64 i_1)) (Sy.Res.hyp (Sy.Cont.at z0 z1 = some (Value.int IntKind.i64 z2)) (Sy.Res.need (∃ (i_1 : Int), Sy.Cont.at z0 z3 = some (Value.int IntKind.u64 i_1)) (Sy.Res.hyp (Sy.Cont.at z0 z3 = some (Value.int IntKind.u64 z4)) (Sy.Res.need (∃ (i_1 : Int), Sy.Cont.at z0 z5 = some (Value.int IntKind.i64 i_1)) (Sy.Res.hyp (Sy.Cont.at z0 z5 = some (Value.int IntKind.i64 (Let.i (ns 2)))) (Sy.Res.need (∃ (i_1 : Int), Sy.Cont.at z0 z6 = some (Value.int IntKind.i64 i_1)) (Sy.Res.hyp (Sy.Cont.at z0 z6 = some (Value.int IntKind.i64 (Let.i (ns 3)))) (Sy.Res.br (Ex.eqQ z2 (1 : Int)) (Sy.Res.need ((0 : Int) ≤ Let.i (ns 1) ∧ Let.i (ns 1) < (18446744073709551616 : Int)) (Sy.Res.hyp (Nat.le z8 z9) (Sy.Res.leaf (Value.slice z11 z8 z9, [Blk.mk z10 (Sy.Cont.row (49 : Nat) (6 : Nat) z8 z9 (insCells (numL z7 z4))) true])))) (Sy.Res.br (Ex.eqQ z2 (2 : Int)) (Sy.Res.leaf (Value.slice z11 (1 : Nat) (1 : Nat), [Blk.mk z10 (Sy.Cont.obj (Obj.cells (Array.mk [Value.int IntKind.i64 (6 : Int), Value.int IntKind.i64 z7, Value.int IntKind.i64 (31 : Int), Value.int IntKind.i64 (Ex.wrapQ IntKind.i64 z4), Value.int IntKind.i64 (0 : Int), Value.int IntKind.i64 (0 : Int)]) (49 : Nat))) true])) (Sy.Res.br (Ex.eqQ z2 (3 : Int)) (Sy.Res.need z14 (Sy.Res.hyp z16 (Sy.Res.need ((0 : Nat) = (0 : Nat) ∧ List.length (insCells z15) = List.length z15 * (6 : Nat) ∧ ∀ (u : Value), u ∈ insCells z15 →
 Value.oneCell' u = true) (Sy.Res.need z17 (Sy.Res.need z18 (Sy.Res.need z20 (Sy.Res.hyp z21 (Sy.Res.need z22 (Sy.Res.need z24 (Sy.Res.hyp (Nat.le z23 z25) (Sy.Res.leaf (Value.slice z27 z23 z25, [Blk.mk z26 (Sy.Cont.row (49 : Nat) (6 : Nat) z23 z25 (List.append z28 z29)) true, Blk.mk z30 (Sy.Cont.obj (Obj.cells (Array.mk z29) (49 : Nat))) true, Blk.mk z10 z31 true])))))))))))) (Sy.Res.br (Ex.eqQ z2 (4 : Int)) (Sy.Res.need z14 (Sy.Res.hyp z16 (Sy.Res.need ((0 : Nat) = (0 : Nat) ∧ List.length (insCells z15) = List.length z15 * (6 : Nat) ∧ ∀ (u : Value), u ∈ insCells z15 → Value.oneCell' u = true) (Sy.Res.need z17 (Sy.Res.need z18 (Sy.Res.need z20 (Sy.Res.hyp z21 (Sy.Res.need z22 (Sy.Res.need z24 (Sy.Res.hyp (Nat.le z23 z25) (Sy.Res.leaf (Value.slice z27 z23 z25, [Blk.mk z26 (Sy.Cont.row (49 : Nat) (6 : Nat) z23 z25 (List.append z28 z32)) true, Blk.mk z30 (Sy.Cont.obj (Obj.cells (Array.mk z32) (49 : Nat))) true, Blk.mk z10 z31 true])))))))))))) (Sy.Res.br (Ex.eqQ z2 (5 : Int)) (Sy.Res.need z14 (Sy.Res.hyp z16 (Sy.Res.need ((0 : Nat) = (0 : Nat) ∧ List.length (insCells z15) = List.length z15 * (6 : Nat) ∧ ∀ (u : Value), u ∈ insCells z15 → Value.oneCell' u = true) (Sy.Res.need z17 (Sy.Res.need z18 (Sy.Res.need z20 (Sy.Res.hyp (Nat.le z19 z26) (Sy.Res.need z22 (Sy.Res.need z24 (Sy.Res.hyp (Nat.le z23 z33) (Sy.Res.need ((0 : Nat) + List.length z15 + (1 : Nat) + (1 : Nat) ≤ (9223372036854775807 : Nat)) (Sy.Res.need (z34 * (48 : Nat) ≤ (140737488355328 : Nat)) (Sy.Res.hyp (Nat.le z34
 z35) (Sy.Res.leaf (Value.slice (some (Addr.mk z36 (0 : Nat) none)) z34 z35, [Blk.mk z36 (Sy.Cont.row (49 : Nat) (6 : Nat) z34 z35 (List.append (List.append z28 z37) z38)) true, Blk.mk z39 (Sy.Cont.obj (Obj.cells (Array.mk z38) (49 : Nat))) true, Blk.mk z30 (Sy.Cont.obj (Obj.cells (Array.mk z37) (49 : Nat))) true, Blk.mk z10 z31 true]))))))))))))))) (Sy.Res.need z14 (Sy.Res.hyp z16 (Sy.Res.need (z12 ∧ (0 : Int) ≤ Let.i (ns 3) ∧ Let.i (ns 3) < (↑(List.length l) : Int) ∧ Let.i (ns 3) < (↑i0 : Int) ∧ (0 : Int) ≤ Ex.wrapQ IntKind.i64 z40 ∧ Ex.wrapQ IntKind.i64 z40 + (↑(E.needs z41) : Int) ≤ (5 : Int)) (Sy.Res.hyp (Nat.le (List.length z43) z39) (Sy.Res.need ((0 : Nat) = (0 : Nat) ∧ List.length (insCells z15) = List.length z15 * (6 : Nat) ∧ ∀ (u : Value), u ∈ insCells z15 → Value.oneCell' u = true) (Sy.Res.need z17 (Sy.Res.need z18 (Sy.Res.need z20 (Sy.Res.hyp (Nat.le z19 z26) (Sy.Res.need ((0 : Nat) = (0 : Nat) ∧ List.length z44 = List.length z43 * (6 : Nat) ∧ ∀ (u : Value), u ∈ insCells z43 → Value.oneCell' u = true) (Sy.Res.need ((1 : Nat) ≤ List.length z43) (Sy.Res.need ((0 : Nat) + List.length z15 + List.length z43 ≤ (9223372036854775807 : Nat)) (Sy.Res.need (z45 * (48 : Nat) ≤ (140737488355328 : Nat)) (Sy.Res.hyp (Nat.le z45 z33) (Sy.Res.need ((6 : Int) ≤ Let.i (ns 0) ∧ Let.i (ns 0) ≤ (19 : Int)) (Sy.Res.hyp True (Sy.Res.br (Ex.eqQ (binOp z2) (0 : Int)) (Sy.Res.need ((0 : Nat) = (0 : Nat) ∧ List.length z46 = z45 * (6 : Nat) ∧ ∀ (u : Value), u ∈ List.append z28 z44 →
 Value.oneCell' u = true) (Sy.Res.need z47 (Sy.Res.need z48 (Sy.Res.need z50 (Sy.Res.hyp (Nat.le z49 z51) (Sy.Res.need z52 (Sy.Res.need z54 (Sy.Res.hyp (Nat.le z53 (Let.n (ns 20))) (Sy.Res.need ((0 : Nat) + z45 + (1 : Nat) + (1 : Nat) ≤ (9223372036854775807 : Nat)) (Sy.Res.need (z58 * (48 : Nat) ≤ (140737488355328 : Nat)) (Sy.Res.hyp (Nat.le z58 z59) (Sy.Res.leaf (Value.slice (some (Addr.mk (Let.n (ns 21)) (0 : Nat) none)) z58 z59, [Blk.mk (Let.n (ns 21)) (Sy.Cont.row (49 : Nat) (6 : Nat) z58 z59 (List.append (List.append z61 z63) z64)) true, Blk.mk z35 (Sy.Cont.obj (Obj.cells (Array.mk z64) (49 : Nat))) true, Blk.mk z36 (Sy.Cont.obj (Obj.cells (Array.mk z63) (49 : Nat))) true, Blk.mk z25 (Sy.Cont.row (49 : Nat) (6 : Nat) z57 z33 z61) true, Blk.mk z30 (Sy.Cont.row (49 : Nat) (6 : Nat) (List.length z56) z39 (insCells z56)) true, Blk.mk z10 (Sy.Cont.row (49 : Nat) (6 : Nat) (List.length z55) z9 (insCells z55)) true]))))))))))))) (Sy.Res.need ((0 : Nat) = (0 : Nat) ∧ List.length z46 = z45 * (6 : Nat) ∧ ∀ (u : Value), u ∈ List.append z28 z44 → Value.oneCell' u = true) (Sy.Res.need z47 (Sy.Res.need z48 (Sy.Res.need z50 (Sy.Res.hyp (Nat.le z49 (Let.n (ns 17))) (Sy.Res.need z52 (Sy.Res.need z54 (Sy.Res.hyp (Nat.le z53 z65) (Sy.Res.leaf (Value.slice (some (Addr.mk z51 (0 : Nat) none)) z53 z65, [Blk.mk z51 (Sy.Cont.row (49 : Nat) (6 : Nat) ((0 : Nat) + z57 + (1 : Nat)) z65 (List.append (List.append z60 z44) z66)) true, Blk.mk z36 (Sy.Cont.obj (Obj.cells (Array.mk z66) (49 : Nat))) true,
 Blk.mk z25 (Sy.Cont.row (49 : Nat) (6 : Nat) z45 z33 z46) true, Blk.mk z30 (Sy.Cont.row (49 : Nat) (6 : Nat) (List.length z43) z39 z44) true, Blk.mk z10 z31 true]))))))))))))))))))))))))))))))))))))))))
theorem ex_run (g o c : Nat) (l : List Nd) (i k : Int) (i0 : Nat) : Sy.Ran (Sy.inT Tryz.prog (ctxX g o c l i0) 60 fExpr (exprC g o c l i0 i k).args (Sy.blks (exprC g o c l i0 i k).mem) (Sy.rowT tI)) ex_o (ex_R g o c l i k i0) := ⟨fun ns => by kernel_rfl, fun ns => by kernel_rfl⟩
theorem ctxX_holds (g o c : Nat) (l : List Nd) (i0 : Nat) (ih : ∀ i k, Sy.Meets Tryz.prog (exprC g o c l i0 i k)) : (ctxX g o c l i0).holds Tryz.prog := Sy.mkS_holds (fun p hp a L => by
  rcases List.mem_cons.1 hp with rfl | hp
  · exact ih _ _
  rcases List.mem_cons.1 hp with rfl | hp
  · exact numC_met _ _
  rcases List.mem_singleton.1 hp with rfl
  exact binC_met _) (fun _ h => (by cases h)) (fun _ h => (by cases h))
theorem insC_len (l : List I) : (insCells l).length = l.length * 6 := by
  induction l with
  | nil => rfl
  | cons x l ih => unfold insCells at *; rw [List.flatMap_cons, List.length_append, ih, List.length_cons]; show 6 + _ = _; omega
theorem insC_app (a b : List I) : insCells (a ++ b) = insCells a ++ insCells b := by simp [insCells]
theorem insC_one (l : List I) : ∀ u ∈ insCells l, u.oneCell' = true := by
  intro u hu
  unfold insCells at hu
  obtain ⟨x, -, hx⟩ := List.mem_flatMap.1 hu
  simp only [I.cells, List.mem_cons, List.not_mem_nil, or_false] at hx
  rcases hx with rfl | rfl | rfl | rfl | rfl | rfl <;> rfl
theorem insC_len2 (a b : List I) : (insCells a ++ insCells b).length = (a.length + b.length) * 6 := by rw [← insC_app, insC_len, List.length_append]
theorem insC_one2 (a b : List I) : ∀ u ∈ insCells a ++ insCells b, u.oneCell' = true := by rw [← insC_app]; exact insC_one _
theorem add_small {a b : Int} (h0 : 0 ≤ a + b) (h1 : a + b < 1000000) : Ex.wrapQ .i64 (Ex.addQ a b) = a + b := by
  rw [Ex.wrapQ_eq, Ex.addQ_eq]
  simp [IntKind.wrap, IntKind.signed, IntKind.bits]
  omega
theorem wrap_small {a : Int} (h0 : 0 ≤ a) (h1 : a < 1000000) : Ex.wrapQ .i64 a = a := by
  rw [Ex.wrapQ_eq]
  simp [IntKind.wrap, IntKind.signed, IntKind.bits]
  omega
theorem lay_fits {l : List Nd} (h : isExpr 24 l) {i : Nat} (hi : i < l.length) (t : Int) : 0 < (lay (tr l i) t).length ∧ (lay (tr l i) t).length ≤ 262144 := by
  have h1 := lay_le (tr l i) t
  have h2 := tr_small h hi
  have h3 := h.2.2.1
  exact ⟨lay_pos _ _, by omega⟩
theorem exprC_step (g o c : Nat) (l : List Nd) (i0 : Nat) (ih : ∀ i k, Sy.Meets Tryz.prog (exprC g o c l i0 i k)) (i k : Int) : Sy.Meets Tryz.prog (exprC g o c l (i0 + 1) i k) := by
  refine Sy.meets_of (ctxX_holds g o c l i0 ih) mixed (ex_run g o c l i k i0) fun hok ns => ?_
  obtain ⟨⟨hE, hG⟩, h0, h1, h2, h3, h4⟩ : (isExpr 24 l ∧ goodN l) ∧ 0 ≤ i ∧ i < l.length ∧ i < ((i0 + 1 : Nat) : Int) ∧ 0 ≤ k ∧ k + (tr l i.toNat).needs ≤ 5 := hok
  have hok := hE.1
  simp only [ex_R, Sy.Res.holds, Int.ofNat_eq_natCast, Sy.b_and, Sy.b_or, Sy.b_not, Sy.b_f, Sy.b_and', Sy.b_or', Sy.q_lt, Sy.q_le, Sy.q_eq, Sy.b_tt, Sy.b_ft, not_true_eq_false, not_false_eq_true]
  have hlt : i.toNat < l.length := by omega
  have ea : l[i.toNat]? = some l[i.toNat] := List.getElem?_eq_getElem hlt
  obtain ⟨a0, a1, a2, a3⟩ := nd_atI ea o
  simp only [a0, a1, a2, a3, some_int, some_bool, exists_eq', true_and]
  have hxv : goodU l[i.toNat].val := hG _ (List.getElem_mem hlt)
  generalize l[i.toNat] = x at *
  refine ⟨⟨h0, h1⟩, fun e0 e1 e2 e3 => ?_⟩
  have hnp := (tr l i.toNat).needs_pos
  have w24 : Ex.wrapQ .i64 (Ex.addQ 24 k) = 24 + k := add_small (by omega) (by omega)
  have w25 : Ex.wrapQ .i64 (Ex.addQ (24 + k) 1) = 24 + k + 1 := add_small (by omega) (by omega)
  have wk : Ex.wrapQ .i64 (Ex.addQ k 1) = k + 1 := add_small (by omega) (by omega)
  have w26 : 24 + (k + 1) = 24 + k + 1 := by omega
  simp only [← e0, ← e1, ← e2, ← e3, w24, w25, wk, w26, List.nil_append]
  have hx := hok _ x ea
  have un : 3 ≤ x.op → x.op ≤ 5 → 0 ≤ x.a ∧ x.a < i ∧ tr l i.toNat = .un x.op (tr l x.a.toNat) := fun u1 u2 => by
    have ha := ok_a hx u1
    exact ⟨ha.1, by omega, tr_un ea u1 u2 (by omega)⟩
  refine ⟨fun c1 => ⟨hxv, fun hc => Sy.rowO_leaf' (List.mem_singleton_self _) rfl 0 rfl rfl ?_ ?_ hc⟩, fun c1 => ⟨fun c2 => Sy.rowO_leaf (List.mem_singleton_self _) rfl 0 ?_ rfl ⟨rfl, rfl, ?_⟩ (by rw [tr_loc ea c2]; exact Nat.le_refl _),
    fun c2 => ⟨fun c3 => ?_, fun c3 => ⟨fun c4 => ?_, fun c4 => ⟨fun c5 => ?_, fun c5 => ?_⟩⟩⟩⟩⟩
  · rw [tr_num ea (by omega)]; rfl
  · rw [tr_num ea (by omega)]; rfl
  · rw [tr_loc ea c2]; rfl
  · rw [tr_loc ea c2]
    have hv : Ex.wrapQ .i64 x.val = x.val := by
      unfold nodeOk at hx
      unfold goodU at hxv
      exact wrap_small hxv.1 (by omega)
    rw [hv]
    exact .inr (.inl rfl)
  · obtain ⟨ha0, ha1, eT⟩ := un (by omega) (by omega)
    have hf := lay_fits hE (i := x.a.toNat) (by omega) (24 + k)
    rw [eT, E.needs] at h4
    refine ⟨⟨⟨hE, hG⟩, ha0, by omega, by omega, h3, h4⟩, fun hc0 => ⟨⟨insC_len _, insC_one _⟩, by omega, by omega, by omega, fun hc1 => ⟨by omega, by omega, fun hc2 => Sy.rowO_leaf' (List.mem_singleton_self _) rfl 0 rfl rfl ?_ ?_ hc2⟩⟩⟩
    · rw [eT]; simp [lay, unL, c3]
    · rw [eT]; simp [lay, unL, insCells, I.cells, c3]
  · obtain ⟨ha0, ha1, eT⟩ := un (by omega) (by omega)
    have hf := lay_fits hE (i := x.a.toNat) (by omega) (24 + k)
    rw [eT, E.needs] at h4
    refine ⟨⟨⟨hE, hG⟩, ha0, by omega, by omega, h3, h4⟩, fun hc0 => ⟨⟨insC_len _, insC_one _⟩, by omega, by omega, by omega, fun hc1 => ⟨by omega, by omega, fun hc2 => Sy.rowO_leaf' (List.mem_singleton_self _) rfl 0 rfl rfl ?_ ?_ hc2⟩⟩⟩
    · rw [eT]; simp [lay, unL, c4]
    · rw [eT]; simp [lay, unL, insCells, I.cells, c4]
  · obtain ⟨ha0, ha1, eT⟩ := un (by omega) (by omega)
    have hf := lay_fits hE (i := x.a.toNat) (by omega) (24 + k)
    rw [eT, E.needs] at h4
    refine ⟨⟨⟨hE, hG⟩, ha0, by omega, by omega, h3, h4⟩, fun hc0 => ⟨⟨insC_len _, insC_one _⟩, by omega, by omega, by omega, fun hc1 => ⟨by omega, by omega, fun hc2 => ⟨by omega, by omega, fun hc3 => Sy.rowO_leaf' (List.mem_singleton_self _) rfl 0 rfl rfl ?_ ?_ hc3⟩⟩⟩⟩
    · rw [eT]; simp [lay, unL, c5]
    · rw [eT]; simp [lay, unL, insCells, I.cells, c5]
  · have h6 : 6 ≤ x.op := by unfold nodeOk at hx; omega
    have h19 : x.op ≤ 19 := by unfold nodeOk at hx; omega
    have ha := ok_a hx (by omega)
    have hb := ok_b hx h6
    have eT : tr l i.toNat = .bin x.op (tr l x.a.toNat) (tr l x.b.toNat) := tr_bin ea h6 (by omega) (by omega)
    have hf := lay_fits hE (i := x.a.toNat) (by omega) (24 + k)
    have hf2 := lay_fits hE (i := x.b.toNat) (by omega) (24 + k + 1)
    rw [eT, E.needs] at h4
    refine ⟨⟨⟨hE, hG⟩, ha.1, by omega, by omega, h3, by omega⟩, fun hc0 => ⟨⟨⟨hE, hG⟩, hb.1, by omega, by omega, by omega, by omega⟩, fun hc1 => ⟨⟨insC_len _, insC_one _⟩, by omega, by omega, by omega, fun hc2 => ⟨⟨insC_len _, insC_one _⟩, by omega, by omega, by omega, fun hc3 =>
      ⟨⟨h6, h19⟩, fun _ => ⟨fun hz => ⟨⟨by erw [insC_len2]; omega, insC_one2 _ _⟩, by omega, by omega, by omega, fun hc4 => ⟨by omega, by omega, fun hc5 => ⟨by omega, by omega, fun hc6 => Sy.rowO_leaf' (List.mem_singleton_self _) rfl 0 rfl rfl ?_ ?_ hc6⟩⟩⟩,
        fun hz => ⟨⟨by erw [insC_len2]; omega, insC_one2 _ _⟩, by omega, by omega, by omega, fun hc4 => ⟨by omega, by omega, fun hc5 => Sy.rowO_leaf' (List.mem_singleton_self _) rfl 0 rfl rfl ?_ ?_ hc5⟩⟩⟩⟩⟩⟩⟩⟩
    · rw [eT]; simp only [lay, binL, if_pos hz, List.length_append, List.length_cons, List.length_nil]; omega
    · rw [eT]; simp [lay, binL, if_pos hz, insCells, I.cells, binCd]
    · rw [eT]; simp only [lay, binL, if_neg hz, List.length_append, List.length_cons, List.length_nil]; omega
    · rw [eT]; simp [lay, binL, if_neg hz, insCells, I.cells]
theorem exprC_met (g o c : Nat) (l : List Nd) : ∀ (i0 : Nat) (i k : Int), Sy.Meets Tryz.prog (exprC g o c l i0 i k)
  | 0, i, k => fun hok => absurd hok.2.2.2.1 (by have := hok.2.1; omega)
  | i0 + 1, i, k => exprC_step g o c l i0 (fun j k => exprC_met g o c l i0 j k) i k
end Go.Proofs.YtlpcnaeknbmjdaaGreat.Lw

namespace Go.Proofs.YtlpcnaeknbmjdaaGreat.Lw
set_option linter.unusedVariables false
set_option linter.unusedSimpArgs false
open Go Go.RowKit
open Go.Proofs.YtlpcnaeknbmjdaaGreat.Sy (Let Blk)
abbrev fRX : FuncId := 40
abbrev tBool : TypeId := 4
noncomputable def bodyZ1 : Code := Sy.loopBody Tryz.f40 0
noncomputable def bodyZ2 : Code := Sy.loopBody Tryz.f40 1
def usedV (n : Nat) (R : List Nat) : List Value := (List.range n).map fun j => Value.bool (decide (j ∈ R))
def slZ1 (g o c gu n k : Nat) (loc : Int) : List (Nat × Value) := [(0, .slice (some ⟨g, o, none⟩) n c), (1, .int .i64 loc), (4, .bool false), (5, .slice (some ⟨gu, 0, none⟩) n n), (6, .int .i64 k)]
def slZ2 (g o c gu n k : Nat) : List (Nat × Value) := [(0, .slice (some ⟨g, o, none⟩) n c), (4, .bool false), (5, .slice (some ⟨gu, 0, none⟩) n n), (8, .int .i64 k)]
def z1_o : Sy.O := (Sy.O.steps [0] (Sy.O.fork (Sy.O.steps [0, 1, 0, 0, 1, 1, 1, 1, 1, 1, 0, 0, 0, 0, 0, 0, 1, 0, 0, 0] (Sy.O.fork (Sy.O.steps [0, 0, 0] (Sy.O.fork (Sy.O.steps [0, 0, 0, 0, 0, 0, 0, 0] Sy.O.nil) (Sy.O.steps [0, 0, 0, 0, 0] (Sy.O.fork (Sy.O.steps [0, 0, 0, 0, 0] Sy.O.nil) (Sy.O.steps [0, 0, 0, 0, 0, 0] (Sy.O.fork (Sy.O.steps [0, 0, 0, 0, 0, 0, 0, 0] (Sy.O.fork Sy.O.nil Sy.O.nil)) (Sy.O.steps [0, 0, 0, 0, 0, 0] Sy.O.nil))))))) (Sy.O.steps [0, 0, 0, 1, 0, 0, 0, 1, 0, 0, 0, 1, 0, 0, 0, 1, 0, 0, 0] (Sy.O.fork (Sy.O.steps [0, 0, 0, 0, 0] Sy.O.nil) (Sy.O.steps [0, 0, 0, 0, 0, 0, 0, 1, 0, 0, 2, 1, 1, 1] (Sy.O.fork Sy.O.nil (Sy.O.steps [0, 0, 0, 0, 1, 2, 0, 1, 0, 0, 0] (Sy.O.fork (Sy.O.steps [0, 0, 0] (Sy.O.fork Sy.O.nil Sy.O.nil)) (Sy.O.steps [0, 0, 0, 1, 0, 0, 0] (Sy.O.fork (Sy.O.steps [0, 0, 0, 0, 0] Sy.O.nil) (Sy.O.steps [0, 0, 0, 0, 0, 0, 0, 1, 0, 0, 2, 1, 1, 1] (Sy.O.fork Sy.O.nil (Sy.O.steps [0, 0, 0, 0, 1, 2, 0, 1] Sy.O.nil))))))))))))) Sy.O.nil))
noncomputable def z1_R (g : Nat) (o : Nat) (c : Nat) (gu : Nat) (n : Nat) (k : Nat) (loc : Int) (xs : List Value) (us : List Value) (rest : List Value) (ns : Nat → Sy.Let) : Sy.Res (Exit × Nat × List Value × List Blk) :=
 let z0 := (Sy.Cont.seg o xs)
 let z1 := (o + Int.toNat (↑k : Int) * (4 : Nat))
 let z2 := (o + Int.toNat (↑k : Int) * (4 : Nat) + (1 : Nat))
 let z3 := (o + Int.toNat (↑k : Int) * (4 : Nat) + (1 : Nat) + (1 : Nat))
 let z4 := (o + Int.toNat (↑k : Int) * (4 : Nat) + (1 : Nat) + (1 : Nat) + (1 : Nat))
 let z5 := (some (Addr.mk g o none))
 let z6 := (some (Addr.mk gu (0 : Nat) none))
 let z7 := [Value.slice z5 n c, Value.int IntKind.i64 loc, Value.bool false, Value.slice z6 n n, Value.int IntKind.i64 (↑k : Int)]
 let z8 := (Let.n (ns 4))
 let z9 := (Sy.Cont.row (4 : Nat) (1 : Nat) n n us)
 let z10 := [Value.slice z5 n c, Value.int IntKind.i64 loc, Value.bool false, Value.slice z6 n n, Value.int IntKind.i64 (Ex.wrapQ IntKind.i64 (Ex.addQ (↑k : Int) (1 : Int)))]
 Sy.Res.br (Ex.ltQ (↑k : Int) (Int.ofNat n)) (Sy.Res.need ((0 : Int) ≤ (↑k : Int) ∧ (↑k : Int) < (↑n : Int)) (Sy.Res.need (∃ (i : Int), Sy.Cont.at z0 z1 = some (Value.int IntKind.i64 i)) (Sy.Res.hyp (Sy.Cont.at z0 z1 = some (Value.int IntKind.i64 (Let.i (ns 0)))) (Sy.Res.need (∃ (i : Int), Sy.Cont.at z0 z2 = some (Value.int IntKind.u64 i)) (Sy.Res.hyp (Sy.Cont.at z0 z2 = some (Value.int IntKind.u64 (Let.i (ns 1)))) (Sy.Res.need (∃ (i : Int), Sy.Cont.at z0 z3 = some (Value.int IntKind.i64 i)) (Sy.Res.hyp (Sy.Cont.at z0 z3 = some (Value.int IntKind.i64 (Let.i (ns 2)))) (Sy.Res.need (∃ (i : Int), Sy.Cont.at z0 z4 = some (Value.int IntKind.i64 i)) (Sy.Res.hyp (Sy.Cont.at z0 z4 = some (Value.int IntKind.i64 (Let.i (ns 3)))) (Sy.Res.br (bif Ex.eqQ (Let.i (ns 0)) (1 : Int) then true else Ex.eqQ (Let.i (ns 0)) (2 : Int)) (Sy.Res.br (!Ex.eqQ (Let.i (ns 2)) (0 : Int)) (Sy.Res.leaf (Exit.ret, (131 : Nat), z7, [Blk.mk z8 (Sy.Cont.obj (Obj.cells (Array.mk [Value.int IntKind.i64 (Let.i (ns 0)), Value.int IntKind.u64 (Let.i (ns 1)), Value.int IntKind.i64 (Let.i (ns 2)), Value.int IntKind.i64 (Let.i (ns 3))]) (127 : Nat))) true, Blk.mk g z0 false, Blk.mk gu z9 true])) (Sy.Res.br (bif false then true else !Ex.eqQ (Let.i (ns 3)) (0 : Int)) (Sy.Res.leaf (Exit.ret, (131 : Nat), z7, [Blk.mk z8 (Sy.Cont.obj (Obj.cells (Array.mk [Value.int IntKind.i64 (Let.i (ns 0)), Value.int IntKind.u64 (Let.i (ns 1)), Value.int IntKind.i64 (Let.i (ns 2)), Value.int IntKind.i64 (Let.i (ns 3))]) (127 : Nat))) true,
 Blk.mk g z0 false, Blk.mk gu z9 true])) (Sy.Res.br (Ex.eqQ (Let.i (ns 0)) (2 : Int)) (Sy.Res.br (bif false then true else bif true then Ex.leQ (Ex.wrapQ IntKind.u64 loc) (Let.i (ns 1)) else false) (Sy.Res.leaf (Exit.ret, (131 : Nat), z7, [Blk.mk z8 (Sy.Cont.obj (Obj.cells (Array.mk [Value.int IntKind.i64 (Let.i (ns 0)), Value.int IntKind.u64 (Let.i (ns 1)), Value.int IntKind.i64 (Let.i (ns 2)), Value.int IntKind.i64 (Let.i (ns 3))]) (127 : Nat))) true, Blk.mk g z0 false, Blk.mk gu z9 true])) (Sy.Res.leaf (Exit.normal, (131 : Nat), z10, [Blk.mk z8 (Sy.Cont.obj (Obj.cells (Array.mk [Value.int IntKind.i64 (Let.i (ns 0)), Value.int IntKind.u64 (Let.i (ns 1)), Value.int IntKind.i64 (Let.i (ns 2)), Value.int IntKind.i64 (Let.i (ns 3))]) (127 : Nat))) true, Blk.mk g z0 false, Blk.mk gu z9 true]))) (Sy.Res.leaf (Exit.normal, (131 : Nat), z10, [Blk.mk z8 (Sy.Cont.obj (Obj.cells (Array.mk [Value.int IntKind.i64 (Let.i (ns 0)), Value.int IntKind.u64 (Let.i (ns 1)), Value.int IntKind.i64 (Let.i (ns 2)), Value.int IntKind.i64 (Let.i (ns 3))]) (127 : Nat))) true, Blk.mk g z0 false, Blk.mk gu z9 true]))))) (Sy.Res.br (bif bif bif bif Ex.ltQ (Let.i (ns 0)) (1 : Int) then true else Ex.ltQ (19 : Int) (Let.i (ns 0)) then true else !Ex.eqQ (Let.i (ns 1)) (0 : Int) then true else Ex.ltQ (Let.i (ns 2)) (0 : Int) then true else Ex.leQ (↑k : Int) (Let.i (ns 2))) (Sy.Res.leaf (Exit.ret, (131 : Nat), z7, [Blk.mk z8 (Sy.Cont.obj (Obj.cells (Array.mk [Value.int IntKind.i64 (Let.i (ns 0)), Value.int
 IntKind.u64 (Let.i (ns 1)), Value.int IntKind.i64 (Let.i (ns 2)), Value.int IntKind.i64 (Let.i (ns 3))]) (127 : Nat))) true, Blk.mk g z0 false, Blk.mk gu z9 true])) (Sy.Res.need ((0 : Int) ≤ Let.i (ns 2) ∧ Let.i (ns 2) < (↑n : Int)) (Sy.Res.need (∃ (b : Bool), Sy.Cont.at z9 ((0 : Nat) + Int.toNat (Let.i (ns 2)) * (1 : Nat)) = some (Value.bool b)) (Sy.Res.hyp (Sy.Cont.at z9 ((0 : Nat) + Int.toNat (Let.i (ns 2)) * (1 : Nat)) = some (Value.bool (Let.b (ns 5)))) (Sy.Res.br (bif false then true else Let.b (ns 5)) (Sy.Res.leaf (Exit.ret, (131 : Nat), z7, [Blk.mk z8 (Sy.Cont.obj (Obj.cells (Array.mk [Value.int IntKind.i64 (Let.i (ns 0)), Value.int IntKind.u64 (Let.i (ns 1)), Value.int IntKind.i64 (Let.i (ns 2)), Value.int IntKind.i64 (Let.i (ns 3))]) (127 : Nat))) true, Blk.mk g z0 false, Blk.mk gu z9 true])) (Sy.Res.need ((0 : Int) ≤ Let.i (ns 2) ∧ Let.i (ns 2) < (↑n : Int)) (Sy.Res.need ((0 : Nat) + Int.toNat (Let.i (ns 2)) * (1 : Nat) < List.length us) (Sy.Res.br (Ex.leQ (Let.i (ns 0)) (5 : Int)) (Sy.Res.br (!Ex.eqQ (Let.i (ns 3)) (0 : Int)) (Sy.Res.leaf (Exit.ret, (131 : Nat), z7, [Blk.mk z8 (Sy.Cont.obj (Obj.cells (Array.mk [Value.int IntKind.i64 (Let.i (ns 0)), Value.int IntKind.u64 (Let.i (ns 1)), Value.int IntKind.i64 (Let.i (ns 2)), Value.int IntKind.i64 (Let.i (ns 3))]) (127 : Nat))) true, Blk.mk g z0 false, Blk.mk gu (Sy.Cont.row (4 : Nat) (1 : Nat) n n (List.set us ((0 : Nat) + Int.toNat (Let.i (ns 2)) * (1 : Nat)) (Value.bool true))) true])) (Sy.Res.leaf (Exit.normal,
 (131 : Nat), z10, [Blk.mk z8 (Sy.Cont.obj (Obj.cells (Array.mk [Value.int IntKind.i64 (Let.i (ns 0)), Value.int IntKind.u64 (Let.i (ns 1)), Value.int IntKind.i64 (Let.i (ns 2)), Value.int IntKind.i64 (Let.i (ns 3))]) (127 : Nat))) true, Blk.mk g z0 false, Blk.mk gu (Sy.Cont.row (4 : Nat) (1 : Nat) n n (List.set us ((0 : Nat) + Int.toNat (Let.i (ns 2)) * (1 : Nat)) (Value.bool true))) true]))) (Sy.Res.br (bif Ex.ltQ (Let.i (ns 3)) (0 : Int) then true else Ex.leQ (↑k : Int) (Let.i (ns 3))) (Sy.Res.leaf (Exit.ret, (131 : Nat), z7, [Blk.mk z8 (Sy.Cont.obj (Obj.cells (Array.mk [Value.int IntKind.i64 (Let.i (ns 0)), Value.int IntKind.u64 (Let.i (ns 1)), Value.int IntKind.i64 (Let.i (ns 2)), Value.int IntKind.i64 (Let.i (ns 3))]) (127 : Nat))) true, Blk.mk g z0 false, Blk.mk gu (Sy.Cont.row (4 : Nat) (1 : Nat) n n (List.set us ((0 : Nat) + Int.toNat (Let.i (ns 2)) * (1 : Nat)) (Value.bool true))) true])) (Sy.Res.need ((0 : Int) ≤ Let.i (ns 3) ∧ Let.i (ns 3) < (↑n : Int)) (Sy.Res.need (∃ (b : Bool), Sy.Cont.at (Sy.Cont.row (4 : Nat) (1 : Nat) n n (List.set us ((0 : Nat) + Int.toNat (Let.i (ns 2)) * (1 : Nat)) (Value.bool true))) ((0 : Nat) + Int.toNat (Let.i (ns 3)) * (1 : Nat)) = some (Value.bool b)) (Sy.Res.hyp (Sy.Cont.at (Sy.Cont.row (4 : Nat) (1 : Nat) n n (List.set us ((0 : Nat) + Int.toNat (Let.i (ns 2)) * (1 : Nat)) (Value.bool true))) ((0 : Nat) + Int.toNat (Let.i (ns 3)) * (1 : Nat)) = some (Value.bool (Let.b (ns 6)))) (Sy.Res.br (bif false then true else Let.b (ns 6))
 (Sy.Res.leaf (Exit.ret, (131 : Nat), z7, [Blk.mk z8 (Sy.Cont.obj (Obj.cells (Array.mk [Value.int IntKind.i64 (Let.i (ns 0)), Value.int IntKind.u64 (Let.i (ns 1)), Value.int IntKind.i64 (Let.i (ns 2)), Value.int IntKind.i64 (Let.i (ns 3))]) (127 : Nat))) true, Blk.mk g z0 false, Blk.mk gu (Sy.Cont.row (4 : Nat) (1 : Nat) n n (List.set us ((0 : Nat) + Int.toNat (Let.i (ns 2)) * (1 : Nat)) (Value.bool true))) true])) (Sy.Res.need ((0 : Int) ≤ Let.i (ns 3) ∧ Let.i (ns 3) < (↑n : Int)) (Sy.Res.need ((0 : Nat) + Int.toNat (Let.i (ns 3)) * (1 : Nat) < List.length (List.set us ((0 : Nat) + Int.toNat (Let.i (ns 2)) * (1 : Nat)) (Value.bool true))) (Sy.Res.leaf (Exit.normal, (131 : Nat), z10, [Blk.mk z8 (Sy.Cont.obj (Obj.cells (Array.mk [Value.int IntKind.i64 (Let.i (ns 0)), Value.int IntKind.u64 (Let.i (ns 1)), Value.int IntKind.i64 (Let.i (ns 2)), Value.int IntKind.i64 (Let.i (ns 3))]) (127 : Nat))) true, Blk.mk g z0 false, Blk.mk gu (Sy.Cont.row (4 : Nat) (1 : Nat) n n (List.set (List.set us ((0 : Nat) + Int.toNat (Let.i (ns 2)) * (1 : Nat)) (Value.bool true)) ((0 : Nat) + Int.toNat (Let.i (ns 3)) * (1 : Nat)) (Value.bool true))) true]))))))))))))))))))))))))))) (Sy.Res.leaf (Exit.exit (0 : Nat), (131 : Nat), z7, [Blk.mk g z0 false, Blk.mk gu z9 true]))
theorem z1_run (g o c gu n k : Nat) (loc : Int) (xs us : List Value) (rest : List Value) : Sy.Ran (Sy.pieceT Tryz.prog Sy.S0 50 fRX bodyZ1 131 (slZ1 g o c gu n k loc) rest [⟨g, .seg o xs, false⟩, ⟨gu, .row tBool 1 n n us, true⟩] [0, 1, 4, 5, 6]) z1_o (z1_R g o c gu n k loc xs us rest) := ⟨fun ns => by kernel_rfl, fun ns => by kernel_rfl⟩
def z2_o : Sy.O := (Sy.O.steps [0] (Sy.O.fork (Sy.O.steps [0, 1, 0, 0, 1, 1, 1] (Sy.O.fork Sy.O.nil Sy.O.nil)) Sy.O.nil))
noncomputable def z2_R (g : Nat) (o : Nat) (c : Nat) (gu : Nat) (n : Nat) (k : Nat) (us : List Value) (rest : List Value) (ns : Nat → Sy.Let) : Sy.Res (Exit × Nat × List Value × List Blk) :=
 let z0 := (Sy.Cont.row (4 : Nat) (1 : Nat) n n us)
 let z1 := ((0 : Nat) + Int.toNat (↑k : Int) * (1 : Nat))
 let z2 := (some (Addr.mk g o none))
 let z3 := (some (Addr.mk gu (0 : Nat) none))
 let z4 := [Value.slice z2 n c, Value.bool false, Value.slice z3 n n, Value.int IntKind.i64 (↑k : Int)]
 let z5 := [Blk.mk gu z0 true]
 Sy.Res.br (Ex.ltQ (↑k : Int) (Ex.wrapQ IntKind.i64 (Ex.subQ' (Int.ofNat n) (1 : Int)))) (Sy.Res.need ((0 : Int) ≤ (↑k : Int) ∧ (↑k : Int) < (↑n : Int)) (Sy.Res.need (∃ (b : Bool), Sy.Cont.at z0 z1 = some (Value.bool b)) (Sy.Res.hyp (Sy.Cont.at z0 z1 = some (Value.bool (Let.b (ns 0)))) (Sy.Res.br (!Let.b (ns 0)) (Sy.Res.leaf (Exit.ret, (131 : Nat), z4, z5)) (Sy.Res.leaf (Exit.normal, (131 : Nat), [Value.slice z2 n c, Value.bool false, Value.slice z3 n n, Value.int IntKind.i64 (Ex.wrapQ IntKind.i64 (Ex.addQ (↑k : Int) (1 : Int)))], z5)))))) (Sy.Res.leaf (Exit.exit (2 : Nat), (131 : Nat), z4, z5))
theorem z2_run (g o c gu n k : Nat) (us : List Value) (rest : List Value) : Sy.Ran (Sy.pieceT Tryz.prog Sy.S0 50 fRX bodyZ2 131 (slZ2 g o c gu n k) rest [⟨gu, .row tBool 1 n n us, true⟩] [0, 4, 5, 8]) z2_o (z2_R g o c gu n k us rest) := ⟨fun ns => by kernel_rfl, fun ns => by kernel_rfl⟩
theorem usedV_length (n : Nat) (R : List Nat) : (usedV n R).length = n := by simp [usedV]
theorem usedV_nil (n : Nat) : usedV n [] = List.replicate n (.bool false) := by
  apply List.ext_getElem
  · simp [usedV]
  · intro i h1 h2
    simp [usedV]
theorem usedV_get {n a : Nat} (R : List Nat) (h : a < n) : (usedV n R)[a]? = some (.bool (decide (a ∈ R))) := by simp [usedV, h]
theorem usedV_at {n a : Nat} (R : List Nat) (h : a < n) (e : TypeId) (s m c : Nat) : (Sy.Cont.row e s m c (usedV n R)).at (0 + a * 1) = some (.bool (decide (a ∈ R))) := by
  rw [Nat.zero_add, Nat.mul_one]
  exact usedV_get R h
theorem usedV_set {n a : Nat} (R : List Nat) (h : a < n) : (usedV n R).set (0 + a * 1) (.bool true) = usedV n (R ++ [a]) := by
  rw [Nat.zero_add, Nat.mul_one]
  apply List.ext_getElem?
  intro j
  rw [List.getElem?_set]
  by_cases hj : j < n
  · rw [usedV_get _ hj, usedV_length]
    split
    · rename_i e
      subst e
      rw [usedV_get _ hj]
      simp
    · rename_i e
      rw [usedV_get _ hj]
      have : (j ∈ R ++ [a]) ↔ j ∈ R := by
        rw [List.mem_append, List.mem_singleton]
        exact ⟨fun h => h.elim id fun h => absurd h.symm e, .inl⟩
      simp only [this]
  · rw [List.getElem?_eq_none (by rw [usedV_length]; omega), List.getElem?_eq_none (by rw [usedV_length]; omega)]
    split
    · omega
    · rfl
def treeOk (loc : Int) (l : List Nd) : Prop := nodesOk loc l ∧ (refs l).Nodup
theorem refs_pre {l : List Nd} (h : (refs l).Nodup) (k : Nat) : (refs (l.take k)).Nodup := by
  have : refs l = refs (l.take k) ++ refs (l.drop k) := by
    unfold refs
    rw [← List.flatMap_append, List.take_append_drop]
  rw [this] at h
  exact (List.nodup_append.1 h).1
noncomputable def loopZ1 (g o c gu : Nat) (l : List Nd) (loc : Int) : Sy.LoopC :=
  ⟨.loop bodyZ1, 131, slZ1 g o c gu l.length 0 loc, (0 ≤ loc ∧ loc ≤ 1000 ∧ goodN l) ∧ l.length ≤ 65536, ⟨[(g, .seg o (ndCells l))], [(gu, .row tBool 1 l.length l.length (List.replicate l.length (.bool false)))], 0, []⟩,
    [(⟨fun _ => treeOk loc l, fun _ => [(gu, .row tBool 1 l.length l.length (usedV l.length (refs l)))], fun _ => []⟩, .exit 0, fun _ => [(0, .slice (some ⟨g, o, none⟩) l.length c), (4, .bool false), (5, .slice (some ⟨gu, 0, none⟩) l.length l.length)]),
     (⟨fun _ => ¬ treeOk loc l, fun _ => [], fun _ => []⟩, .ret, fun _ => [(4, .bool false)])]⟩
theorem loopZ1_met (g o c gu : Nat) (l : List Nd) (loc : Int) : Sy.MeetsL Tryz.prog (loopZ1 g o c gu l loc) := by
  refine Sy.loop_of (n := 50) (fn := fRX) Sy.S0_holds mixed (body := bodyZ1) rfl [0, 1, 4, 5, 6] (fun k : Nat => slZ1 g o c gu l.length k loc) (fun k => [⟨g, .seg o (ndCells l), false⟩, ⟨gu, .row tBool 1 l.length l.length (usedV l.length (refs (l.take k))), true⟩])
    (fun k => k ≤ l.length ∧ (∀ i n, i < k → l[i]? = some n → nodeOk loc i n) ∧ (refs (l.take k)).Nodup) (fun k => l.length - k)
    0 (fun h => ⟨Nat.zero_le _, fun i n hi => absurd hi (Nat.not_lt_zero i), List.nodup_nil⟩) (fun p hp => hp) [0, 1] (by decide) (by rw [List.take_zero, show refs [] = [] from rfl, usedV_nil]; rfl) (o := fun _ => z1_o) (R := fun k xs => z1_R g o c gu l.length k loc (ndCells l) (usedV l.length (refs (l.take k))) xs) (fun k xs _ => z1_run g o c gu l.length k loc (ndCells l) (usedV l.length (refs (l.take k))) xs) ?_
  rintro ⟨⟨hl0, hl1, hG⟩, hm⟩ k rest ⟨hk, hall, hnd⟩ ns
  have hw : Ex.wrapQ .u64 loc = loc := wrapU hl0 (by omega)
  simp only [z1_R, Sy.Res.holds, Int.ofNat_eq_natCast, Sy.b_and, Sy.b_or, Sy.b_not, Sy.b_f, Sy.b_and', Sy.b_or', Sy.q_lt, Sy.q_le, Sy.q_eq, Sy.b_tt, Sy.b_ft, not_true_eq_false, not_false_eq_true, hw, false_or]
  refine ⟨fun hlt => ?_, fun hge => ?_⟩
  · have hlt : k < l.length := by omega
    have ea : l[k]? = some l[k] := List.getElem?_eq_getElem hlt
    have hxv : goodU l[k].val := hG _ (List.getElem_mem hlt)
    obtain ⟨a0, a1, a2, a3⟩ := nd_at ea o
    simp only [a0, a1, a2, a3, some_int, some_bool, exists_eq', true_and]
    generalize l[k] = x at *
    refine ⟨by omega, fun h0 h1 h2 h3 => ?_⟩
    simp only [← h0, ← h1, ← h2, ← h3]
    have hr := refs_take ea
    have bad : ¬ nodeOk loc k x → ¬ treeOk loc l := fun h h' => h (h'.1 k x ea)
    have dup : ∀ {R : List Nat}, R = refs (l.take k) ++ x.refs → ¬ R.Nodup → ¬ treeOk loc l := fun h hn h' => hn (by rw [h, ← hr]; exact refs_pre h'.2 _)
    have good : nodeOk loc k x → (refs (l.take k) ++ x.refs).Nodup → k + 1 ≤ l.length ∧ (∀ i n, i < k + 1 → l[i]? = some n → nodeOk loc i n) ∧ (refs (l.take (k + 1))).Nodup := fun h hn2 => ⟨by omega, fun i n hi hn => by
      rcases Nat.lt_succ_iff_lt_or_eq.1 hi with hi | rfl
      · exact hall i n hi hn
      · rw [ea] at hn
        injection hn with hn
        rw [← hn]; exact h, by rw [hr]; exact hn2⟩
    have inc := Sy.inc_q k (by omega)
    have fin : ∀ B R, R = refs (l.take k) ++ x.refs → nodeOk loc k x → R.Nodup → Sy.leafL (loopZ1 g o c gu l loc) [0, 1, 4, 5, 6] (fun k : Nat => slZ1 g o c gu l.length k loc) (fun k => [⟨g, .seg o (ndCells l), false⟩, ⟨gu, .row tBool 1 l.length l.length (usedV l.length (refs (l.take k))), true⟩])
        (fun k => k ≤ l.length ∧ (∀ i n, i < k → l[i]? = some n → nodeOk loc i n) ∧ (refs (l.take k)).Nodup) (fun k => l.length - k) k (Exit.normal, 131, [.slice (some ⟨g, o, none⟩) l.length c, .int .i64 loc, .bool false, .slice (some ⟨gu, 0, none⟩) l.length l.length, .int .i64 (Ex.wrapQ IntKind.i64 (Ex.addQ (↑k : Int) 1))],
          [B, ⟨g, .seg o (ndCells l), false⟩, ⟨gu, .row tBool 1 l.length l.length (usedV l.length R), true⟩]) := fun B R hR hx hn => by
      rw [hR, ← hr]
      exact Sy.leafL_next (k + 1) rfl (good hx (hR ▸ hn)) (by show l.length - (k + 1) < l.length - k; omega) (by rw [inc]; rfl) [1, 2] (by decide) rfl
    have out : ∀ L, ¬ treeOk loc l → Sy.leafL (loopZ1 g o c gu l loc) [0, 1, 4, 5, 6] (fun k : Nat => slZ1 g o c gu l.length k loc) (fun k => [⟨g, .seg o (ndCells l), false⟩, ⟨gu, .row tBool 1 l.length l.length (usedV l.length (refs (l.take k))), true⟩])
        (fun k => k ≤ l.length ∧ (∀ i n, i < k → l[i]? = some n → nodeOk loc i n) ∧ (refs (l.take k)).Nodup) (fun k => l.length - k) k (Exit.ret, 131, [.slice (some ⟨g, o, none⟩) l.length c, .int .i64 loc, .bool false, .slice (some ⟨gu, 0, none⟩) l.length l.length, .int .i64 (↑k : Int)], L) := fun L h =>
      Sy.leafL_end 1 rfl rfl (by simp) rfl [] rfl [2] rfl [] List.nodup_nil trivial h
    unfold goodU at hxv
    refine ⟨fun c1 => ⟨fun r => out _ (bad (by unfold nodeOk; omega)), fun r => ⟨fun r' => out _ (bad (by unfold nodeOk; omega)), fun r' => ⟨fun c2 => ⟨fun r2 => out _ (bad (by unfold nodeOk; omega)), fun r2 => fin _ _ ?_ ?_ hnd⟩, fun c2 => fin _ _ ?_ ?_ hnd⟩⟩⟩,
      fun c1 => ⟨fun r => out _ (bad (by unfold nodeOk; omega)), fun r => ?_⟩⟩
    · unfold Nd.refs; rw [if_pos (by omega), List.append_nil]
    · unfold nodeOk; omega
    · unfold Nd.refs; rw [if_pos (by omega), List.append_nil]
    · unfold nodeOk; omega
    · have la : x.a.toNat < l.length := by omega
      have ha3 : 3 ≤ x.op := by omega
      simp only [usedV_at _ la, usedV_length, some_int, some_bool, exists_eq', true_and]
      refine ⟨by omega, fun h5 => ?_⟩
      rw [← h5]
      simp only [decide_eq_true_eq, usedV_set _ la]
      have ra : ∀ r, x.refs = x.a.toNat :: r → x.a.toNat ∈ refs (l.take k) → ¬ treeOk loc l := fun r hr' hm => dup rfl fun hn => (List.nodup_append.1 hn).2.2 _ hm _ (by rw [hr']; exact List.mem_cons_self) rfl
      have rx : ∃ r, x.refs = x.a.toNat :: r := by
        unfold Nd.refs
        rw [if_neg (by omega)]
        split
        · exact ⟨_, rfl⟩
        · exact ⟨_, rfl⟩
      obtain ⟨r0, hr0⟩ := rx
      refine ⟨fun hu => out _ (ra r0 hr0 hu), fun hu => ⟨by omega, by omega, ?_⟩⟩
      have hnd1 : (refs (l.take k) ++ [x.a.toNat]).Nodup := List.nodup_append.2 ⟨hnd, by simp, fun a ha b hb => by rw [List.mem_singleton.1 hb]; exact fun e => hu (e ▸ ha)⟩
      refine ⟨fun c5 => ⟨fun r2 => out _ (bad (by unfold nodeOk; omega)), fun r2 => fin _ _ ?_ (by unfold nodeOk; omega) hnd1⟩, fun c5 => ⟨fun r2 => out _ (bad (by unfold nodeOk; omega)), fun r2 => ?_⟩⟩
      · unfold Nd.refs; rw [if_neg (by omega), if_pos (by omega)]
      · have lb : x.b.toNat < l.length := by omega
        have er : refs (l.take k) ++ [x.a.toNat] ++ [x.b.toNat] = refs (l.take k) ++ x.refs := by
          rw [List.append_assoc]
          unfold Nd.refs; rw [if_neg (by omega), if_neg (by omega)]; rfl
        simp only [usedV_at _ lb, usedV_length, some_int, some_bool, exists_eq', true_and]
        refine ⟨by omega, fun h6 => ?_⟩
        rw [← h6]
        simp only [decide_eq_true_eq, usedV_set _ lb]
        refine ⟨fun hu2 => out _ (dup er fun hn => (List.nodup_append.1 hn).2.2 _ hu2 _ (List.mem_singleton_self _) rfl), fun hu2 => ⟨by omega, by omega, fin _ _ er (by unfold nodeOk; omega) ?_⟩⟩
        exact List.nodup_append.2 ⟨hnd1, by simp, fun a ha b hb => by rw [List.mem_singleton.1 hb]; exact fun e => hu2 (e ▸ ha)⟩
  · have hkl : k = l.length := by omega
    subst hkl
    rw [List.take_length] at *
    refine Sy.leafL_end 0 rfl rfl (by simp) rfl [] rfl [0, 2, 3] rfl [1] (by decide) ⟨⟨rfl, rfl, .inl rfl⟩, trivial⟩ ⟨fun i n hn => hall i n ?_ hn, hnd⟩
    exact (List.getElem?_eq_some_iff.1 hn).1
noncomputable def loopZ2 (g o c gu : Nat) (l : List Nd) (loc : Int) : Sy.LoopC :=
  ⟨.loop bodyZ2, 131, slZ2 g o c gu l.length 0, (0 < l.length ∧ treeOk loc l) ∧ l.length ≤ 65536, ⟨[], [(gu, .row tBool 1 l.length l.length (usedV l.length (refs l)))], 0, []⟩,
    [(⟨fun _ => onceOk l, fun _ => [], fun _ => []⟩, .exit 2, fun _ => []), (⟨fun _ => ¬ onceOk l, fun _ => [], fun _ => []⟩, .ret, fun _ => [(4, .bool false)])]⟩
theorem loopZ2_met (g o c gu : Nat) (l : List Nd) (loc : Int) : Sy.MeetsL Tryz.prog (loopZ2 g o c gu l loc) := by
  refine Sy.loop_of (n := 50) (fn := fRX) Sy.S0_holds mixed (body := bodyZ2) rfl [0, 4, 5, 8] (fun k : Nat => slZ2 g o c gu l.length k) (fun k => [⟨gu, .row tBool 1 l.length l.length (usedV l.length (refs l)), true⟩])
    (fun k => k < l.length ∧ ∀ j, j < k → j ∈ refs l) (fun k => l.length - k)
    0 (fun h => ⟨h.1.1, fun j hj => absurd hj (Nat.not_lt_zero j)⟩) (fun p hp => hp) [0] (by decide) rfl (o := fun _ => z2_o) (R := fun k xs => z2_R g o c gu l.length k (usedV l.length (refs l)) xs) (fun k xs _ => z2_run g o c gu l.length k (usedV l.length (refs l)) xs) ?_
  rintro ⟨⟨hpos, hT⟩, hm⟩ k rest ⟨hk, hall⟩ ns
  simp only [z2_R, Sy.Res.holds, Int.ofNat_eq_natCast, Sy.b_and, Sy.b_or, Sy.b_not, Sy.b_f, Sy.b_and', Sy.b_or', Sy.q_lt, Sy.q_le, Sy.q_eq, Sy.b_tt, Sy.b_ft, not_true_eq_false, not_false_eq_true, dec_q l.length hpos (by omega), Int.toNat_natCast, usedV_at _ hk, some_int, some_bool, exists_eq', true_and]
  have h1 := List.nodup_iff_count.1 hT.2
  refine ⟨fun hlt => ⟨by omega, fun h0 => ?_⟩, fun hge => ?_⟩
  · rw [← h0]
    simp only [decide_eq_true_eq]
    refine ⟨fun r => ?_, fun r => ?_⟩
    · refine Sy.leafL_end 1 rfl rfl (by simp) rfl [] rfl [1] rfl [] List.nodup_nil trivial fun h => r ?_
      have := h k hk
      rw [if_pos (by omega)] at this
      exact List.count_pos_iff.1 (by omega)
    · refine Sy.leafL_next (k + 1) rfl ⟨by omega, fun j hj => ?_⟩ (by show l.length - (k + 1) < l.length - k; omega) (by rw [Sy.inc_q k (by omega)]; rfl) [0] (by decide) rfl
      rcases Nat.lt_succ_iff_lt_or_eq.1 hj with hj | rfl
      · exact hall j hj
      · exact Classical.byContradiction r
  · refine Sy.leafL_end 0 rfl rfl (by simp) rfl [] rfl [] rfl [] List.nodup_nil trivial fun j hj => ?_
    have h2 := h1 j
    split
    · have := List.count_pos_iff.2 (hall j (by omega))
      omega
    · rename_i hlast
      refine List.count_eq_zero.2 fun hm' => ?_
      unfold refs at hm'
      obtain ⟨x, hx, hj'⟩ := List.mem_flatMap.1 hm'
      obtain ⟨m, hm2, he⟩ := List.mem_iff_getElem.1 hx
      have := refs_lt hT.1 (Nat.le_refl _) (j := j) (by rw [List.take_length]; unfold refs; exact hm')
      have h3 := hT.1 m x (by rw [← he]; exact List.getElem?_eq_getElem hm2)
      unfold Nd.refs at hj'
      split at hj'
      · cases hj'
      · split at hj'
        · have := ok_a h3 (by omega)
          have := List.mem_singleton.1 hj'
          omega
        · have := ok_a h3 (by omega)
          have := ok_b h3 (by omega)
          rcases List.mem_cons.1 hj' with hj' | hj'
          · omega
          · have := List.mem_singleton.1 hj'
            omega
end Go.Proofs.YtlpcnaeknbmjdaaGreat.Lw

namespace Go.Proofs.YtlpcnaeknbmjdaaGreat.Lw
set_option linter.unusedVariables false
set_option linter.unusedSimpArgs false
open Go Go.RowKit
open Go.Proofs.YtlpcnaeknbmjdaaGreat.Sy (Let Blk)
noncomputable def rxC (g o c : Nat) (l : List Nd) (loc : Int) : Sy.CallC := ⟨fRX, #[.slice (some ⟨g, o, none⟩) l.length c, .int .i64 loc], (0 ≤ loc ∧ loc ≤ 1000 ∧ goodN l) ∧ 0 < l.length, ⟨[(g, .seg o (ndCells l))], [], 0, []⟩, [Sy.plainO (.bool (tru (isExpr loc l)))]⟩
noncomputable def ctxRX (g o c : Nat) (l : List Nd) (loc : Int) : Sy.Ctx := Sy.mkS [] [(fRX, fun a _ => loopZ1 g o c (Sy.ptrN (a.get 5)) l loc), (fRX, fun a _ => loopZ2 g o c (Sy.ptrN (a.get 5)) l loc)] []
def rx_o : Sy.O := (Sy.O.steps [0, 1, 0] (Sy.O.fork Sy.O.nil (Sy.O.steps [0, 1, 1, 0, 1, 0, 0, 0, 0] (Sy.O.fork (Sy.O.steps [0, 0, 1, 0, 0, 0] (Sy.O.fork (Sy.O.steps [0, 0] Sy.O.nil) (Sy.O.steps [0, 0] Sy.O.nil))) (Sy.O.steps [0, 0] Sy.O.nil)))))
noncomputable def rx_R (g : Nat) (o : Nat) (c : Nat) (l : List Nd) (loc : Int) (ns : Nat → Sy.Let) : Sy.Res (Value × List Blk) :=
 let z0 := (Int.ofNat (List.length l))
 Sy.Res.br (bif Ex.eqQ z0 (0 : Int) then true else Ex.ltQ (65536 : Int) z0) (Sy.Res.leaf (Value.bool false, [])) (Sy.Res.need ((0 : Int) ≤ Int.ofNat (List.length l) ∧ Int.toNat z0 * (1 : Nat) ≤ (281474976710656 : Nat) ∧ Int.toNat z0 ≤ (9223372036854775807 : Nat)) (Sy.Res.need (((0 : Int) ≤ loc ∧ loc ≤ (1000 : Int) ∧ goodN l) ∧ List.length l ≤ (65536 : Nat)) (Sy.Res.both (Sy.Res.hyp (nodesOk loc l ∧ List.Pairwise (fun (x1 x2 : Nat) => x1 ≠ x2) (refs l)) (Sy.Res.need (((0 : Nat) < List.length l ∧ treeOk loc l) ∧ List.length l ≤ (65536 : Nat)) (Sy.Res.both (Sy.Res.hyp (∀ (j : Nat), j < List.length l → List.countP.go (fun (x : Nat) => x == j) (refs l) (0 : Nat) = if j + (1 : Nat) < List.length l then (1 : Nat) else (0 : Nat)) (Sy.Res.leaf (Value.bool true, []))) (Sy.Res.hyp (onceOk l → False) (Sy.Res.leaf (Value.bool false, [])))))) (Sy.Res.hyp (treeOk loc l → False) (Sy.Res.leaf (Value.bool false, []))))))
theorem rx_run (g o c : Nat) (l : List Nd) (loc : Int) : Sy.Ran (Sy.inT Tryz.prog (ctxRX g o c l loc) 50 fRX (rxC g o c l loc).args (Sy.blks (rxC g o c l loc).mem) Sy.noB) rx_o (rx_R g o c l loc) := ⟨fun ns => by kernel_rfl, fun ns => by kernel_rfl⟩
theorem ctxRX_holds (g o c : Nat) (l : List Nd) (loc : Int) : (ctxRX g o c l loc).holds Tryz.prog := Sy.mkS_holds (fun _ h => (by cases h)) (fun p hp a L => by
  rcases List.mem_cons.1 hp with rfl | hp
  · exact loopZ1_met _ _ _ _ _ _
  rcases List.mem_singleton.1 hp with rfl
  exact loopZ2_met _ _ _ _ _ _) (fun _ h => (by cases h))
theorem rxC_met (g o c : Nat) (l : List Nd) (loc : Int) : Sy.Meets Tryz.prog (rxC g o c l loc) := by
  refine Sy.meets_of (ctxRX_holds g o c l loc) mixed (rx_run g o c l loc) fun hok ns => ?_
  obtain ⟨h1, h2⟩ : (0 ≤ loc ∧ loc ≤ 1000 ∧ goodN l) ∧ 0 < l.length := hok
  simp only [rx_R, Sy.Res.holds, Int.ofNat_eq_natCast, Sy.b_and, Sy.b_or, Sy.b_not, Sy.b_f, Sy.b_and', Sy.b_or', Sy.q_lt, Sy.q_le, Sy.q_eq, Sy.b_tt, Sy.b_ft, not_true_eq_false, not_false_eq_true]
  refine ⟨fun h => Sy.plainO_leaf (List.mem_singleton_self _) rfl ?_, fun h => ⟨⟨Int.natCast_nonneg _, ?_, ?_⟩, ⟨h1, by omega⟩, fun hT => ⟨⟨⟨h2, hT⟩, by omega⟩, fun ho => Sy.plainO_leaf (List.mem_singleton_self _) rfl ?_, fun ho => Sy.plainO_leaf (List.mem_singleton_self _) rfl ?_⟩, fun hT => Sy.plainO_leaf (List.mem_singleton_self _) rfl ?_⟩⟩
  · rw [tru_neg fun he => by have := he.2.2.1; omega]
  · show l.length * 1 ≤ _
    omega
  · show l.length ≤ _
    omega
  · rw [tru_pos (p := isExpr loc l) ⟨hT.1, h2, by omega, ho⟩]
  · rw [tru_neg fun he => ho he.2.2.2]
  · rw [tru_neg fun he => hT ⟨he.1, refs_nodup he.1 he.2.2.2⟩]
abbrev fRN : FuncId := 139
noncomputable def bodyV : Code := Sy.loopBody Tryz.f139 0
noncomputable def needV (l : List Nd) (k : Nat) : List Value := (List.range l.length).map fun j => Value.int .i64 (if j < k then ((tr l j).needs : Int) else 0)
def slV (g o c gu n k : Nat) : List (Nat × Value) := [(0, .slice (some ⟨g, o, none⟩) n c), (2, .int .i64 0), (3, .slice (some ⟨gu, 0, none⟩) n n), (4, .int .i64 k)]
def v1_o : Sy.O := (Sy.O.steps [0] (Sy.O.fork (Sy.O.steps [0, 1, 0, 0, 1, 1, 1, 1, 1, 1, 0, 0, 0, 0, 1, 2, 0, 1, 0, 0, 0] (Sy.O.fork (Sy.O.steps [0, 0, 0, 0, 1, 0, 2, 1, 1, 1, 0, 1, 2, 0, 1, 1, 0, 0, 0, 2, 0, 1, 0, 0, 0, 2, 3, 4] (Sy.O.fork (Sy.O.steps [5, 0, 6, 0, 0, 0, 0, 7, 0, 0, 1, 8, 0, 0, 1, 1, 1, 1, 9, 0, 10, 0, 11, 0, 12, 0, 0, 1, 13, 0, 0, 1, 1, 1, 1, 14, 0, 15] (Sy.O.fork (Sy.O.steps [0, 0, 0, 0, 1, 0, 2, 1, 1, 1, 0, 1, 2, 0, 1] Sy.O.nil) Sy.O.nil)) (Sy.O.steps [5, 0, 6, 0, 7, 0, 8, 0, 9, 0, 10, 0, 11, 0, 12, 0, 13, 0, 14, 0, 15, 0] Sy.O.nil))) (Sy.O.steps [1, 0, 0, 0, 2, 0, 1, 0, 0, 0, 2, 3, 4] (Sy.O.fork (Sy.O.steps [5, 0, 6, 0, 0, 0, 0, 7, 0, 0, 1, 8, 0, 0, 1, 1, 1, 1, 9, 0, 10, 0, 11, 0, 12, 0, 0, 1, 13, 0, 0, 1, 1, 1, 1, 14, 0, 15] (Sy.O.fork (Sy.O.steps [0, 0, 0, 0, 1, 0, 2, 1, 1, 1, 0, 1, 2, 0, 1] Sy.O.nil) Sy.O.nil)) (Sy.O.steps [5, 0, 6, 0, 7, 0, 8, 0, 9, 0, 10, 0, 11, 0, 12, 0, 13, 0, 14, 0, 15, 0] Sy.O.nil))))) Sy.O.nil))
noncomputable def v1_R (g : Nat) (o : Nat) (c : Nat) (gu : Nat) (n : Nat) (k : Nat) (xs : List Value) (us : List Value) (rest : List Value) (ns : Nat → Sy.Let) : Sy.Res (Exit × Nat × List Value × List Blk) :=
 let z0 := ((0 : Int) ≤ (↑k : Int) ∧ (↑k : Int) < (↑n : Int))
 let z1 := (Sy.Cont.seg o xs)
 let z2 := (o + Int.toNat (↑k : Int) * (4 : Nat))
 let z3 := (o + Int.toNat (↑k : Int) * (4 : Nat) + (1 : Nat))
 let z4 := (o + Int.toNat (↑k : Int) * (4 : Nat) + (1 : Nat) + (1 : Nat))
 let z5 := (o + Int.toNat (↑k : Int) * (4 : Nat) + (1 : Nat) + (1 : Nat) + (1 : Nat))
 let z6 := ((0 : Nat) + Int.toNat (↑k : Int) * (1 : Nat))
 let z7 := (List.set us z6 (Value.int IntKind.i64 (1 : Int)))
 let z8 := (Sy.Cont.row (3 : Nat) (1 : Nat) n n z7)
 let z9 := ((0 : Nat) + Int.toNat (↑k : Int) * (1 : Nat) < List.length z7)
 let z10 := (some (Addr.mk g o none))
 let z11 := (some (Addr.mk gu (0 : Nat) none))
 let z12 := [Value.slice z10 n c, Value.int IntKind.i64 (0 : Int), Value.slice z11 n n, Value.int IntKind.i64 (Ex.wrapQ IntKind.i64 (Ex.addQ (↑k : Int) (1 : Int)))]
 let z13 := (Let.n (ns 4))
 Sy.Res.br (Ex.ltQ (↑k : Int) (Int.ofNat n)) (Sy.Res.need z0 (Sy.Res.need (∃ (i : Int), Sy.Cont.at z1 z2 = some (Value.int IntKind.i64 i)) (Sy.Res.hyp (Sy.Cont.at z1 z2 = some (Value.int IntKind.i64 (Let.i (ns 0)))) (Sy.Res.need (∃ (i : Int), Sy.Cont.at z1 z3 = some (Value.int IntKind.u64 i)) (Sy.Res.hyp (Sy.Cont.at z1 z3 = some (Value.int IntKind.u64 (Let.i (ns 1)))) (Sy.Res.need (∃ (i : Int), Sy.Cont.at z1 z4 = some (Value.int IntKind.i64 i)) (Sy.Res.hyp (Sy.Cont.at z1 z4 = some (Value.int IntKind.i64 (Let.i (ns 2)))) (Sy.Res.need (∃ (i : Int), Sy.Cont.at z1 z5 = some (Value.int IntKind.i64 i)) (Sy.Res.hyp (Sy.Cont.at z1 z5 = some (Value.int IntKind.i64 (Let.i (ns 3)))) (Sy.Res.need z0 (Sy.Res.need ((0 : Nat) + Int.toNat (↑k : Int) * (1 : Nat) < List.length us) (Sy.Res.br (Ex.leQ (3 : Int) (Let.i (ns 0))) (Sy.Res.need ((0 : Int) ≤ Let.i (ns 2) ∧ Let.i (ns 2) < (↑n : Int)) (Sy.Res.need (∃ (i : Int), Sy.Cont.at z8 ((0 : Nat) + Int.toNat (Let.i (ns 2)) * (1 : Nat)) = some (Value.int IntKind.i64 i)) (Sy.Res.hyp (Sy.Cont.at z8 ((0 : Nat) + Int.toNat (Let.i (ns 2)) * (1 : Nat)) = some (Value.int IntKind.i64 (Let.i (ns 5)))) (Sy.Res.need z0 (Sy.Res.need z9 (Sy.Res.br (Ex.leQ (6 : Int) (Let.i (ns 0))) (Sy.Res.need ((0 : Int) ≤ Let.i (ns 3) ∧ Let.i (ns 3) < (↑n : Int)) (Sy.Res.need (∃ (i : Int), Sy.Cont.at (Sy.Cont.row (3 : Nat) (1 : Nat) n n (List.set z7 z6 (Value.int IntKind.i64 (Let.i (ns 5))))) ((0 : Nat) + Int.toNat (Let.i (ns 3)) * (1 : Nat)) = some (Value.int IntKind.i64 i))
 (Sy.Res.hyp (Sy.Cont.at (Sy.Cont.row (3 : Nat) (1 : Nat) n n (List.set z7 z6 (Value.int IntKind.i64 (Let.i (ns 5))))) ((0 : Nat) + Int.toNat (Let.i (ns 3)) * (1 : Nat)) = some (Value.int IntKind.i64 (Let.i (ns 6)))) (Sy.Res.need z0 (Sy.Res.need (∃ (i : Int), Sy.Cont.at (Sy.Cont.row (3 : Nat) (1 : Nat) n n (List.set z7 z6 (Value.int IntKind.i64 (Let.i (ns 5))))) z6 = some (Value.int IntKind.i64 i)) (Sy.Res.hyp (Sy.Cont.at (Sy.Cont.row (3 : Nat) (1 : Nat) n n (List.set z7 z6 (Value.int IntKind.i64 (Let.i (ns 5))))) z6 = some (Value.int IntKind.i64 (Let.i (ns 7)))) (Sy.Res.br (bif true then Ex.ltQ (Let.i (ns 7)) (Ex.wrapQ IntKind.i64 (Ex.addQ (Let.i (ns 6)) (1 : Int))) else false) (Sy.Res.need ((0 : Int) ≤ Let.i (ns 3) ∧ Let.i (ns 3) < (↑n : Int)) (Sy.Res.need (∃ (i : Int), Sy.Cont.at (Sy.Cont.row (3 : Nat) (1 : Nat) n n (List.set z7 z6 (Value.int IntKind.i64 (Let.i (ns 5))))) ((0 : Nat) + Int.toNat (Let.i (ns 3)) * (1 : Nat)) = some (Value.int IntKind.i64 i)) (Sy.Res.hyp (Sy.Cont.at (Sy.Cont.row (3 : Nat) (1 : Nat) n n (List.set z7 z6 (Value.int IntKind.i64 (Let.i (ns 5))))) ((0 : Nat) + Int.toNat (Let.i (ns 3)) * (1 : Nat)) = some (Value.int IntKind.i64 (Let.i (ns 8)))) (Sy.Res.need z0 (Sy.Res.need ((0 : Nat) + Int.toNat (↑k : Int) * (1 : Nat) < List.length (List.set z7 z6 (Value.int IntKind.i64 (Let.i (ns 5))))) (Sy.Res.leaf (Exit.normal, (64 : Nat), z12, [Blk.mk z13 (Sy.Cont.obj (Obj.cells (Array.mk [Value.int IntKind.i64 (Let.i (ns 0)), Value.int IntKind.u64 (Let.i (ns 1)),
 Value.int IntKind.i64 (Let.i (ns 2)), Value.int IntKind.i64 (Let.i (ns 3))]) (127 : Nat))) true, Blk.mk g z1 false, Blk.mk gu (Sy.Cont.row (3 : Nat) (1 : Nat) n n (List.set (List.set z7 z6 (Value.int IntKind.i64 (Let.i (ns 5)))) z6 (Value.int IntKind.i64 (Ex.wrapQ IntKind.i64 (Ex.addQ (Let.i (ns 8)) (1 : Int)))))) true]))))))) (Sy.Res.leaf (Exit.normal, (64 : Nat), z12, [Blk.mk z13 (Sy.Cont.obj (Obj.cells (Array.mk [Value.int IntKind.i64 (Let.i (ns 0)), Value.int IntKind.u64 (Let.i (ns 1)), Value.int IntKind.i64 (Let.i (ns 2)), Value.int IntKind.i64 (Let.i (ns 3))]) (127 : Nat))) true, Blk.mk g z1 false, Blk.mk gu (Sy.Cont.row (3 : Nat) (1 : Nat) n n (List.set z7 z6 (Value.int IntKind.i64 (Let.i (ns 5))))) true]))))))))) (Sy.Res.leaf (Exit.normal, (64 : Nat), z12, [Blk.mk z13 (Sy.Cont.obj (Obj.cells (Array.mk [Value.int IntKind.i64 (Let.i (ns 0)), Value.int IntKind.u64 (Let.i (ns 1)), Value.int IntKind.i64 (Let.i (ns 2)), Value.int IntKind.i64 (Let.i (ns 3))]) (127 : Nat))) true, Blk.mk g z1 false, Blk.mk gu (Sy.Cont.row (3 : Nat) (1 : Nat) n n (List.set z7 z6 (Value.int IntKind.i64 (Let.i (ns 5))))) true])))))))) (Sy.Res.br (Ex.leQ (6 : Int) (Let.i (ns 0))) (Sy.Res.need ((0 : Int) ≤ Let.i (ns 3) ∧ Let.i (ns 3) < (↑n : Int)) (Sy.Res.need (∃ (i : Int), Sy.Cont.at z8 ((0 : Nat) + Int.toNat (Let.i (ns 3)) * (1 : Nat)) = some (Value.int IntKind.i64 i)) (Sy.Res.hyp (Sy.Cont.at z8 ((0 : Nat) + Int.toNat (Let.i (ns 3)) * (1 : Nat)) = some (Value.int IntKind.i64 (Let.i (ns 5))))
 (Sy.Res.need z0 (Sy.Res.need (∃ (i : Int), Sy.Cont.at z8 z6 = some (Value.int IntKind.i64 i)) (Sy.Res.hyp (Sy.Cont.at z8 z6 = some (Value.int IntKind.i64 (Let.i (ns 6)))) (Sy.Res.br (bif true then Ex.ltQ (Let.i (ns 6)) (Ex.wrapQ IntKind.i64 (Ex.addQ (Let.i (ns 5)) (1 : Int))) else false) (Sy.Res.need ((0 : Int) ≤ Let.i (ns 3) ∧ Let.i (ns 3) < (↑n : Int)) (Sy.Res.need (∃ (i : Int), Sy.Cont.at z8 ((0 : Nat) + Int.toNat (Let.i (ns 3)) * (1 : Nat)) = some (Value.int IntKind.i64 i)) (Sy.Res.hyp (Sy.Cont.at z8 ((0 : Nat) + Int.toNat (Let.i (ns 3)) * (1 : Nat)) = some (Value.int IntKind.i64 (Let.i (ns 7)))) (Sy.Res.need z0 (Sy.Res.need z9 (Sy.Res.leaf (Exit.normal, (64 : Nat), z12, [Blk.mk z13 (Sy.Cont.obj (Obj.cells (Array.mk [Value.int IntKind.i64 (Let.i (ns 0)), Value.int IntKind.u64 (Let.i (ns 1)), Value.int IntKind.i64 (Let.i (ns 2)), Value.int IntKind.i64 (Let.i (ns 3))]) (127 : Nat))) true, Blk.mk g z1 false, Blk.mk gu (Sy.Cont.row (3 : Nat) (1 : Nat) n n (List.set z7 z6 (Value.int IntKind.i64 (Ex.wrapQ IntKind.i64 (Ex.addQ (Let.i (ns 7)) (1 : Int)))))) true]))))))) (Sy.Res.leaf (Exit.normal, (64 : Nat), z12, [Blk.mk z13 (Sy.Cont.obj (Obj.cells (Array.mk [Value.int IntKind.i64 (Let.i (ns 0)), Value.int IntKind.u64 (Let.i (ns 1)), Value.int IntKind.i64 (Let.i (ns 2)), Value.int IntKind.i64 (Let.i (ns 3))]) (127 : Nat))) true, Blk.mk g z1 false, Blk.mk gu z8 true]))))))))) (Sy.Res.leaf (Exit.normal, (64 : Nat), z12, [Blk.mk z13 (Sy.Cont.obj (Obj.cells (Array.mk [Value.int
 IntKind.i64 (Let.i (ns 0)), Value.int IntKind.u64 (Let.i (ns 1)), Value.int IntKind.i64 (Let.i (ns 2)), Value.int IntKind.i64 (Let.i (ns 3))]) (127 : Nat))) true, Blk.mk g z1 false, Blk.mk gu z8 true]))))))))))))))) (Sy.Res.leaf (Exit.exit (0 : Nat), (64 : Nat), [Value.slice z10 n c, Value.int IntKind.i64 (0 : Int), Value.slice z11 n n, Value.int IntKind.i64 (↑k : Int)], [Blk.mk g z1 false, Blk.mk gu (Sy.Cont.row (3 : Nat) (1 : Nat) n n us) true]))
theorem v1_run (g o c gu n k : Nat) (xs us : List Value) (rest : List Value) : Sy.Ran (Sy.pieceT Tryz.prog Sy.S0 50 fRN bodyV 64 (slV g o c gu n k) rest [⟨g, .seg o xs, false⟩, ⟨gu, .row tInt 1 n n us, true⟩] [0, 2, 3, 4]) v1_o (v1_R g o c gu n k xs us rest) := ⟨fun ns => by kernel_rfl, fun ns => by kernel_rfl⟩
theorem needV_length (l : List Nd) (k : Nat) : (needV l k).length = l.length := by simp [needV]
theorem needV_zero (l : List Nd) : needV l 0 = List.replicate l.length (.int .i64 0) := by
  apply List.ext_getElem
  · simp [needV]
  · intro i h1 h2
    simp [needV]
theorem needV_get {l : List Nd} {k a : Nat} (h : a < l.length) : (needV l k)[a]? = some (.int .i64 (if a < k then ((tr l a).needs : Int) else 0)) := by simp [needV, h]
theorem needV_at {l : List Nd} {k a : Nat} (hk : k ≤ l.length) (h : a < k) (v : Value) (e : TypeId) (s m c : Nat) : (Sy.Cont.row e s m c ((needV l k).set (0 + k * 1) v)).at (0 + a * 1) = some (.int .i64 (tr l a).needs) := by
  show ((needV l k).set (0 + k * 1) v)[0 + a * 1]? = _
  rw [Nat.zero_add, Nat.mul_one, Nat.zero_add, Nat.mul_one, List.getElem?_set, if_neg (by omega), needV_get (by omega), if_pos h]
theorem needV_self {l : List Nd} {k : Nat} (h : k < l.length) (v : Value) (e : TypeId) (s m c : Nat) : (Sy.Cont.row e s m c ((needV l k).set (0 + k * 1) v)).at (0 + k * 1) = some v := by
  show ((needV l k).set (0 + k * 1) v)[0 + k * 1]? = _
  rw [Nat.zero_add, Nat.mul_one, List.getElem?_set, if_pos rfl, needV_length, if_pos h]
theorem needV_set {l : List Nd} {k : Nat} (h : k < l.length) : (needV l k).set (0 + k * 1) (.int .i64 (tr l k).needs) = needV l (k + 1) := by
  rw [Nat.zero_add, Nat.mul_one]
  apply List.ext_getElem?
  intro j
  rw [List.getElem?_set]
  by_cases hj : j < l.length
  · rw [needV_get hj, needV_length]
    split
    · rename_i e
      subst e
      rw [needV_get hj, if_pos (by omega)]
    · rename_i e
      rw [needV_get hj]
      by_cases hjk : j < k
      · rw [if_pos hjk, if_pos (by omega)]
      · rw [if_neg hjk, if_neg (by omega)]
  · rw [List.getElem?_eq_none (by rw [needV_length]; omega), List.getElem?_eq_none (by rw [needV_length]; omega)]
    split
    · omega
    · rfl
theorem setN_length (l : List Nd) (k : Nat) (j : Nat) (v : Value) : ((needV l k).set j v).length = l.length := by rw [List.length_set, needV_length]
noncomputable def loopV (g o c gu : Nat) (l : List Nd) : Sy.LoopC :=
  ⟨.loop bodyV, 64, slV g o c gu l.length 0, isExpr 24 l, ⟨[(g, .seg o (ndCells l))], [(gu, .row tInt 1 l.length l.length (List.replicate l.length (.int .i64 0)))], 0, []⟩,
    [(⟨fun _ => True, fun _ => [(gu, .row tInt 1 l.length l.length (needV l l.length))], fun _ => []⟩, .exit 0, fun _ => [(0, .slice (some ⟨g, o, none⟩) l.length c), (2, .int .i64 0), (3, .slice (some ⟨gu, 0, none⟩) l.length l.length)])]⟩
theorem loopV_met (g o c gu : Nat) (l : List Nd) : Sy.MeetsL Tryz.prog (loopV g o c gu l) := by
  refine Sy.loop_of (n := 50) (fn := fRN) Sy.S0_holds mixed (body := bodyV) rfl [0, 2, 3, 4] (fun k : Nat => slV g o c gu l.length k) (fun k => [⟨g, .seg o (ndCells l), false⟩, ⟨gu, .row tInt 1 l.length l.length (needV l k), true⟩])
    (fun k => k ≤ l.length) (fun k => l.length - k)
    0 (fun h => Nat.zero_le _) (fun p hp => hp) [0, 1] (by decide) (by rw [needV_zero]; rfl) (o := fun _ => v1_o) (R := fun k xs => v1_R g o c gu l.length k (ndCells l) (needV l k) xs) (fun k xs _ => v1_run g o c gu l.length k (ndCells l) (needV l k) xs) ?_
  rintro hE k rest hk ns
  have hok := hE.1
  have hm := hE.2.2.1
  simp only [v1_R, Sy.Res.holds, Int.ofNat_eq_natCast, Sy.b_and, Sy.b_or, Sy.b_not, Sy.b_f, Sy.b_and', Sy.b_or', Sy.q_lt, Sy.q_le, Sy.q_eq, Sy.b_tt, Sy.b_ft, not_true_eq_false, not_false_eq_true, List.set_set, Int.toNat_natCast, setN_length, needV_length]
  refine ⟨fun hlt => ?_, fun hge => ?_⟩
  · have hlt : k < l.length := by omega
    have ea : l[k]? = some l[k] := List.getElem?_eq_getElem hlt
    obtain ⟨a0, a1, a2, a3⟩ := nd_at ea o
    rw [Int.toNat_natCast] at a0 a1 a2 a3
    simp only [a0, a1, a2, a3, some_int, some_bool, exists_eq', true_and]
    generalize l[k] = x at *
    refine ⟨by omega, fun h0 h1 h2 h3 => ⟨by omega, by omega, ?_⟩⟩
    simp only [← h0, ← h1, ← h2, ← h3]
    have hx := hok k x ea
    have inc := Sy.inc_q k (by omega)
    have fin : ∀ B v, v = ((tr l k).needs : Int) → Sy.leafL (loopV g o c gu l) [0, 2, 3, 4] (fun k : Nat => slV g o c gu l.length k) (fun k => [⟨g, .seg o (ndCells l), false⟩, ⟨gu, .row tInt 1 l.length l.length (needV l k), true⟩])
        (fun k => k ≤ l.length) (fun k => l.length - k) k (Exit.normal, 64, [.slice (some ⟨g, o, none⟩) l.length c, .int .i64 0, .slice (some ⟨gu, 0, none⟩) l.length l.length, .int .i64 (Ex.wrapQ IntKind.i64 (Ex.addQ (↑k : Int) 1))],
          [B, ⟨g, .seg o (ndCells l), false⟩, ⟨gu, .row tInt 1 l.length l.length ((needV l k).set (0 + k * 1) (.int .i64 v)), true⟩]) := fun B v hv => by
      rw [hv, needV_set hlt]
      exact Sy.leafL_next (k + 1) rfl (show k + 1 ≤ l.length by omega) (by show l.length - (k + 1) < l.length - k; omega) (by rw [inc]; rfl) [1, 2] (by decide) rfl
    refine ⟨fun c3 => ?_, fun c3 => ⟨fun c6 => absurd c6 (by omega), fun _ => fin _ _ ?_⟩⟩
    · have ha := ok_a hx c3
      simp only [needV_at hk (show x.a.toNat < k by omega), needV_self hlt, some_int, some_bool, exists_eq', true_and]
      refine ⟨by omega, fun h5 => ⟨by omega, by omega, ?_⟩⟩
      rw [← h5]
      refine ⟨fun c6 => ?_, fun c6 => fin _ _ ?_⟩
      · have hb := ok_b hx c6
        simp only [needV_at hk (show x.b.toNat < k by omega), some_int, some_bool, exists_eq', true_and]
        have hbs := tr_small hE (i := x.b.toNat) (by omega)
        have hbn := (tr l x.b.toNat).needs_le
        refine ⟨by omega, fun h6 => ⟨by omega, fun h7 => ?_⟩⟩
        have hq := Sy.inc_q (tr l x.b.toNat).needs (by omega)
        rw [← h6, ← h7, hq]
        refine ⟨fun hc => ⟨by omega, fun h8 => ⟨by omega, by omega, ?_⟩⟩, fun hc => fin _ _ ?_⟩
        · rw [← h8, hq]
          refine fin _ _ ?_
          rw [tr_bin ea c6 (by omega) (by omega)]
          simp only [E.needs]
          omega
        · rw [tr_bin ea c6 (by omega) (by omega)]
          simp only [E.needs]
          omega
      · rw [tr_un ea c3 (by omega) (by omega)]; rfl
    · by_cases h1 : x.op ≤ 1
      · rw [tr_num ea h1]; rfl
      · rw [tr_loc ea (by omega)]; rfl
  · have hkl : k = l.length := by omega
    subst hkl
    exact Sy.leafL_end 0 rfl rfl (by simp) rfl [] rfl [0, 1, 2] rfl [1] (by decide) ⟨⟨rfl, rfl, .inl rfl⟩, trivial⟩ trivial
end Go.Proofs.YtlpcnaeknbmjdaaGreat.Lw

namespace Go.Proofs.YtlpcnaeknbmjdaaGreat.Lw
set_option linter.unusedVariables false
set_option linter.unusedSimpArgs false
open Go Go.RowKit
open Go.Proofs.YtlpcnaeknbmjdaaGreat.Sy (Let Blk)
noncomputable def rnC (g o c : Nat) (l : List Nd) : Sy.CallC := ⟨fRN, #[.slice (some ⟨g, o, none⟩) l.length c], isExpr 24 l, ⟨[(g, .seg o (ndCells l))], [], 0, []⟩, [Sy.plainO (.int .i64 (tr l (l.length - 1)).needs)]⟩
noncomputable def ctxRN (g o c : Nat) (l : List Nd) : Sy.Ctx := Sy.mkS [] [(fRN, fun a _ => loopV g o c (Sy.ptrN (a.get 3)) l)] []
def rn_o : Sy.O := (Sy.O.steps [0, 1, 1, 0, 1, 0, 0, 0, 0, 0, 0, 0, 0, 1, 0, 0, 1, 1, 1] Sy.O.nil)
noncomputable def rn_R (g : Nat) (o : Nat) (c : Nat) (l : List Nd) (ns : Nat → Sy.Let) : Sy.Res (Value × List Blk) :=
 let z0 := (List.length l)
 let z1 := (Int.ofNat z0)
 let z2 := (Ex.subQ' z1 (1 : Int))
 let z3 := (Sy.Cont.row (3 : Nat) (1 : Nat) z0 z0 (needV l z0))
 let z4 := ((0 : Nat) + Int.toNat (Ex.wrapQ IntKind.i64 z2) * (1 : Nat))
 Sy.Res.need ((0 : Int) ≤ Int.ofNat z0 ∧ Int.toNat z1 * (8 : Nat) ≤ (281474976710656 : Nat) ∧ Int.toNat z1 ≤ (9223372036854775807 : Nat)) (Sy.Res.need (nodesOk (24 : Int) l ∧ (0 : Nat) < List.length l ∧ List.length l ≤ (65536 : Nat) ∧ onceOk l) (Sy.Res.hyp True (Sy.Res.need ((0 : Int) ≤ Ex.wrapQ IntKind.i64 z2 ∧ Ex.wrapQ IntKind.i64 z2 < (↑z0 : Int)) (Sy.Res.need (∃ (i : Int), Sy.Cont.at z3 z4 = some (Value.int IntKind.i64 i)) (Sy.Res.hyp (Sy.Cont.at z3 z4 = some (Value.int IntKind.i64 (Let.i (ns 2)))) (Sy.Res.leaf (Value.int IntKind.i64 (Let.i (ns 2)), [])))))))
theorem rn_run (g o c : Nat) (l : List Nd) : Sy.Ran (Sy.inT Tryz.prog (ctxRN g o c l) 50 fRN (rnC g o c l).args (Sy.blks (rnC g o c l).mem) Sy.noB) rn_o (rn_R g o c l) := ⟨fun ns => by kernel_rfl, fun ns => by kernel_rfl⟩
theorem rnC_met (g o c : Nat) (l : List Nd) : Sy.Meets Tryz.prog (rnC g o c l) := by
  have HS : (ctxRN g o c l).holds Tryz.prog := Sy.mkS_holds (fun _ h => (by cases h)) (fun p hp a L => by
    rcases List.mem_singleton.1 hp with rfl
    exact loopV_met _ _ _ _ _) (fun _ h => (by cases h))
  refine Sy.meets_of HS mixed (rn_run g o c l) fun hok ns => ?_
  have hE : isExpr 24 l := hok
  have hpos := hE.2.1
  have hm := hE.2.2.1
  have e : l.length - 1 < l.length := by omega
  have at' : (Sy.Cont.row tInt 1 l.length l.length (needV l l.length)).at (0 + (l.length - 1) * 1) = some (.int .i64 (tr l (l.length - 1)).needs) := by
    show (needV l l.length)[0 + (l.length - 1) * 1]? = _
    rw [Nat.zero_add, Nat.mul_one, needV_get e, if_pos e]
  simp only [rn_R, Sy.Res.holds, Int.ofNat_eq_natCast, Sy.b_and, Sy.b_or, Sy.b_not, Sy.b_f, Sy.b_and', Sy.b_or', Sy.q_lt, Sy.q_le, Sy.q_eq, Sy.b_tt, Sy.b_ft, not_true_eq_false, not_false_eq_true, dec_q l.length hpos (by omega), Int.toNat_natCast, at', some_int, some_bool, exists_eq', true_and]
  refine ⟨⟨Int.natCast_nonneg _, ?_, ?_⟩, hE, fun _ => ⟨by omega, fun h => Sy.plainO_leaf (List.mem_singleton_self _) rfl (by rw [← h])⟩⟩
  · show l.length * 8 ≤ _
    omega
  · show l.length ≤ _
    omega
abbrev fLay : FuncId := 140
abbrev fRNum : FuncId := 138
noncomputable def rlayA (g o c : Nat) (l : List Nd) (i0 : Nat) (gl n cap : Nat) (xs : List Value) (i t : Int) : Sy.CallC :=
  ⟨fLay, #[.slice (some ⟨gl, 0, none⟩) n cap, .slice (some ⟨g, o, none⟩) l.length c, .int .i64 i, .int .i64 t], ((isExpr 24 l ∧ goodN l) ∧ n + (lay (tr l i.toNat) t).length ≤ 900000) ∧ 0 ≤ i ∧ i < l.length ∧ i < i0 ∧ 24 ≤ t ∧ t + (tr l i.toNat).needs ≤ 29,
   ⟨[(g, .seg o (ndCells l))], [(gl, .row tI 6 n cap xs)], 2, []⟩, [Sy.rowO tI 6 (n + (lay (tr l i.toNat) t).length) (xs ++ insCells (lay (tr l i.toNat) t)) id]⟩
noncomputable def rlay0 (g o c : Nat) (l : List Nd) (i0 : Nat) (i t : Int) : Sy.CallC :=
  ⟨fLay, #[.slice none 0 0, .slice (some ⟨g, o, none⟩) l.length c, .int .i64 i, .int .i64 t], (isExpr 24 l ∧ goodN l) ∧ 0 ≤ i ∧ i < l.length ∧ i < i0 ∧ 24 ≤ t ∧ t + (tr l i.toNat).needs ≤ 29,
   ⟨[(g, .seg o (ndCells l))], [], 2, []⟩, [Sy.rowO tI 6 (lay (tr l i.toNat) t).length (insCells (lay (tr l i.toNat) t)) id]⟩
def Sy.lenV (v : Value) : Nat := match v with
  | .slice _ n _ => n
  | _ => 0
def Sy.firstRow : List Blk → List Value
  | [] => []
  | b :: L => match b.ct with
    | .row _ _ _ _ xs => xs
    | _ => Sy.firstRow L
noncomputable def ctxY (g o c : Nat) (l : List Nd) (i0 : Nat) : Sy.Ctx := Sy.mkS [(fLay, fun a L => rlay0 g o c l i0 (Sy.argI a 2) (Sy.argI a 3)), (fLay, fun a L => rlayA g o c l i0 (Sy.ptrN (Sy.argV a 0)) (Sy.lenV (Sy.argV a 0)) (Sy.capN (Sy.argV a 0)) (Sy.firstRow L) (Sy.argI a 2) (Sy.argI a 3)),
  (fRNum, fun a _ => rnum0 (Sy.argI a 1) (Sy.argI a 2)), (fRNum, fun a L => rnumA (Sy.ptrN (Sy.argV a 0)) (Sy.lenV (Sy.argV a 0)) (Sy.capN (Sy.argV a 0)) (Sy.firstRow L) (Sy.argI a 1) (Sy.argI a 2)),
  (fPlain, fun a _ => plC (Sy.argI a 0)), (fCond, fun a _ => cdC (Sy.argI a 0))] [] []
def la_o : Sy.O := (Sy.O.steps [0, 1, 0, 0, 1, 1, 1, 1, 1, 1, 0, 0, 0, 0, 0, 0] (Sy.O.fork (Sy.O.steps [0, 0, 0, 1, 2, 0, 0, 0, 0] Sy.O.nil) (Sy.O.steps [0, 0, 0] (Sy.O.fork (Sy.O.steps [0, 0, 0, 0, 0, 0, 3, 0, 1, 1, 0, 0, 2, 0, 0, 0, 0] Sy.O.nil) (Sy.O.steps [0, 0, 0, 1, 1, 0, 1, 0, 0, 0, 0, 0, 2, 0] (Sy.O.fork (Sy.O.steps [0, 0, 0, 1, 0, 1, 1, 0, 0, 0, 0, 0, 0, 0] Sy.O.nil) (Sy.O.fork (Sy.O.steps [0, 0, 0, 1, 0, 1, 1, 0, 0, 0, 0, 0, 0, 0] Sy.O.nil) (Sy.O.fork (Sy.O.steps [0, 0, 0, 1, 0, 1, 1, 0, 0, 0, 0, 0, 0, 0] Sy.O.nil) (Sy.O.steps [0, 2, 0, 1, 1, 0, 0, 0, 0, 0, 0, 0, 2, 0, 0, 0, 0, 0] (Sy.O.fork (Sy.O.steps [0, 2, 0, 0, 0, 0, 0, 0, 0, 0, 1, 0, 1, 1, 0, 0, 0, 0, 0, 0, 0] Sy.O.nil) (Sy.O.steps [0, 2, 0, 0, 0, 0, 0, 0, 0, 0, 1, 0, 1, 1, 0, 0, 0, 0, 0, 0, 0] Sy.O.nil)))))))))))
noncomputable def la_R (g : Nat) (o : Nat) (c : Nat) (l : List Nd) (gl : Nat) (n : Nat) (cap : Nat) (xs : List Value) (i : Int) (t : Int) (i0 : Nat) (ns : Nat → Sy.Let) : Sy.Res (Value × List Blk) :=
 let z0 := (Sy.Cont.seg o (ndCells l))
 let z1 := (o + Int.toNat i * (4 : Nat))
 let z2 := (Let.i (ns 0))
 let z3 := (o + Int.toNat i * (4 : Nat) + (1 : Nat))
 let z4 := (Let.i (ns 1))
 let z5 := (o + Int.toNat i * (4 : Nat) + (1 : Nat) + (1 : Nat))
 let z6 := (o + Int.toNat i * (4 : Nat) + (1 : Nat) + (1 : Nat) + (1 : Nat))
 let z7 := (n + List.length (numL t z4))
 let z8 := (Let.n (ns 6))
 let z9 := (n + (1 : Nat))
 let z10 := (Let.n (ns 7))
 let z11 := (isExpr (24 : Int) l ∧ goodN l)
 let z12 := (tr l (Int.toNat (Let.i (ns 2))))
 let z13 := (lay z12 t)
 let z14 := (n + List.length z13 + (1 : Nat) ≤ (9223372036854775807 : Nat))
 let z15 := (n + List.length z13 + (1 : Nat))
 let z16 := (z15 * (48 : Nat) ≤ (140737488355328 : Nat))
 let z17 := (Let.n (ns 9))
 let z18 := (Let.n (ns 8))
 let z19 := (some (Addr.mk z18 (0 : Nat) none))
 let z20 := (List.append xs (insCells z13))
 let z21 := (n + List.length z13 + (2 : Nat))
 let z22 := (tr l (Int.toNat (Let.i (ns 3))))
 let z23 := (Ex.addQ t (1 : Int))
 let z24 := (Ex.wrapQ IntKind.i64 z23)
 let z25 := (lay z22 z24)
 let z26 := (n + List.length z13 + List.length z25 + (1 : Nat))
 let z27 := (Let.n (ns 11))
 let z28 := (Let.n (ns 10))
 let z29 := (some (Addr.mk z28 (0 : Nat) none))
 let z30 := (List.append z20 (insCells z25))
 let z31 := (n + List.length z13 + List.length z25 + (2 : Nat))
 Sy.Res.need ((0 : Int) ≤ i ∧ i < (↑(List.length l) : Int)) (Sy.Res.need (∃ (i_1 : Int), Sy.Cont.at z0 z1 = some (Value.int IntKind.i64 i_1)) (Sy.Res.hyp (Sy.Cont.at z0 z1 = some (Value.int IntKind.i64 z2)) (Sy.Res.need (∃ (i_1 : Int), Sy.Cont.at z0 z3 = some (Value.int IntKind.u64 i_1)) (Sy.Res.hyp (Sy.Cont.at z0 z3 = some (Value.int IntKind.u64 z4)) (Sy.Res.need (∃ (i_1 : Int), Sy.Cont.at z0 z5 = some (Value.int IntKind.i64 i_1)) (Sy.Res.hyp (Sy.Cont.at z0 z5 = some (Value.int IntKind.i64 (Let.i (ns 2)))) (Sy.Res.need (∃ (i_1 : Int), Sy.Cont.at z0 z6 = some (Value.int IntKind.i64 i_1)) (Sy.Res.hyp (Sy.Cont.at z0 z6 = some (Value.int IntKind.i64 (Let.i (ns 3)))) (Sy.Res.br (Ex.eqQ z2 (1 : Int)) (Sy.Res.need (goodU z4 ∧ n ≤ (1000000 : Nat)) (Sy.Res.hyp (Nat.le z7 z8) (Sy.Res.leaf (Value.slice (some (Addr.mk (Let.n (ns 5)) (0 : Nat) none)) z7 z8, [Blk.mk (Let.n (ns 5)) (Sy.Cont.row (49 : Nat) (6 : Nat) z7 z8 (List.append xs (insCells (numL t z4)))) true])))) (Sy.Res.br (Ex.eqQ z2 (2 : Int)) (Sy.Res.need (n + (1 : Nat) ≤ (9223372036854775807 : Nat)) (Sy.Res.need (z9 * (48 : Nat) ≤ (140737488355328 : Nat)) (Sy.Res.hyp (Nat.le z9 z10) (Sy.Res.leaf (Value.slice (some (Addr.mk z8 (0 : Nat) none)) z9 z10, [Blk.mk z8 (Sy.Cont.row (49 : Nat) (6 : Nat) z9 z10 (List.append xs [Value.int IntKind.i64 (6 : Int), Value.int IntKind.i64 t, Value.int IntKind.i64 (31 : Int), Value.int IntKind.i64 (Ex.wrapQ IntKind.i64 z4), Value.int IntKind.i64 (0 : Int), Value.int IntKind.i64 (0 : Int)]))
 true]))))) (Sy.Res.need ((z11 ∧ n + List.length z13 ≤ (900000 : Nat)) ∧ (0 : Int) ≤ Let.i (ns 2) ∧ Let.i (ns 2) < (↑(List.length l) : Int) ∧ Let.i (ns 2) < (↑i0 : Int) ∧ (24 : Int) ≤ t ∧ t + (↑(E.needs z12) : Int) ≤ (29 : Int)) (Sy.Res.hyp (Nat.le (n + List.length z13) z8) (Sy.Res.br (Ex.eqQ z2 (3 : Int)) (Sy.Res.need z14 (Sy.Res.need z16 (Sy.Res.hyp (Nat.le z15 z17) (Sy.Res.leaf (Value.slice z19 z15 z17, [Blk.mk z18 (Sy.Cont.row (49 : Nat) (6 : Nat) z15 z17 (List.append z20 [Value.int IntKind.i64 (4 : Int), Value.int IntKind.i64 t, Value.int IntKind.i64 (31 : Int), Value.int IntKind.i64 t, Value.int IntKind.i64 (0 : Int), Value.int IntKind.i64 (0 : Int)])) true]))))) (Sy.Res.br (Ex.eqQ z2 (4 : Int)) (Sy.Res.need z14 (Sy.Res.need z16 (Sy.Res.hyp (Nat.le z15 z17) (Sy.Res.leaf (Value.slice z19 z15 z17, [Blk.mk z18 (Sy.Cont.row (49 : Nat) (6 : Nat) z15 z17 (List.append z20 [Value.int IntKind.i64 (8 : Int), Value.int IntKind.i64 t, Value.int IntKind.i64 (31 : Int), Value.int IntKind.i64 t, Value.int IntKind.i64 (0 : Int), Value.int IntKind.i64 (0 : Int)])) true]))))) (Sy.Res.br (Ex.eqQ z2 (5 : Int)) (Sy.Res.need (n + List.length z13 + (2 : Nat) ≤ (9223372036854775807 : Nat)) (Sy.Res.need (z21 * (48 : Nat) ≤ (140737488355328 : Nat)) (Sy.Res.hyp (Nat.le z21 z17) (Sy.Res.leaf (Value.slice z19 z21 z17, [Blk.mk z18 (Sy.Cont.row (49 : Nat) (6 : Nat) z21 z17 (List.append z20 [Value.int IntKind.i64 (16 : Int), Value.int IntKind.i64 (0 : Int), Value.int IntKind.i64 t, Value.int IntKind.i64
 (31 : Int), Value.int IntKind.i64 (0 : Int), Value.int IntKind.i64 (0 : Int), Value.int IntKind.i64 (17 : Int), Value.int IntKind.i64 t, Value.int IntKind.i64 (0 : Int), Value.int IntKind.i64 (0 : Int), Value.int IntKind.i64 (0 : Int), Value.int IntKind.i64 (0 : Int)])) true]))))) (Sy.Res.need ((z11 ∧ n + List.length z13 + List.length z25 ≤ (900000 : Nat)) ∧ (0 : Int) ≤ Let.i (ns 3) ∧ Let.i (ns 3) < (↑(List.length l) : Int) ∧ Let.i (ns 3) < (↑i0 : Int) ∧ (24 : Int) ≤ Ex.wrapQ IntKind.i64 z23 ∧ Ex.wrapQ IntKind.i64 z23 + (↑(E.needs z22) : Int) ≤ (29 : Int)) (Sy.Res.hyp (Nat.le (n + List.length z13 + List.length z25) z18) (Sy.Res.need True (Sy.Res.hyp True (Sy.Res.br (!Ex.eqQ (binOp z2) (0 : Int)) (Sy.Res.need True (Sy.Res.hyp True (Sy.Res.need (n + List.length z13 + List.length z25 + (1 : Nat) ≤ (9223372036854775807 : Nat)) (Sy.Res.need (z26 * (48 : Nat) ≤ (140737488355328 : Nat)) (Sy.Res.hyp (Nat.le z26 z27) (Sy.Res.leaf (Value.slice z29 z26 z27, [Blk.mk z28 (Sy.Cont.row (49 : Nat) (6 : Nat) z26 z27 (List.append z30 [Value.int IntKind.i64 (binOp z2), Value.int IntKind.i64 t, Value.int IntKind.i64 t, Value.int IntKind.i64 z24, Value.int IntKind.i64 (0 : Int), Value.int IntKind.i64 (0 : Int)])) true]))))))) (Sy.Res.need True (Sy.Res.hyp True (Sy.Res.need (n + List.length z13 + List.length z25 + (2 : Nat) ≤ (9223372036854775807 : Nat)) (Sy.Res.need (z31 * (48 : Nat) ≤ (140737488355328 : Nat)) (Sy.Res.hyp (Nat.le z31 z27) (Sy.Res.leaf (Value.slice z29 z31 z27, [Blk.mk z28
 (Sy.Cont.row (49 : Nat) (6 : Nat) z31 z27 (List.append z30 [Value.int IntKind.i64 (16 : Int), Value.int IntKind.i64 (0 : Int), Value.int IntKind.i64 t, Value.int IntKind.i64 z24, Value.int IntKind.i64 (0 : Int), Value.int IntKind.i64 (0 : Int), Value.int IntKind.i64 (17 : Int), Value.int IntKind.i64 t, Value.int IntKind.i64 (0 : Int), Value.int IntKind.i64 (0 : Int), Value.int IntKind.i64 (0 : Int), Value.int IntKind.i64 (binCond z2)])) true])))))))))))))))))))))))))))
theorem la_run (g o c : Nat) (l : List Nd) (gl n cap : Nat) (xs : List Value) (i t : Int) (i0 : Nat) : Sy.Ran (Sy.inT Tryz.prog (ctxY g o c l i0) 60 fLay (rlayA g o c l i0 gl n cap xs i t).args (Sy.blks (rlayA g o c l i0 gl n cap xs i t).mem) Sy.rowB) la_o (la_R g o c l gl n cap xs i t i0) := ⟨fun ns => by kernel_rfl, fun ns => by kernel_rfl⟩
def l0_o : Sy.O := (Sy.O.steps [0, 1, 0, 0, 1, 1, 1, 1, 1, 1, 0, 0, 0, 0, 0, 0] (Sy.O.fork (Sy.O.steps [0, 0, 0, 0, 0, 0, 0] Sy.O.nil) (Sy.O.steps [0, 0, 0] (Sy.O.fork (Sy.O.steps [0, 0, 0, 0, 0, 0, 0, 0, 0, 0, 0, 0, 0, 0] Sy.O.nil) (Sy.O.steps [0, 0, 0, 0, 1, 0, 0, 0, 0, 0, 2, 0] (Sy.O.fork (Sy.O.steps [0, 0, 0, 1, 0, 1, 1, 0, 0, 0, 0, 0, 0, 0] Sy.O.nil) (Sy.O.fork (Sy.O.steps [0, 0, 0, 1, 0, 1, 1, 0, 0, 0, 0, 0, 0, 0] Sy.O.nil) (Sy.O.fork (Sy.O.steps [0, 0, 0, 1, 0, 1, 1, 0, 0, 0, 0, 0, 0, 0] Sy.O.nil) (Sy.O.steps [0, 2, 0, 1, 1, 0, 0, 0, 0, 0, 0, 0, 2, 0, 0, 0, 0, 0] (Sy.O.fork (Sy.O.steps [0, 2, 0, 0, 0, 0, 0, 0, 0, 0, 1, 0, 1, 1, 0, 0, 0, 0, 0, 0, 0] Sy.O.nil) (Sy.O.steps [0, 2, 0, 0, 0, 0, 0, 0, 0, 0, 1, 0, 1, 1, 0, 0, 0, 0, 0, 0, 0] Sy.O.nil)))))))))))
noncomputable def l0_R (g : Nat) (o : Nat) (c : Nat) (l : List Nd) (i : Int) (t : Int) (i0 : Nat) (ns : Nat → Sy.Let) : Sy.Res (Value × List Blk) :=
 let z0 := (Sy.Cont.seg o (ndCells l))
 let z1 := (o + Int.toNat i * (4 : Nat))
 let z2 := (Let.i (ns 0))
 let z3 := (o + Int.toNat i * (4 : Nat) + (1 : Nat))
 let z4 := (Let.i (ns 1))
 let z5 := (o + Int.toNat i * (4 : Nat) + (1 : Nat) + (1 : Nat))
 let z6 := (o + Int.toNat i * (4 : Nat) + (1 : Nat) + (1 : Nat) + (1 : Nat))
 let z7 := (List.length (numL t z4))
 let z8 := (Let.n (ns 6))
 let z9 := (Let.n (ns 5))
 let z10 := (Let.n (ns 7))
 let z11 := [Value.int IntKind.i64 (6 : Int), Value.int IntKind.i64 t, Value.int IntKind.i64 (31 : Int), Value.int IntKind.i64 (Ex.wrapQ IntKind.i64 z4), Value.int IntKind.i64 (0 : Int), Value.int IntKind.i64 (0 : Int)]
 let z12 := (isExpr (24 : Int) l ∧ goodN l)
 let z13 := (tr l (Int.toNat (Let.i (ns 2))))
 let z14 := (lay z13 t)
 let z15 := (List.length z14 + (1 : Nat) ≤ (9223372036854775807 : Nat))
 let z16 := (List.length z14 + (1 : Nat))
 let z17 := (z16 * (48 : Nat) ≤ (140737488355328 : Nat))
 let z18 := (Let.n (ns 9))
 let z19 := (Let.n (ns 8))
 let z20 := (some (Addr.mk z19 (0 : Nat) none))
 let z21 := (insCells z14)
 let z22 := [Value.int IntKind.i64 (4 : Int), Value.int IntKind.i64 t, Value.int IntKind.i64 (31 : Int), Value.int IntKind.i64 t, Value.int IntKind.i64 (0 : Int), Value.int IntKind.i64 (0 : Int)]
 let z23 := [Value.int IntKind.i64 (8 : Int), Value.int IntKind.i64 t, Value.int IntKind.i64 (31 : Int), Value.int IntKind.i64 t, Value.int IntKind.i64 (0 : Int), Value.int IntKind.i64 (0 : Int)]
 let z24 := (List.length z14 + (2 : Nat))
 let z25 := [Value.int IntKind.i64 (16 : Int), Value.int IntKind.i64 (0 : Int), Value.int IntKind.i64 t, Value.int IntKind.i64 (31 : Int), Value.int IntKind.i64 (0 : Int), Value.int IntKind.i64 (0 : Int), Value.int IntKind.i64 (17 : Int), Value.int IntKind.i64 t, Value.int IntKind.i64 (0 : Int), Value.int IntKind.i64 (0 : Int), Value.int IntKind.i64 (0 : Int), Value.int IntKind.i64 (0 : Int)]
 let z26 := (tr l (Int.toNat (Let.i (ns 3))))
 let z27 := (Ex.addQ t (1 : Int))
 let z28 := (Ex.wrapQ IntKind.i64 z27)
 let z29 := (lay z26 z28)
 let z30 := (List.length z14 + List.length z29 + (1 : Nat))
 let z31 := (Let.n (ns 11))
 let z32 := (Let.n (ns 10))
 let z33 := (some (Addr.mk z32 (0 : Nat) none))
 let z34 := (List.append z21 (insCells z29))
 let z35 := [Value.int IntKind.i64 (binOp z2), Value.int IntKind.i64 t, Value.int IntKind.i64 t, Value.int IntKind.i64 z28, Value.int IntKind.i64 (0 : Int), Value.int IntKind.i64 (0 : Int)]
 let z36 := (List.length z14 + List.length z29 + (2 : Nat))
 let z37 := [Value.int IntKind.i64 (16 : Int), Value.int IntKind.i64 (0 : Int), Value.int IntKind.i64 t, Value.int IntKind.i64 z28, Value.int IntKind.i64 (0 : Int), Value.int IntKind.i64 (0 : Int), Value.int IntKind.i64 (17 : Int), Value.int IntKind.i64 t, Value.int IntKind.i64 (0 : Int), Value.int IntKind.i64 (0 : Int), Value.int IntKind.i64 (0 : Int), Value.int IntKind.i64 (binCond z2)]
 Sy.Res.need ((0 : Int) ≤ i ∧ i < (↑(List.length l) : Int)) (Sy.Res.need (∃ (i_1 : Int), Sy.Cont.at z0 z1 = some (Value.int IntKind.i64 i_1)) (Sy.Res.hyp (Sy.Cont.at z0 z1 = some (Value.int IntKind.i64 z2)) (Sy.Res.need (∃ (i_1 : Int), Sy.Cont.at z0 z3 = some (Value.int IntKind.u64 i_1)) (Sy.Res.hyp (Sy.Cont.at z0 z3 = some (Value.int IntKind.u64 z4)) (Sy.Res.need (∃ (i_1 : Int), Sy.Cont.at z0 z5 = some (Value.int IntKind.i64 i_1)) (Sy.Res.hyp (Sy.Cont.at z0 z5 = some (Value.int IntKind.i64 (Let.i (ns 2)))) (Sy.Res.need (∃ (i_1 : Int), Sy.Cont.at z0 z6 = some (Value.int IntKind.i64 i_1)) (Sy.Res.hyp (Sy.Cont.at z0 z6 = some (Value.int IntKind.i64 (Let.i (ns 3)))) (Sy.Res.br (Ex.eqQ z2 (1 : Int)) (Sy.Res.need ((0 : Int) ≤ Let.i (ns 1) ∧ Let.i (ns 1) < (18446744073709551616 : Int)) (Sy.Res.hyp (Nat.le z7 z8) (Sy.Res.leaf (Value.slice (some (Addr.mk z9 (0 : Nat) none)) z7 z8, [Blk.mk z9 (Sy.Cont.row (49 : Nat) (6 : Nat) z7 z8 (insCells (numL t z4))) true])))) (Sy.Res.br (Ex.eqQ z2 (2 : Int)) (Sy.Res.hyp (Nat.le (1 : Nat) z10) (Sy.Res.leaf (Value.slice (some (Addr.mk z8 (0 : Nat) none)) (1 : Nat) z10, [Blk.mk z8 (Sy.Cont.row (49 : Nat) (6 : Nat) (1 : Nat) z10 z11) true, Blk.mk z9 (Sy.Cont.obj (Obj.cells (Array.mk z11) (49 : Nat))) true]))) (Sy.Res.need (z12 ∧ (0 : Int) ≤ Let.i (ns 2) ∧ Let.i (ns 2) < (↑(List.length l) : Int) ∧ Let.i (ns 2) < (↑i0 : Int) ∧ (24 : Int) ≤ t ∧ t + (↑(E.needs z13) : Int) ≤ (29 : Int)) (Sy.Res.hyp (Nat.le (List.length z14) z8) (Sy.Res.br (Ex.eqQ z2 (3 :
 Int)) (Sy.Res.need z15 (Sy.Res.need z17 (Sy.Res.hyp (Nat.le z16 z18) (Sy.Res.leaf (Value.slice z20 z16 z18, [Blk.mk z19 (Sy.Cont.row (49 : Nat) (6 : Nat) z16 z18 (List.append z21 z22)) true, Blk.mk z10 (Sy.Cont.obj (Obj.cells (Array.mk z22) (49 : Nat))) true]))))) (Sy.Res.br (Ex.eqQ z2 (4 : Int)) (Sy.Res.need z15 (Sy.Res.need z17 (Sy.Res.hyp (Nat.le z16 z18) (Sy.Res.leaf (Value.slice z20 z16 z18, [Blk.mk z19 (Sy.Cont.row (49 : Nat) (6 : Nat) z16 z18 (List.append z21 z23)) true, Blk.mk z10 (Sy.Cont.obj (Obj.cells (Array.mk z23) (49 : Nat))) true]))))) (Sy.Res.br (Ex.eqQ z2 (5 : Int)) (Sy.Res.need (List.length z14 + (2 : Nat) ≤ (9223372036854775807 : Nat)) (Sy.Res.need (z24 * (48 : Nat) ≤ (140737488355328 : Nat)) (Sy.Res.hyp (Nat.le z24 z18) (Sy.Res.leaf (Value.slice z20 z24 z18, [Blk.mk z19 (Sy.Cont.row (49 : Nat) (6 : Nat) z24 z18 (List.append z21 z25)) true, Blk.mk z10 (Sy.Cont.obj (Obj.cells (Array.mk z25) (49 : Nat))) true]))))) (Sy.Res.need ((z12 ∧ List.length z14 + List.length z29 ≤ (900000 : Nat)) ∧ (0 : Int) ≤ Let.i (ns 3) ∧ Let.i (ns 3) < (↑(List.length l) : Int) ∧ Let.i (ns 3) < (↑i0 : Int) ∧ (24 : Int) ≤ Ex.wrapQ IntKind.i64 z27 ∧ Ex.wrapQ IntKind.i64 z27 + (↑(E.needs z26) : Int) ≤ (29 : Int)) (Sy.Res.hyp (Nat.le (List.length z14 + List.length z29) z19) (Sy.Res.need True (Sy.Res.hyp True (Sy.Res.br (!Ex.eqQ (binOp z2) (0 : Int)) (Sy.Res.need True (Sy.Res.hyp True (Sy.Res.need (List.length z14 + List.length z29 + (1 : Nat) ≤ (9223372036854775807 : Nat)) (Sy.Res.need
 (z30 * (48 : Nat) ≤ (140737488355328 : Nat)) (Sy.Res.hyp (Nat.le z30 z31) (Sy.Res.leaf (Value.slice z33 z30 z31, [Blk.mk z32 (Sy.Cont.row (49 : Nat) (6 : Nat) z30 z31 (List.append z34 z35)) true, Blk.mk z18 (Sy.Cont.obj (Obj.cells (Array.mk z35) (49 : Nat))) true]))))))) (Sy.Res.need True (Sy.Res.hyp True (Sy.Res.need (List.length z14 + List.length z29 + (2 : Nat) ≤ (9223372036854775807 : Nat)) (Sy.Res.need (z36 * (48 : Nat) ≤ (140737488355328 : Nat)) (Sy.Res.hyp (Nat.le z36 z31) (Sy.Res.leaf (Value.slice z33 z36 z31, [Blk.mk z32 (Sy.Cont.row (49 : Nat) (6 : Nat) z36 z31 (List.append z34 z37)) true, Blk.mk z18 (Sy.Cont.obj (Obj.cells (Array.mk z37) (49 : Nat))) true])))))))))))))))))))))))))))
theorem l0_run (g o c : Nat) (l : List Nd) (i t : Int) (i0 : Nat) : Sy.Ran (Sy.inT Tryz.prog (ctxY g o c l i0) 60 fLay (rlay0 g o c l i0 i t).args (Sy.blks (rlay0 g o c l i0 i t).mem) (Sy.rowT tI)) l0_o (l0_R g o c l i t i0) := ⟨fun ns => by kernel_rfl, fun ns => by kernel_rfl⟩
theorem ctxY_holds (g o c : Nat) (l : List Nd) (i0 : Nat) (h0 : ∀ i t, Sy.Meets Tryz.prog (rlay0 g o c l i0 i t)) (hA : ∀ gl n cap xs i t, Sy.Meets Tryz.prog (rlayA g o c l i0 gl n cap xs i t)) : (ctxY g o c l i0).holds Tryz.prog := Sy.mkS_holds (fun p hp a L => by
  rcases List.mem_cons.1 hp with rfl | hp
  · exact h0 _ _
  rcases List.mem_cons.1 hp with rfl | hp
  · exact hA _ _ _ _ _ _
  rcases List.mem_cons.1 hp with rfl | hp
  · exact rnum0_met _ _
  rcases List.mem_cons.1 hp with rfl | hp
  · exact rnumA_met _ _ _ _ _ _
  rcases List.mem_cons.1 hp with rfl | hp
  · exact plC_met _
  rcases List.mem_singleton.1 hp with rfl
  exact cdC_met _) (fun _ h => (by cases h)) (fun _ h => (by cases h))
theorem rlayA_step (g o c : Nat) (l : List Nd) (i0 : Nat) (ih0 : ∀ i t, Sy.Meets Tryz.prog (rlay0 g o c l i0 i t)) (ihA : ∀ gl n cap xs i t, Sy.Meets Tryz.prog (rlayA g o c l i0 gl n cap xs i t)) (gl n cap : Nat) (xs : List Value) (i t : Int) : Sy.Meets Tryz.prog (rlayA g o c l (i0 + 1) gl n cap xs i t) := by
  refine Sy.meets_of (ctxY_holds g o c l i0 ih0 ihA) mixed (la_run g o c l gl n cap xs i t i0) fun hok ns => ?_
  obtain ⟨⟨⟨hE, hG⟩, hn⟩, h0, h1, h2, h3, h4⟩ : ((isExpr 24 l ∧ goodN l) ∧ n + (lay (tr l i.toNat) t).length ≤ 900000) ∧ 0 ≤ i ∧ i < l.length ∧ i < ((i0 + 1 : Nat) : Int) ∧ 24 ≤ t ∧ t + (tr l i.toNat).needs ≤ 29 := hok
  have hok := hE.1
  simp only [la_R, Sy.Res.holds, Int.ofNat_eq_natCast, Sy.b_and, Sy.b_or, Sy.b_not, Sy.b_f, Sy.b_and', Sy.b_or', Sy.q_lt, Sy.q_le, Sy.q_eq, Sy.b_tt, Sy.b_ft, not_true_eq_false, not_false_eq_true]
  have hlt : i.toNat < l.length := by omega
  have ea : l[i.toNat]? = some l[i.toNat] := List.getElem?_eq_getElem hlt
  obtain ⟨a0, a1, a2, a3⟩ := nd_atI ea o
  simp only [a0, a1, a2, a3, some_int, some_bool, exists_eq', true_and]
  have hxv : goodU l[i.toNat].val := hG _ (List.getElem_mem hlt)
  generalize l[i.toNat] = x at *
  refine ⟨⟨h0, h1⟩, fun e0 e1 e2 e3 => ?_⟩
  have hnp := (tr l i.toNat).needs_pos
  have w25 : Ex.wrapQ .i64 (Ex.addQ t 1) = t + 1 := add_small (by omega) (by omega)
  simp only [← e0, ← e1, ← e2, ← e3, w25]
  have hx := hok _ x ea
  have un : 3 ≤ x.op → x.op ≤ 5 → 0 ≤ x.a ∧ x.a < i ∧ tr l i.toNat = .un x.op (tr l x.a.toNat) := fun u1 u2 => by
    have ha := ok_a hx u1
    exact ⟨ha.1, by omega, tr_un ea u1 u2 (by omega)⟩
  have whole := lay_fits hE (i := i.toNat) hlt t
  refine ⟨fun c1 => ⟨⟨hxv, by omega⟩, fun hc => Sy.rowO_leaf' (List.mem_singleton_self _) rfl 0 rfl rfl ?_ ?_ hc⟩, fun c1 => ⟨fun c2 => ⟨by omega, by omega, fun hc => Sy.rowO_leaf' (List.mem_singleton_self _) rfl 0 rfl rfl ?_ ?_ hc⟩, fun c2 => ?_⟩⟩
  · rw [tr_num ea (by omega)]; rfl
  · rw [tr_num ea (by omega)]; rfl
  · rw [tr_loc ea c2]; rfl
  · rw [tr_loc ea c2]
    have hv : Ex.wrapQ .i64 x.val = x.val := by
      unfold nodeOk at hx
      unfold goodU at hxv
      exact wrap_small hxv.1 (by omega)
    rw [hv]; rfl
  by_cases h6 : x.op ≤ 5
  · have hop : 3 ≤ x.op := by unfold nodeOk at hx; omega
    obtain ⟨ha0, ha1, eT⟩ := un hop h6
    have hf := lay_fits hE (i := x.a.toNat) (by omega) t
    rw [eT, E.needs] at h4
    rw [eT] at whole
    simp only [lay, List.length_append] at whole
    rw [eT] at hn
    simp only [lay, List.length_append] at hn
    have hu := unL_pos x.op t
    refine ⟨⟨⟨⟨hE, hG⟩, by omega⟩, ha0, by omega, by omega, h3, h4⟩, fun hc0 => ⟨fun c3 => ⟨by omega, by omega, fun hc1 => Sy.rowO_leaf' (List.mem_singleton_self _) rfl 0 rfl rfl ?_ ?_ hc1⟩, fun c3 => ⟨fun c4 => ⟨by omega, by omega, fun hc1 => Sy.rowO_leaf' (List.mem_singleton_self _) rfl 0 rfl rfl ?_ ?_ hc1⟩,
      fun c4 => ⟨fun c5 => ⟨by omega, by omega, fun hc1 => Sy.rowO_leaf' (List.mem_singleton_self _) rfl 0 rfl rfl ?_ ?_ hc1⟩, fun c5 => absurd h6 (by omega)⟩⟩⟩⟩
    · rw [eT]; simp [lay, unL, c3]; try omega
    · rw [eT]; simp [lay, unL, insCells, I.cells, c3]
    · rw [eT]; simp [lay, unL, c4]; try omega
    · rw [eT]; simp [lay, unL, insCells, I.cells, c4]
    · rw [eT]; simp [lay, unL, c5]; try omega
    · rw [eT]; simp [lay, unL, insCells, I.cells, c5]
  · have h19 : x.op ≤ 19 := by unfold nodeOk at hx; omega
    have ha := ok_a hx (by omega)
    have hb := ok_b hx (by omega)
    have eT : tr l i.toNat = .bin x.op (tr l x.a.toNat) (tr l x.b.toNat) := tr_bin ea (by omega) (by omega) (by omega)
    have hf := lay_fits hE (i := x.a.toNat) (by omega) t
    have hf2 := lay_fits hE (i := x.b.toNat) (by omega) (t + 1)
    rw [eT, E.needs] at h4
    rw [eT] at whole
    simp only [lay, List.length_append] at whole
    rw [eT] at hn
    simp only [lay, List.length_append] at hn
    refine ⟨⟨⟨⟨hE, hG⟩, by omega⟩, ha.1, by omega, by omega, h3, by omega⟩, fun hc0 => ⟨fun c3 => absurd c3 (by omega), fun c3 => ⟨fun c4 => absurd c4 (by omega), fun c4 => ⟨fun c5 => absurd c5 (by omega), fun c5 => ⟨⟨⟨⟨hE, hG⟩, by omega⟩, hb.1, by omega, by omega, by omega, by omega⟩, fun hc1 => fun _ =>
      ⟨fun hz => fun _ => ⟨by omega, by omega, fun hc2 => Sy.rowO_leaf' (List.mem_singleton_self _) rfl 0 rfl rfl ?_ ?_ hc2⟩, fun hz => fun _ => ⟨by omega, by omega, fun hc2 => Sy.rowO_leaf' (List.mem_singleton_self _) rfl 0 rfl rfl ?_ ?_ hc2⟩⟩⟩⟩⟩⟩⟩
    · rw [eT]; simp only [lay, binL, if_neg hz, List.length_append, List.length_cons, List.length_nil]; omega
    · rw [eT]; simp [lay, binL, if_neg hz, insCells, I.cells]
    · have hz : binOp x.op = 0 := Classical.byContradiction hz
      rw [eT]; simp only [lay, binL, if_pos hz, List.length_append, List.length_cons, List.length_nil]; omega
    · have hz : binOp x.op = 0 := Classical.byContradiction hz
      rw [eT]; simp [lay, binL, if_pos hz, insCells, I.cells]
theorem rlay0_step (g o c : Nat) (l : List Nd) (i0 : Nat) (ih0 : ∀ i t, Sy.Meets Tryz.prog (rlay0 g o c l i0 i t)) (ihA : ∀ gl n cap xs i t, Sy.Meets Tryz.prog (rlayA g o c l i0 gl n cap xs i t)) (i t : Int) : Sy.Meets Tryz.prog (rlay0 g o c l (i0 + 1) i t) := by
  refine Sy.meets_of (ctxY_holds g o c l i0 ih0 ihA) mixed (l0_run g o c l i t i0) fun hok ns => ?_
  obtain ⟨⟨hE, hG⟩, h0, h1, h2, h3, h4⟩ : (isExpr 24 l ∧ goodN l) ∧ 0 ≤ i ∧ i < l.length ∧ i < ((i0 + 1 : Nat) : Int) ∧ 24 ≤ t ∧ t + (tr l i.toNat).needs ≤ 29 := hok
  have hok := hE.1
  simp only [l0_R, Sy.Res.holds, Int.ofNat_eq_natCast, Sy.b_and, Sy.b_or, Sy.b_not, Sy.b_f, Sy.b_and', Sy.b_or', Sy.q_lt, Sy.q_le, Sy.q_eq, Sy.b_tt, Sy.b_ft, not_true_eq_false, not_false_eq_true]
  have hlt : i.toNat < l.length := by omega
  have ea : l[i.toNat]? = some l[i.toNat] := List.getElem?_eq_getElem hlt
  obtain ⟨a0, a1, a2, a3⟩ := nd_atI ea o
  simp only [a0, a1, a2, a3, some_int, some_bool, exists_eq', true_and]
  have hxv : goodU l[i.toNat].val := hG _ (List.getElem_mem hlt)
  generalize l[i.toNat] = x at *
  refine ⟨⟨h0, h1⟩, fun e0 e1 e2 e3 => ?_⟩
  have hnp := (tr l i.toNat).needs_pos
  have w25 : Ex.wrapQ .i64 (Ex.addQ t 1) = t + 1 := add_small (by omega) (by omega)
  simp only [← e0, ← e1, ← e2, ← e3, w25]
  have hx := hok _ x ea
  have un : 3 ≤ x.op → x.op ≤ 5 → 0 ≤ x.a ∧ x.a < i ∧ tr l i.toNat = .un x.op (tr l x.a.toNat) := fun u1 u2 => by
    have ha := ok_a hx u1
    exact ⟨ha.1, by omega, tr_un ea u1 u2 (by omega)⟩
  have whole := lay_fits hE (i := i.toNat) hlt t
  refine ⟨fun c1 => ⟨hxv, fun hc => Sy.rowO_leaf' (List.mem_singleton_self _) rfl 0 rfl rfl ?_ ?_ hc⟩, fun c1 => ⟨fun c2 => fun hc => Sy.rowO_leaf' (List.mem_singleton_self _) rfl 0 rfl rfl ?_ ?_ hc, fun c2 => ?_⟩⟩
  · rw [tr_num ea (by omega)]; rfl
  · rw [tr_num ea (by omega)]; rfl
  · rw [tr_loc ea c2]; rfl
  · rw [tr_loc ea c2]
    have hv : Ex.wrapQ .i64 x.val = x.val := by
      unfold nodeOk at hx
      unfold goodU at hxv
      exact wrap_small hxv.1 (by omega)
    rw [hv]; rfl
  by_cases h6 : x.op ≤ 5
  · have hop : 3 ≤ x.op := by unfold nodeOk at hx; omega
    obtain ⟨ha0, ha1, eT⟩ := un hop h6
    have hf := lay_fits hE (i := x.a.toNat) (by omega) t
    rw [eT, E.needs] at h4
    rw [eT] at whole
    simp only [lay, List.length_append] at whole
    refine ⟨⟨⟨hE, hG⟩, ha0, by omega, by omega, h3, h4⟩, fun hc0 => ⟨fun c3 => ⟨by omega, by omega, fun hc1 => Sy.rowO_leaf' (List.mem_singleton_self _) rfl 0 rfl rfl ?_ ?_ hc1⟩, fun c3 => ⟨fun c4 => ⟨by omega, by omega, fun hc1 => Sy.rowO_leaf' (List.mem_singleton_self _) rfl 0 rfl rfl ?_ ?_ hc1⟩,
      fun c4 => ⟨fun c5 => ⟨by omega, by omega, fun hc1 => Sy.rowO_leaf' (List.mem_singleton_self _) rfl 0 rfl rfl ?_ ?_ hc1⟩, fun c5 => absurd h6 (by omega)⟩⟩⟩⟩
    · rw [eT]; simp [lay, unL, c3]
    · rw [eT]; simp [lay, unL, insCells, I.cells, c3]
    · rw [eT]; simp [lay, unL, c4]
    · rw [eT]; simp [lay, unL, insCells, I.cells, c4]
    · rw [eT]; simp [lay, unL, c5]
    · rw [eT]; simp [lay, unL, insCells, I.cells, c5]
  · have h19 : x.op ≤ 19 := by unfold nodeOk at hx; omega
    have ha := ok_a hx (by omega)
    have hb := ok_b hx (by omega)
    have eT : tr l i.toNat = .bin x.op (tr l x.a.toNat) (tr l x.b.toNat) := tr_bin ea (by omega) (by omega) (by omega)
    have hf := lay_fits hE (i := x.a.toNat) (by omega) t
    have hf2 := lay_fits hE (i := x.b.toNat) (by omega) (t + 1)
    rw [eT, E.needs] at h4
    rw [eT] at whole
    simp only [lay, List.length_append] at whole
    refine ⟨⟨⟨hE, hG⟩, ha.1, by omega, by omega, h3, by omega⟩, fun hc0 => ⟨fun c3 => absurd c3 (by omega), fun c3 => ⟨fun c4 => absurd c4 (by omega), fun c4 => ⟨fun c5 => absurd c5 (by omega), fun c5 => ⟨⟨⟨⟨hE, hG⟩, by omega⟩, hb.1, by omega, by omega, by omega, by omega⟩, fun hc1 => fun _ =>
      ⟨fun hz => fun _ => ⟨by omega, by omega, fun hc2 => Sy.rowO_leaf' (List.mem_singleton_self _) rfl 0 rfl rfl ?_ ?_ hc2⟩, fun hz => fun _ => ⟨by omega, by omega, fun hc2 => Sy.rowO_leaf' (List.mem_singleton_self _) rfl 0 rfl rfl ?_ ?_ hc2⟩⟩⟩⟩⟩⟩⟩
    · rw [eT]; simp only [lay, binL, if_neg hz, List.length_append, List.length_cons, List.length_nil]; omega
    · rw [eT]; simp [lay, binL, if_neg hz, insCells, I.cells]
    · have hz : binOp x.op = 0 := Classical.byContradiction hz
      rw [eT]; simp only [lay, binL, if_pos hz, List.length_append, List.length_cons, List.length_nil]; omega
    · have hz : binOp x.op = 0 := Classical.byContradiction hz
      rw [eT]; simp [lay, binL, if_pos hz, insCells, I.cells]
theorem rlay_met (g o c : Nat) (l : List Nd) : ∀ i0 : Nat, (∀ i t, Sy.Meets Tryz.prog (rlay0 g o c l i0 i t)) ∧ (∀ gl n cap xs i t, Sy.Meets Tryz.prog (rlayA g o c l i0 gl n cap xs i t))
  | 0 => ⟨fun i t hok => absurd hok.2.2.2.1 (by have := hok.2.1; omega), fun gl n cap xs i t hok => absurd hok.2.2.2.1 (by have := hok.2.1; omega)⟩
  | i0 + 1 => ⟨fun i t => rlay0_step g o c l i0 (rlay_met g o c l i0).1 (rlay_met g o c l i0).2 i t, fun gl n cap xs i t => rlayA_step g o c l i0 (rlay_met g o c l i0).1 (rlay_met g o c l i0).2 gl n cap xs i t⟩
end Go.Proofs.YtlpcnaeknbmjdaaGreat.Lw

namespace Go.Proofs.YtlpcnaeknbmjdaaGreat.Lw
set_option linter.unusedVariables false
set_option linter.unusedSimpArgs false
open Go Go.RowKit
open Go.Proofs.YtlpcnaeknbmjdaaGreat.Sy (Let Blk)
abbrev fTX : FuncId := 132
def lenOk (l : List Nd) : Prop := (0 < l.length ∧ l.length ≤ 4398046511104) ∧ goodN l
noncomputable def ctxQ (g o c : Nat) (l : List Nd) : Sy.Ctx := Sy.mkS [(fMay, fun _ _ => mayC g o c l), (fNeeds, fun a _ => needsC g o c l 24 l.length (Sy.argI a 1)), (fExpr, fun a _ => exprC g o c l l.length (Sy.argI a 1) (Sy.argI a 2)),
  (fRX, fun a _ => rxC g o c l (Sy.argI a 1)), (fRN, fun _ _ => rnC g o c l), (fLay, fun a _ => rlay0 g o c l l.length (Sy.argI a 2) (Sy.argI a 3))] [] []
noncomputable def txArgs (g o c : Nat) (l : List Nd) (k : Int) : Array Value := #[.slice (some ⟨g, o, none⟩) l.length c, .int .i64 k]
def tx_o : Sy.O := (Sy.O.steps [0, 0, 0, 0, 0, 0] (Sy.O.fork (Sy.O.steps [0, 0, 0, 0, 0, 0, 0, 0, 0] Sy.O.nil) (Sy.O.steps [0, 0, 0, 0, 0, 0, 0, 0, 0, 0, 0, 1] (Sy.O.fork Sy.O.nil (Sy.O.fork Sy.O.nil (Sy.O.steps [0, 0, 0, 0, 0, 0, 0] Sy.O.nil))))))
noncomputable def tx_R (g : Nat) (o : Nat) (c : Nat) (l : List Nd) (k : Int) (ns : Nat → Sy.Let) : Sy.Res (Value × List Blk) :=
 let z0 := (Ex.subQ' (Int.ofNat (List.length l)) (1 : Int))
 let z1 := (tr l (Int.toNat (Ex.wrapQ IntKind.i64 z0)))
 let z2 := (lay z1 ((24 : Int) + k))
 let z3 := (List.length z2)
 let z4 := (Let.n (ns 1))
 Sy.Res.need ((0 : Nat) < List.length l ∧ List.length l ≤ (4398046511104 : Nat)) (Sy.Res.hyp True (Sy.Res.br (!tru (isExpr (24 : Int) l)) (Sy.Res.leaf (Value.tuple (Array.mk [Value.slice none (0 : Nat) (0 : Nat), Value.int IntKind.i64 (1 : Int)]), [])) (Sy.Res.need (isExpr (24 : Int) l ∧ (0 : Int) ≤ Ex.wrapQ IntKind.i64 z0 ∧ Ex.wrapQ IntKind.i64 z0 < (↑(List.length l) : Int) ∧ Ex.wrapQ IntKind.i64 z0 < (↑(List.length l) : Int)) (Sy.Res.hyp True (Sy.Res.br (bif bif false then true else Ex.ltQ k (0 : Int) then true else Ex.leQ (5 : Int) k) (Sy.Res.leaf (Value.tuple (Array.mk [Value.slice none (0 : Nat) (0 : Nat), Value.int IntKind.i64 (1 : Int)]), [])) (Sy.Res.br (Ex.ltQ (5 : Int) (Ex.wrapQ IntKind.i64 (Ex.addQ k (↑(E.needs z1) : Int)))) (Sy.Res.leaf (Value.tuple (Array.mk [Value.slice none (0 : Nat) (0 : Nat), Value.int IntKind.i64 (30 : Int)]), [])) (Sy.Res.need ((isExpr (24 : Int) l ∧ goodN l) ∧ (0 : Int) ≤ Ex.wrapQ IntKind.i64 z0 ∧ Ex.wrapQ IntKind.i64 z0 < (↑(List.length l) : Int) ∧ Ex.wrapQ IntKind.i64 z0 < (↑(List.length l) : Int) ∧ (0 : Int) ≤ k ∧ k + (↑(E.needs z1) : Int) ≤ (5 : Int)) (Sy.Res.hyp (Nat.le z3 z4) (Sy.Res.leaf (Value.tuple (Array.mk [Value.slice (some (Addr.mk (Let.n (ns 0)) (0 : Nat) none)) z3 z4, Value.int IntKind.i64 (0 : Int)]), [Blk.mk (Let.n (ns 0)) (Sy.Cont.row (49 : Nat) (6 : Nat) z3 z4 (insCells z2)) true]))))))))))
theorem tx_run (g o c : Nat) (l : List Nd) (k : Int) : Sy.Ran (Sy.inT Tryz.prog (ctxQ g o c l) 60 fTX (txArgs g o c l k) [⟨g, .seg o (ndCells l), false⟩] (Sy.rowT tI)) tx_o (tx_R g o c l k) := ⟨fun ns => by kernel_rfl, fun ns => by kernel_rfl⟩
theorem leftE {l : List Nd} (h : lenOk l) : Ex.wrapQ .i64 (Ex.subQ' (l.length : Int) 1) = ((l.length - 1 : Nat) : Int) := dec_q l.length h.1.1 (by have := h.1.2; omega)
theorem ctxQ_holds (g o c : Nat) (l : List Nd) : (ctxQ g o c l).holds Tryz.prog := Sy.mkS_holds (fun p hp a L => by
  rcases List.mem_cons.1 hp with rfl | hp
  · exact mayC_met _ _ _ _
  rcases List.mem_cons.1 hp with rfl | hp
  · exact needsC_met _ _ _ _ _ _ _
  rcases List.mem_cons.1 hp with rfl | hp
  · exact exprC_met _ _ _ _ _ _ _
  rcases List.mem_cons.1 hp with rfl | hp
  · exact rxC_met _ _ _ _ _
  rcases List.mem_cons.1 hp with rfl | hp
  · exact rnC_met _ _ _ _
  rcases List.mem_singleton.1 hp with rfl
  exact (rlay_met _ _ _ _ _).1 _ _) (fun _ h => (by cases h)) (fun _ h => (by cases h))
def badX (l : List Nd) (k : Int) : Prop := ¬ isExpr 24 l ∨ k < 0 ∨ 5 ≤ k
def regX (l : List Nd) (k : Int) : Prop := isExpr 24 l ∧ 0 ≤ k ∧ k < 5 ∧ 5 < k + (tr l (l.length - 1)).needs
def okX (l : List Nd) (k : Int) : Prop := isExpr 24 l ∧ 0 ≤ k ∧ k + (tr l (l.length - 1)).needs ≤ 5
noncomputable def outL (l : List Nd) (k : Int) : List I := lay (tr l (l.length - 1)) (24 + k)
noncomputable def xReg (f : FuncId) (args : Array Value) (g o : Nat) (l : List Nd) (k : Int) : Sy.CallC := ⟨f, args, lenOk l ∧ regX l k, ⟨[(g, .seg o (ndCells l))], [], 0, []⟩, [Sy.plainO (.tuple #[.slice none 0 0, .int .i64 30])]⟩
noncomputable def xOk (f : FuncId) (args : Array Value) (g o : Nat) (l : List Nd) (k : Int) : Sy.CallC := ⟨f, args, lenOk l ∧ okX l k, ⟨[(g, .seg o (ndCells l))], [], 2, []⟩, [Sy.rowO tI 6 (outL l k).length (insCells (outL l k)) fun s => .tuple #[s, .int .i64 0]]⟩
theorem txReg_met (g o c : Nat) (l : List Nd) (k : Int) : Sy.Meets Tryz.prog (xReg fTX (txArgs g o c l k) g o l k) := by
  refine Sy.meets_of (ctxQ_holds g o c l) mixed (tx_run g o c l k) fun hok ns => ?_
  obtain ⟨hl, hb⟩ : lenOk l ∧ regX l k := hok
  have h0 := hl.1.1
  have hE := hb.1
  have hm := hE.2.2.1
  have hx := tr_small hE (i := l.length - 1) (by omega)
  have hn := (tr l (l.length - 1)).needs_le
  simp only [tx_R, Sy.Res.holds, Int.ofNat_eq_natCast, Sy.b_and, Sy.b_or, Sy.b_not, Sy.b_f, Sy.b_and', Sy.b_or', Sy.q_lt, Sy.q_le, Sy.q_eq, Sy.b_tt, Sy.b_ft, not_true_eq_false, not_false_eq_true, some_int, some_bool, exists_eq', true_and, tru_t, leftE hl, Int.toNat_natCast, false_or]
  refine ⟨hl.1, fun _ => ?_⟩
  obtain ⟨-, b0, b1, b2⟩ := hb
  refine ⟨fun h => absurd hE h, fun h => ⟨⟨hE, by omega, by omega, by omega⟩, fun _ => ⟨fun h => absurd h (by omega), fun h => ?_⟩⟩⟩
  rw [add_small (by omega) (by omega)]
  exact ⟨fun _ => Sy.plainO_leaf (List.mem_singleton_self _) rfl rfl, fun h => absurd b2 h⟩
theorem txOk_met (g o c : Nat) (l : List Nd) (k : Int) : Sy.Meets Tryz.prog (xOk fTX (txArgs g o c l k) g o l k) := by
  refine Sy.meets_of (ctxQ_holds g o c l) mixed (tx_run g o c l k) fun hok ns => ?_
  obtain ⟨hl, hb⟩ : lenOk l ∧ okX l k := hok
  have h0 := hl.1.1
  have hE := hb.1
  have hm := hE.2.2.1
  have hx := tr_small hE (i := l.length - 1) (by omega)
  have hn := (tr l (l.length - 1)).needs_le
  simp only [tx_R, Sy.Res.holds, Int.ofNat_eq_natCast, Sy.b_and, Sy.b_or, Sy.b_not, Sy.b_f, Sy.b_and', Sy.b_or', Sy.q_lt, Sy.q_le, Sy.q_eq, Sy.b_tt, Sy.b_ft, not_true_eq_false, not_false_eq_true, some_int, some_bool, exists_eq', true_and, tru_t, leftE hl, Int.toNat_natCast, false_or]
  refine ⟨hl.1, fun _ => ?_⟩
  obtain ⟨-, b0, b1⟩ := hb
  have hp := (tr l (l.length - 1)).needs_pos
  refine ⟨fun h => absurd hE h, fun h => ⟨⟨hE, by omega, by omega, by omega⟩, fun _ => ⟨fun h => absurd h (by omega), fun h => ?_⟩⟩⟩
  rw [add_small (by omega) (by omega)]
  exact ⟨fun h => absurd h (by omega), fun h => ⟨⟨⟨hE, hl.2⟩, by omega, by omega, by omega, b0, b1⟩, fun hc => Sy.rowO_leaf' (List.mem_singleton_self _) rfl 0 rfl rfl rfl rfl hc⟩⟩
end Go.Proofs.YtlpcnaeknbmjdaaGreat.Lw

namespace Go.Proofs.YtlpcnaeknbmjdaaGreat.Lw
set_option linter.unusedVariables false
set_option linter.unusedSimpArgs false
open Go Go.RowKit
open Go.Proofs.YtlpcnaeknbmjdaaGreat.Sy (Let Blk)
abbrev fPow : FuncId := 39
def isPow (n : Int) : Prop := n = 1 ∨ n = 2 ∨ n = 4 ∨ n = 8 ∨ n = 16 ∨ n = 32 ∨ n = 64 ∨ n = 128 ∨ n = 256 ∨ n = 512 ∨ n = 1024
noncomputable def pwC (n : Int) : Sy.CallC := ⟨fPow, #[.int .i64 n], True, ⟨[], [], 0, []⟩, [Sy.plainO (.bool (tru (isPow n)))]⟩
def pw_o : Sy.O := (Sy.O.steps [0] (Sy.O.fork Sy.O.nil (Sy.O.steps [0] (Sy.O.fork Sy.O.nil (Sy.O.steps [0] (Sy.O.fork Sy.O.nil (Sy.O.steps [0] (Sy.O.fork Sy.O.nil (Sy.O.steps [0] (Sy.O.fork Sy.O.nil (Sy.O.steps [0] (Sy.O.fork Sy.O.nil (Sy.O.steps [0] (Sy.O.fork Sy.O.nil (Sy.O.steps [0] (Sy.O.fork Sy.O.nil (Sy.O.steps [0] (Sy.O.fork Sy.O.nil (Sy.O.steps [0] (Sy.O.fork Sy.O.nil (Sy.O.steps [0] (Sy.O.fork Sy.O.nil (Sy.O.steps [0] Sy.O.nil)))))))))))))))))))))))
noncomputable def pw_R (n : Int) (ns : Nat → Sy.Let) : Sy.Res (Value × List Blk) :=
 Sy.Res.br (Ex.eqQ (1 : Int) n) (Sy.Res.leaf (Value.bool true, [])) (Sy.Res.br (Ex.eqQ (2 : Int) n) (Sy.Res.leaf (Value.bool true, [])) (Sy.Res.br (Ex.eqQ (4 : Int) n) (Sy.Res.leaf (Value.bool true, [])) (Sy.Res.br (Ex.eqQ (8 : Int) n) (Sy.Res.leaf (Value.bool true, [])) (Sy.Res.br (Ex.eqQ (16 : Int) n) (Sy.Res.leaf (Value.bool true, [])) (Sy.Res.br (Ex.eqQ (32 : Int) n) (Sy.Res.leaf (Value.bool true, [])) (Sy.Res.br (Ex.eqQ (64 : Int) n) (Sy.Res.leaf (Value.bool true, [])) (Sy.Res.br (Ex.eqQ (128 : Int) n) (Sy.Res.leaf (Value.bool true, [])) (Sy.Res.br (Ex.eqQ (256 : Int) n) (Sy.Res.leaf (Value.bool true, [])) (Sy.Res.br (Ex.eqQ (512 : Int) n) (Sy.Res.leaf (Value.bool true, [])) (Sy.Res.br (Ex.eqQ (1024 : Int) n) (Sy.Res.leaf (Value.bool true, [])) (Sy.Res.leaf (Value.bool false, []))))))))))))
theorem pw_run (n : Int) : Sy.Ran (Sy.inT Tryz.prog Sy.S0 60 fPow (pwC n).args [] Sy.noB) pw_o (pw_R n) := ⟨fun ns => by kernel_rfl, fun ns => by kernel_rfl⟩
theorem pwC_met (n : Int) : Sy.Meets Tryz.prog (pwC n) := by
  refine Sy.meets_of Sy.S0_holds mixed (pw_run n) fun hok ns => ?_
  simp only [pw_R, Sy.Res.holds, Int.ofNat_eq_natCast, Sy.b_and, Sy.b_or, Sy.b_not, Sy.b_f, Sy.b_and', Sy.b_or', Sy.q_lt, Sy.q_le, Sy.q_eq, Sy.b_tt, Sy.b_ft, not_true_eq_false, not_false_eq_true]
  repeat' refine And.intro (fun h => ?_) (fun h => ?_)
  all_goals first
    | exact Sy.plainO_leaf (List.mem_singleton_self _) rfl (by rw [tru_pos (by unfold isPow; omega)])
    | exact Sy.plainO_leaf (List.mem_singleton_self _) rfl (by rw [tru_neg (by unfold isPow; omega)])
abbrev fAd : FuncId := 133
noncomputable def Sy.tW (k : Int) : Int := Ex.wrapQ .i64 (Ex.addQ 24 k)
noncomputable def Sy.L1 (l : List Nd) (k : Int) : List I := lay (tr l (Int.toNat (Ex.wrapQ .i64 (Ex.subQ' (l.length : Int) 1)))) (Sy.tW k)
noncomputable def Sy.L2 (s k : Int) : List I := numL (Ex.wrapQ .i64 (Ex.addQ (Sy.tW k) 1)) (Ex.wrapQ .u64 (Ex.wrapQ .i64 (Ex.subQ' s 1)))
noncomputable def Sy.L3 (k : Int) : List Value := [.int .i64 5, .int .i64 (Sy.tW k), .int .i64 (Sy.tW k), .int .i64 (Ex.wrapQ .i64 (Ex.addQ (Sy.tW k) 1)), .int .i64 0, .int .i64 0, .int .i64 14, .int .i64 (Sy.tW k), .int .i64 (Sy.tW k), .int .i64 0, .int .i64 3, .int .i64 0]
noncomputable def ctxI (s k : Int) (g o c : Nat) (l : List Nd) : Sy.Ctx := Sy.mkS [(fMay, fun _ _ => mayC g o c l), (fNeeds, fun a _ => needsC g o c l 24 l.length (Sy.argI a 1)), (fExpr, fun a _ => exprC g o c l l.length (Sy.argI a 1) (Sy.argI a 2)),
  (fRX, fun a _ => rxC g o c l (Sy.argI a 1)), (fRN, fun _ _ => rnC g o c l), (fLay, fun a _ => rlay0 g o c l l.length (Sy.argI a 2) (Sy.argI a 3)), (159, fun a _ => numC (Sy.argI a 0) (Sy.argI a 1)),
  (fRNum, fun a _ => rnum0 (Sy.argI a 1) (Sy.argI a 2)), (fRNum, fun a _ => rnumA (Sy.ptrN (Sy.argV a 0)) (Sy.L1 l k).length (Sy.capN (Sy.argV a 0)) (insCells (Sy.L1 l k)) (Sy.argI a 1) (Sy.argI a 2)), (fRNum, fun a _ => rnumA (Sy.ptrN (Sy.argV a 0)) ((Sy.L1 l k).length + (Sy.L2 s k).length + 2) (Sy.capN (Sy.argV a 0)) ((insCells (Sy.L1 l k) ++ insCells (Sy.L2 s k)) ++ Sy.L3 k) (Sy.argI a 1) (Sy.argI a 2)), (fPow, fun a _ => pwC (Sy.argI a 0))] [] []
noncomputable def adArgs (g o c : Nat) (l : List Nd) (b s k : Int) : Array Value := #[.int .i64 b, .int .i64 s, .slice (some ⟨g, o, none⟩) l.length c, .int .i64 k]
def adP_o : Sy.O := (Sy.O.steps [0, 0] (Sy.O.fork (Sy.O.steps [0, 0, 0, 0, 0, 0, 0, 0, 0, 0, 0, 0, 0, 0, 0, 0, 0, 0, 0, 0, 0, 0, 0, 0] Sy.O.nil) (Sy.O.steps [0, 0, 0, 0] (Sy.O.fork (Sy.O.steps [0, 0, 0, 0, 0, 0, 0, 0, 0, 0, 0, 0, 0, 0, 0, 0, 0, 0, 0] Sy.O.nil) (Sy.O.steps [0] (Sy.O.fork (Sy.O.steps [0, 0, 0, 0, 0, 0, 0, 0, 0, 0, 0, 0, 0, 0, 0, 0, 0] Sy.O.nil) (Sy.O.steps [0, 0, 0, 0] (Sy.O.fork (Sy.O.steps [0, 0, 0, 0, 0, 0, 0, 0, 0, 0, 0, 0] Sy.O.nil) (Sy.O.steps [0] (Sy.O.fork (Sy.O.steps [0, 0, 0, 0, 0, 0, 0, 0, 0, 0] Sy.O.nil) (Sy.O.steps [0] (Sy.O.fork (Sy.O.steps [0, 0, 0, 0, 0, 0, 0, 0] Sy.O.nil) (Sy.O.steps [0, 0, 0, 0, 0, 0, 0, 0, 0, 0, 0, 0, 0, 0, 0, 0, 0, 0, 0] (Sy.O.fork Sy.O.nil (Sy.O.steps [0, 0, 0, 0, 0, 0, 0, 1, 0, 0, 0, 0] (Sy.O.fork Sy.O.nil (Sy.O.steps [0, 0, 0, 0, 0, 0, 0, 0, 0, 0, 0, 0, 0, 0, 0, 0, 0, 0, 0, 5, 1, 1, 1, 1, 5, 0, 0, 0, 0, 0, 0, 0, 0, 2, 0, 0, 6, 1, 0, 0, 1, 1, 6, 0, 0, 0, 0, 0, 0, 0, 0, 0, 0, 3, 0, 0, 6, 0, 0, 0] (Sy.O.steps [1, 1, 6, 0, 0, 0, 0, 0, 0, 0, 0, 0, 0, 4, 0, 0, 6, 0, 0, 0, 1, 1, 6, 0, 0, 0, 0, 0, 0, 0, 0, 0, 0, 5, 0, 0, 8, 1, 0, 0, 1, 1, 8, 0, 0, 0, 0, 0, 0, 0, 0, 0, 0, 6, 0, 0, 7, 0, 0, 0] (Sy.O.steps [1, 1, 7, 0, 0, 0, 0, 0, 0, 0] Sy.O.nil)))))))))))))))))))
noncomputable def adP_R (g : Nat) (o : Nat) (c : Nat) (l : List Nd) (b : Int) (k : Int) (p : Nat) (ns : Nat → Sy.Let) : Sy.Res (Value × List Blk) :=
 let z0 := (Int.ofNat (Nat.succ p))
 let z1 := (Ex.wrapQ IntKind.i64 (Ex.subQ' z0 (1 : Int)))
 let z2 := (Ex.wrapQ IntKind.i64 (Ex.addQ (65536 : Int) (Ex.wrapQ IntKind.i64 (Ex.mulQ (8 : Int) b))))
 let z3 := (numL (29 : Int) (Ex.wrapQ IntKind.u64 z2))
 let z4 := (Ex.subQ' (Int.ofNat (List.length l)) (1 : Int))
 let z5 := (tr l (Int.toNat (Ex.wrapQ IntKind.i64 z4)))
 let z6 := (insCells z3)
 let z7 := (Sy.Cont.row (49 : Nat) (6 : Nat) (List.length z3) (Let.n (ns 1)) z6)
 let z8 := (lay z5 ((24 : Int) + k))
 let z9 := (Ex.wrapQ IntKind.i64 (Ex.addQ (24 : Int) k))
 let z10 := (Ex.wrapQ IntKind.i64 (Ex.addQ z9 (1 : Int)))
 let z11 := (numL z10 (Ex.wrapQ IntKind.u64 z1))
 let z12 := ((0 : Nat) + List.length z8)
 let z13 := (insCells z11)
 let z14 := ((0 : Nat) + List.length z8 + List.length z11)
 let z15 := ((0 : Nat) + List.length z8 + List.length z11 + (1 : Nat))
 let z16 := ((0 : Nat) + List.length z8 + List.length z11 + (1 : Nat) + (1 : Nat))
 let z17 := ((0 : Nat) + List.length z8 + List.length z11 + (1 : Nat) + (1 : Nat) + List.length z3)
 let z18 := ((0 : Nat) + List.length z8 + List.length z11 + (1 : Nat) + (1 : Nat) + List.length z3 + (1 : Nat))
 let z19 := (Let.n (ns 21))
 let z20 := [Value.int IntKind.i64 (5 : Int), Value.int IntKind.i64 z9, Value.int IntKind.i64 z9, Value.int IntKind.i64 z10, Value.int IntKind.i64 (0 : Int), Value.int IntKind.i64 (0 : Int)]
 let z21 := [Value.int IntKind.i64 (14 : Int), Value.int IntKind.i64 z9, Value.int IntKind.i64 z9, Value.int IntKind.i64 (0 : Int), Value.int IntKind.i64 (3 : Int), Value.int IntKind.i64 (0 : Int)]
 let z22 := [Value.int IntKind.i64 (3 : Int), Value.int IntKind.i64 (29 : Int), Value.int IntKind.i64 (29 : Int), Value.int IntKind.i64 z9, Value.int IntKind.i64 (0 : Int), Value.int IntKind.i64 (0 : Int)]
 Sy.Res.br (bif false then true else Ex.ltQ (1024 : Int) z0) (Sy.Res.leaf (Value.tuple (Array.mk [Value.slice none (0 : Nat) (0 : Nat), Value.int IntKind.i64 (1 : Int)]), [])) (Sy.Res.br (bif false then true else !Ex.eqQ (Ex.andQ IntKind.i64 z0 z1) (0 : Int)) (Sy.Res.leaf (Value.tuple (Array.mk [Value.slice none (0 : Nat) (0 : Nat), Value.int IntKind.i64 (1 : Int)]), [])) (Sy.Res.br (bif false then true else Ex.ltQ b (0 : Int)) (Sy.Res.leaf (Value.tuple (Array.mk [Value.slice none (0 : Nat) (0 : Nat), Value.int IntKind.i64 (1 : Int)]), [])) (Sy.Res.br (bif false then true else Ex.ltQ (Ex.wrapQ IntKind.i64 (Ex.subQ' (4096 : Int) (bif Ex.ltQ (1 : Int) z0 then Int.ofNat (Nat.succ p) else (1 : Int)))) b) (Sy.Res.leaf (Value.tuple (Array.mk [Value.slice none (0 : Nat) (0 : Nat), Value.int IntKind.i64 (1 : Int)]), [])) (Sy.Res.br (bif false then true else Ex.ltQ k (0 : Int)) (Sy.Res.leaf (Value.tuple (Array.mk [Value.slice none (0 : Nat) (0 : Nat), Value.int IntKind.i64 (1 : Int)]), [])) (Sy.Res.br (bif false then true else Ex.leQ (5 : Int) k) (Sy.Res.leaf (Value.tuple (Array.mk [Value.slice none (0 : Nat) (0 : Nat), Value.int IntKind.i64 (1 : Int)]), [])) (Sy.Res.need ((0 : Nat) < List.length l ∧ List.length l ≤ (4398046511104 : Nat)) (Sy.Res.hyp True (Sy.Res.br (bif false then true else bif true then !tru (isExpr (24 : Int) l) else false) (Sy.Res.leaf (Value.tuple (Array.mk [Value.slice none (0 : Nat) (0 : Nat), Value.int IntKind.i64 (1 : Int)]), [])) (Sy.Res.need ((0 : Int) ≤
 Ex.wrapQ IntKind.u64 z2 ∧ Ex.wrapQ IntKind.u64 z2 < (18446744073709551616 : Int)) (Sy.Res.hyp (Nat.le (List.length z3) (Let.n (ns 1))) (Sy.Res.need (isExpr (24 : Int) l ∧ (0 : Int) ≤ Ex.wrapQ IntKind.i64 z4 ∧ Ex.wrapQ IntKind.i64 z4 < (↑(List.length l) : Int) ∧ Ex.wrapQ IntKind.i64 z4 < (↑(List.length l) : Int)) (Sy.Res.hyp True (Sy.Res.br (Ex.ltQ (5 : Int) (Ex.wrapQ IntKind.i64 (Ex.addQ k (bif Ex.ltQ (2 : Int) (↑(E.needs z5) : Int) then (↑(E.needs z5) : Int) else (2 : Int))))) (Sy.Res.leaf (Value.tuple (Array.mk [Value.slice none (0 : Nat) (0 : Nat), Value.int IntKind.i64 (30 : Int)]), [Blk.mk (Let.n (ns 0)) z7 true])) (Sy.Res.need ((isExpr (24 : Int) l ∧ goodN l) ∧ (0 : Int) ≤ Ex.wrapQ IntKind.i64 z4 ∧ Ex.wrapQ IntKind.i64 z4 < (↑(List.length l) : Int) ∧ Ex.wrapQ IntKind.i64 z4 < (↑(List.length l) : Int) ∧ (0 : Int) ≤ k ∧ k + (↑(E.needs z5) : Int) ≤ (5 : Int)) (Sy.Res.hyp (Nat.le (List.length z8) (Let.n (ns 3))) (Sy.Res.need ((0 : Int) ≤ Ex.wrapQ IntKind.u64 z1 ∧ Ex.wrapQ IntKind.u64 z1 < (18446744073709551616 : Int)) (Sy.Res.hyp (Nat.le (List.length z11) (Let.n (ns 5))) (Sy.Res.need ((0 : Nat) = (0 : Nat) ∧ List.length (insCells z8) = List.length z8 * (6 : Nat) ∧ ∀ (u : Value), u ∈ insCells z8 → Value.oneCell' u = true) (Sy.Res.need ((1 : Nat) ≤ List.length z8) (Sy.Res.need ((0 : Nat) + List.length z8 ≤ (9223372036854775807 : Nat)) (Sy.Res.need (z12 * (48 : Nat) ≤ (140737488355328 : Nat)) (Sy.Res.hyp (Nat.le z12 (Let.n (ns 11))) (Sy.Res.need ((0 : Nat) = (0 : Nat) ∧
 List.length z13 = List.length z11 * (6 : Nat) ∧ ∀ (u : Value), u ∈ insCells z11 → Value.oneCell' u = true) (Sy.Res.need ((0 : Nat) + List.length z8 + List.length z11 ≤ (9223372036854775807 : Nat)) (Sy.Res.need (z14 * (48 : Nat) ≤ (140737488355328 : Nat)) (Sy.Res.hyp (Nat.le z14 (Let.n (ns 13))) (Sy.Res.need ((0 : Nat) + List.length z8 + List.length z11 + (1 : Nat) ≤ (9223372036854775807 : Nat)) (Sy.Res.need (z15 * (48 : Nat) ≤ (140737488355328 : Nat)) (Sy.Res.hyp (Nat.le z15 (Let.n (ns 15))) (Sy.Res.need ((0 : Nat) + List.length z8 + List.length z11 + (1 : Nat) + (1 : Nat) ≤ (9223372036854775807 : Nat)) (Sy.Res.need (z16 * (48 : Nat) ≤ (140737488355328 : Nat)) (Sy.Res.hyp (Nat.le z16 (Let.n (ns 17))) (Sy.Res.need ((0 : Nat) = (0 : Nat) ∧ List.length z6 = List.length z3 * (6 : Nat) ∧ ∀ (u : Value), u ∈ insCells z3 → Value.oneCell' u = true) (Sy.Res.need ((0 : Nat) + List.length z8 + List.length z11 + (1 : Nat) + (1 : Nat) + List.length z3 ≤ (9223372036854775807 : Nat)) (Sy.Res.need (z17 * (48 : Nat) ≤ (140737488355328 : Nat)) (Sy.Res.hyp (Nat.le z17 (Let.n (ns 19))) (Sy.Res.need ((0 : Nat) + List.length z8 + List.length z11 + (1 : Nat) + (1 : Nat) + List.length z3 + (1 : Nat) ≤ (9223372036854775807 : Nat)) (Sy.Res.need (z18 * (48 : Nat) ≤ (140737488355328 : Nat)) (Sy.Res.hyp (Nat.le z18 z19) (Sy.Res.leaf (Value.tuple (Array.mk [Value.slice (some (Addr.mk (Let.n (ns 20)) (0 : Nat) none)) z18 z19, Value.int IntKind.i64 (0 : Int)]), [Blk.mk (Let.n (ns 20)) (Sy.Cont.row (49 : Nat)
 (6 : Nat) z18 z19 (List.append (List.append (List.append (List.append (List.append ([] ++ insCells z8) z13) z20) z21) z6) z22)) true, Blk.mk (Let.n (ns 8)) (Sy.Cont.obj (Obj.cells (Array.mk z22) (49 : Nat))) true, Blk.mk (Let.n (ns 0)) z7 true, Blk.mk (Let.n (ns 7)) (Sy.Cont.obj (Obj.cells (Array.mk z21) (49 : Nat))) true, Blk.mk (Let.n (ns 6)) (Sy.Cont.obj (Obj.cells (Array.mk z20) (49 : Nat))) true, Blk.mk (Let.n (ns 4)) (Sy.Cont.row (49 : Nat) (6 : Nat) (List.length z11) (Let.n (ns 5)) z13) true, Blk.mk (Let.n (ns 2)) (Sy.Cont.row (49 : Nat) (6 : Nat) (List.length z8) (Let.n (ns 3)) (insCells z8)) true])))))))))))))))))))))))))))))))))))))))))
theorem adP_run (g o c : Nat) (l : List Nd) (b k : Int) (p : Nat) : Sy.Ran (Sy.inT Tryz.prog (ctxI (.ofNat (.succ p)) k g o c l) 60 fAd (adArgs g o c l b (.ofNat (.succ p)) k) [⟨g, .seg o (ndCells l), false⟩] (Sy.rowT tI)) adP_o (adP_R g o c l b k p) := ⟨fun ns => by kernel_rfl, fun ns => by kernel_rfl⟩
end Go.Proofs.YtlpcnaeknbmjdaaGreat.Lw

namespace Go.Proofs.YtlpcnaeknbmjdaaGreat.Lw
set_option linter.unusedVariables false
set_option linter.unusedSimpArgs false
open Go Go.RowKit
open Go.Proofs.YtlpcnaeknbmjdaaGreat.Sy (Let Blk)
instance (n : Int) : Decidable (isPow n) := by unfold isPow; infer_instance
theorem pow_tab : ∀ n : Nat, n < 1025 → 0 < n → (Ex.andQ .i64 (n : Int) (Ex.wrapQ .i64 (Ex.subQ' (n : Int) 1)) = 0 ↔ isPow n) := by decide +kernel
theorem pow_iff {s : Int} (h0 : 0 < s) (h1 : s ≤ 1024) : Ex.andQ .i64 s (Ex.wrapQ .i64 (Ex.subQ' s 1)) = 0 ↔ isPow s := by
  obtain ⟨n, rfl⟩ : ∃ n : Nat, s = n := ⟨s.toNat, by omega⟩
  exact pow_tab n (by omega) (by omega)
theorem isPow.bound {s : Int} (h : isPow s) : 1 ≤ s ∧ s ≤ 1024 := by unfold isPow at h; omega
def geoOk (b s : Int) (l : List Nd) (k : Int) : Prop := (isPow s ∧ 0 ≤ b ∧ b ≤ 4096 - s) ∧ (0 ≤ k ∧ k < 5) ∧ isExpr 24 l
def need2 (l : List Nd) : Int := if (tr l (l.length - 1)).needs < 2 then 2 else ((tr l (l.length - 1)).needs : Int)
def aReg (b s : Int) (l : List Nd) (k : Int) : Prop := geoOk b s l k ∧ 5 < k + need2 l
def aOk (b s : Int) (l : List Nd) (k : Int) : Prop := geoOk b s l k ∧ k + need2 l ≤ 5
noncomputable def addrL (b s : Int) (l : List Nd) (k : Int) : List I :=
  lay (tr l (l.length - 1)) (24 + k) ++ (numL (24 + k + 1) (s - 1) ++ (⟨5, 24 + k, 24 + k, 24 + k + 1, 0, 0⟩ :: ⟨14, 24 + k, 24 + k, 0, 3, 0⟩ :: (numL 29 (65536 + 8 * b) ++ [⟨3, 29, 29, 24 + k, 0, 0⟩])))
noncomputable def adReg (f : FuncId) (args : Array Value) (g o : Nat) (l : List Nd) (b s k : Int) : Sy.CallC := ⟨f, args, lenOk l ∧ aReg b s l k, ⟨[(g, .seg o (ndCells l))], [], 0, []⟩, [Sy.plainO (.tuple #[.slice none 0 0, .int .i64 30])]⟩
noncomputable def adOk (f : FuncId) (args : Array Value) (g o : Nat) (l : List Nd) (b s k : Int) : Sy.CallC := ⟨f, args, lenOk l ∧ aOk b s l k, ⟨[(g, .seg o (ndCells l))], [], 2, []⟩, [Sy.rowO tI 6 (addrL b s l k).length (insCells (addrL b s l k)) fun v => .tuple #[v, .int .i64 0]]⟩
theorem wU {a : Int} (h0 : 0 ≤ a) (h1 : a < 1000000) : Ex.wrapQ .u64 a = a := wrapU h0 (by omega)
theorem place_q {b : Int} (h0 : 0 ≤ b) (h1 : b ≤ 4096) : Ex.wrapQ .u64 (Ex.wrapQ .i64 (Ex.addQ 65536 (Ex.wrapQ .i64 (Ex.mulQ 8 b)))) = 65536 + 8 * b := by
  have e : Ex.wrapQ .i64 (Ex.mulQ 8 b) = 8 * b := by rw [Ex.mulQ_eq]; exact wrap_small (by omega) (by omega)
  rw [e, add_small (by omega) (by omega), wU (by omega) (by omega)]
theorem sub_small {a b : Int} (h0 : 0 ≤ a - b) (h1 : a - b < 1000000) : Ex.wrapQ .i64 (Ex.subQ' a b) = a - b := by
  rw [Ex.wrapQ_eq, Ex.subQ_eq]
  simp [IntKind.wrap, IntKind.signed, IntKind.bits]
  omega
theorem low_q {s : Int} (h0 : 1 ≤ s) (h1 : s ≤ 1024) : Ex.wrapQ .u64 (Ex.wrapQ .i64 (Ex.subQ' s 1)) = s - 1 := by
  rw [sub_small (by omega) (by omega), wU (by omega) (by omega)]
theorem need2_pos (l : List Nd) : 2 ≤ need2 l ∧ ((tr l (l.length - 1)).needs : Int) ≤ need2 l := by unfold need2; split <;> omega
theorem max1 {s : Int} (h : 1 ≤ s) : (bif Ex.ltQ 1 s then s else 1) = s := by
  cases hc : Ex.ltQ 1 s
  · have := (Sy.b_f (b := Ex.ltQ 1 s)).symm ▸ hc
    rw [Ex.ltQ_eq] at hc
    simp at hc
    simp
    omega
  · rfl
theorem ctxI_holds (s k : Int) (g o c : Nat) (l : List Nd) : (ctxI s k g o c l).holds Tryz.prog := Sy.mkS_holds (fun p hp a L => by
  rcases List.mem_cons.1 hp with rfl | hp
  · exact mayC_met _ _ _ _
  rcases List.mem_cons.1 hp with rfl | hp
  · exact needsC_met _ _ _ _ _ _ _
  rcases List.mem_cons.1 hp with rfl | hp
  · exact exprC_met _ _ _ _ _ _ _
  rcases List.mem_cons.1 hp with rfl | hp
  · exact rxC_met _ _ _ _ _
  rcases List.mem_cons.1 hp with rfl | hp
  · exact rnC_met _ _ _ _
  rcases List.mem_cons.1 hp with rfl | hp
  · exact (rlay_met _ _ _ _ _).1 _ _
  rcases List.mem_cons.1 hp with rfl | hp
  · exact numC_met _ _
  rcases List.mem_cons.1 hp with rfl | hp
  · exact rnum0_met _ _
  rcases List.mem_cons.1 hp with rfl | hp
  · exact rnumA_met _ _ _ _ _ _
  rcases List.mem_cons.1 hp with rfl | hp
  · exact rnumA_met _ _ _ _ _ _
  rcases List.mem_singleton.1 hp with rfl
  exact pwC_met _) (fun _ h => (by cases h)) (fun _ h => (by cases h))
theorem max2 (l : List Nd) : (bif Ex.ltQ 2 ((tr l (l.length - 1)).needs : Int) then ((tr l (l.length - 1)).needs : Int) else 2) = need2 l := by
  unfold need2
  generalize ((tr l (l.length - 1)).needs) = n
  cases hc : Ex.ltQ 2 (n : Int)
  · rw [Ex.ltQ_eq] at hc
    simp at hc
    simp
    omega
  · rw [Ex.ltQ_eq] at hc
    simp at hc
    simp
    omega
theorem adP_reg (g o c : Nat) (l : List Nd) (b k : Int) (p : Nat) : Sy.Meets Tryz.prog (adReg fAd (adArgs g o c l b (.ofNat (.succ p)) k) g o l b (.ofNat (.succ p)) k) := by
  refine Sy.meets_of (ctxI_holds _ _ _ _ _ _) mixed (adP_run g o c l b k p) fun hok ns => ?_
  obtain ⟨hl, ⟨⟨hq, hb0, hb1⟩, hk, hE⟩, hr⟩ : lenOk l ∧ aReg b (.ofNat (.succ p)) l k := hok
  have hp : (0 : Int) < .ofNat (.succ p) := by show (0 : Int) < ((p + 1 : Nat) : Int); omega
  simp only [adP_R]
  generalize Int.ofNat (Nat.succ p) = s at *
  have hs := hq.bound
  have h0 := hl.1.1
  have hm := hE.2.2.1
  have hx := tr_small hE (i := l.length - 1) (by omega)
  have hn := (tr l (l.length - 1)).needs_le
  have h2 : need2 l ≤ 65536 := by unfold need2; split <;> omega
  have h3 := need2_pos l
  have leaf : ∀ L, Sy.leafC (adReg fAd (adArgs g o c l b s k) g o l b s k) (.tuple #[.slice none 0 0, .int .i64 30], L) := fun L => Sy.plainO_leaf (List.mem_singleton_self _) rfl rfl
  simp only [Sy.Res.holds, Int.ofNat_eq_natCast, Sy.b_and, Sy.b_or, Sy.b_not, Sy.b_f, Sy.b_and', Sy.b_or', Sy.q_lt, Sy.q_le, Sy.q_eq, Sy.b_tt, Sy.b_ft, not_true_eq_false, not_false_eq_true, some_int, some_bool, exists_eq', true_and, tru_t, leftE hl, Int.toNat_natCast, false_or, max1 (show 1 ≤ s by omega), max2, place_q hb0 (show b ≤ 4096 by omega), low_q hs.1 hs.2, sub_small (a := 4096) (b := s) (by omega) (by omega), (pow_iff hp hs.2).2 hq, add_small (a := k) (b := need2 l) (by omega) (by omega)]
  refine ⟨fun h => absurd h (by omega), fun _ => ⟨fun h => h.elim, fun _ => ⟨fun h => absurd h (by omega), fun _ => ⟨fun h => absurd h (by omega), fun _ => ⟨fun h => absurd h (by omega), fun _ => ⟨fun h => absurd h (by omega), fun _ => ⟨hl.1, fun _ => ⟨fun h => absurd hE h, fun _ => ?_⟩⟩⟩⟩⟩⟩⟩⟩
  refine ⟨by omega, fun _ => ⟨⟨hE, by omega, by omega, by omega⟩, fun _ => ⟨fun _ => leaf _, fun h => absurd hr h⟩⟩⟩
theorem adP_ok (g o c : Nat) (l : List Nd) (b k : Int) (p : Nat) : Sy.Meets Tryz.prog (adOk fAd (adArgs g o c l b (.ofNat (.succ p)) k) g o l b (.ofNat (.succ p)) k) := by
  refine Sy.meets_of (ctxI_holds _ _ _ _ _ _) mixed (adP_run g o c l b k p) fun hok ns => ?_
  obtain ⟨hl, ⟨⟨hq, hb0, hb1⟩, hk, hE⟩, hr⟩ : lenOk l ∧ aOk b (.ofNat (.succ p)) l k := hok
  have hp : (0 : Int) < .ofNat (.succ p) := by show (0 : Int) < ((p + 1 : Nat) : Int); omega
  simp only [adP_R]
  generalize Int.ofNat (Nat.succ p) = s at *
  have hs := hq.bound
  have h0 := hl.1.1
  have hm := hE.2.2.1
  have h3 := need2_pos l
  have hf := lay_fits hE (i := l.length - 1) (by omega) (24 + k)
  have hn1 := numL_le (24 + k + 1) (s - 1)
  have hn2 := numL_le 29 (65536 + 8 * b)
  have hq1 := numL_pos (24 + k + 1) (s - 1)
  have hq2 := numL_pos 29 (65536 + 8 * b)
  have hnp := (tr l (l.length - 1)).needs_pos
  have hlen : (addrL b s l k).length = (lay (tr l (l.length - 1)) (24 + k)).length + ((numL (24 + k + 1) (s - 1)).length + ((numL 29 (65536 + 8 * b)).length + 3)) := by
    simp only [addrL, List.length_append, List.length_cons, List.length_nil]
  have hcs : insCells (addrL b s l k) = insCells (lay (tr l (l.length - 1)) (24 + k)) ++ (insCells (numL (24 + k + 1) (s - 1)) ++ ((I.mk 5 (24 + k) (24 + k) (24 + k + 1) 0 0).cells ++ ((I.mk 14 (24 + k) (24 + k) 0 3 0).cells ++ (insCells (numL 29 (65536 + 8 * b)) ++ (I.mk 3 29 29 (24 + k) 0 0).cells)))) := by
    simp [addrL, insCells]
  simp only [Sy.Res.holds, Int.ofNat_eq_natCast, Sy.b_and, Sy.b_or, Sy.b_not, Sy.b_f, Sy.b_and', Sy.b_or', Sy.q_lt, Sy.q_le, Sy.q_eq, Sy.b_tt, Sy.b_ft, not_true_eq_false, not_false_eq_true, some_int, some_bool, exists_eq', true_and, tru_t, leftE hl, Int.toNat_natCast, false_or, max1 (show 1 ≤ s by omega), max2, place_q hb0 (show b ≤ 4096 by omega), low_q hs.1 hs.2, sub_small (a := 4096) (b := s) (by omega) (by omega), (pow_iff hp hs.2).2 hq, add_small (a := k) (b := need2 l) (by omega) (by omega), add_small (a := 24) (b := k) (by omega) (by omega), add_small (a := 24 + k) (b := 1) (by omega) (by omega)]
  refine ⟨fun h => absurd h (by omega), fun _ => ⟨fun h => h.elim, fun _ => ⟨fun h => absurd h (by omega), fun _ => ⟨fun h => absurd h (by omega), fun _ => ⟨fun h => absurd h (by omega), fun _ => ⟨fun h => absurd h (by omega), fun _ => ⟨hl.1, fun _ => ⟨fun h => absurd hE h, fun _ => ?_⟩⟩⟩⟩⟩⟩⟩⟩
  refine ⟨by omega, fun _ => ⟨⟨hE, by omega, by omega, by omega⟩, fun _ => ⟨fun h => absurd h (by omega), fun _ => ?_⟩⟩⟩
  generalize lay (tr l (l.length - 1)) (24 + k) = A at *
  generalize numL (24 + k + 1) (s - 1) = B at *
  generalize numL 29 (65536 + 8 * b) = C at *
  have hA := insC_len A
  have hB := insC_len B
  have hC := insC_len C
  refine ⟨⟨⟨hE, hl.2⟩, by omega, by omega, by omega, by omega, by omega⟩, fun _ => ⟨by omega, fun _ => ⟨⟨hA, insC_one _⟩, by omega, by omega, by omega, fun _ => ⟨⟨hB, insC_one _⟩, by omega, by omega, fun _ => ⟨by omega, by omega, fun _ => ⟨by omega, by omega, fun _ => ⟨⟨hC, insC_one _⟩, by omega, by omega, fun _ => ⟨by omega, by omega, fun hc => ?_⟩⟩⟩⟩⟩⟩⟩⟩
  refine Sy.rowO_leaf' (List.mem_singleton_self _) rfl 0 rfl rfl ?_ ?_ hc
  · rw [hlen]; omega
  · rw [hcs]; simp [I.cells]
end Go.Proofs.YtlpcnaeknbmjdaaGreat.Lw

namespace Go.Proofs.YtlpcnaeknbmjdaaGreat.Sy
open Go Go.RowKit
open Ev (calm one)
set_option linter.unusedVariables false
set_option linter.unusedSimpArgs false
variable {α : Type}
abbrev OpF (α : Type) := Option G → F → List Blk → (Option G → F → List Blk → T α) → T α
structure OpB (α : Type) where
  f : CallE α → OpF α
noncomputable def OpB.run (b : OpB α) : CallE α → OpF α := @OpB.rec α (fun _ => CallE α → OpF α) (fun f => f) b
structure CodeB (α : Type) where
  f : CallE α → Nat → PieceE α
noncomputable def CodeB.run (b : CodeB α) : CallE α → Nat → PieceE α := @CodeB.rec α (fun _ => CallE α → Nat → PieceE α) (fun f => f) b
section ops
variable (P : Program) (S : Ctx) (fn : FuncId) (ops : Array Oper)
noncomputable def genB (i : Nat) : OpB α := ⟨fun call g a L c => evAtG P S fn call ops i g a L c⟩
noncomputable def elseF (o : Oper) (call : CallE α) (a : F) (L : List Blk) (c : Option G → F → List Blk → T α) : T α := doOp P call o a L (c none)
noncomputable def argsE (a : F) : List Operand → List Value
  | [] => []
  | x :: r => a.eval x :: argsE a r
noncomputable def callB (d : Option Nat) (f : FuncId) (args : List Operand) : OpB α := ⟨fun call _ a L c => call f (Array.mk (argsE a args)) L fun v L' => c none (a.put d v) L'⟩
noncomputable def valOpB (o : Oper) (d : Nat) : OpB α := ⟨fun call _ a L c => (valB P o).run a L (fun v => c none (a.put (some d) v) L) (elseF P o call a L c)⟩
noncomputable def storeK (L : List Blk) (b off : Nat) (u : Value) (a : F) (c : Option G → F → List Blk → T α) : T α := pickT L b fun p j => reqP (one u) (one u = true) (putT L p j ⟨b, off, none⟩ u fun L' => c none (a.put none undef) L')
noncomputable def storeF (o : Oper) (call : CallE α) (v u : Value) (a : F) (L : List Blk) (c : Option G → F → List Blk → T α) : T α := match v with
  | .pointer (some ⟨b, off, none⟩) => match u with
    | .agg _ => elseF P o call a L c
    | .tuple _ => elseF P o call a L c
    | u => storeK L b off u a c
  | _ => elseF P o call a L c
noncomputable def storeB (o : Oper) (x v : Operand) : OpB α := ⟨fun call _ a L c => storeF P o call (a.eval x) (a.eval v) a L c⟩
noncomputable def allocB (d t : Nat) (z : Value) : OpB α := ⟨fun _ _ a L c => .ask fun x => c none (a.put (some d) (.pointer (some ⟨x.n, 0, none⟩))) (⟨x.n, .obj (.cells z.cells t (0, 0)), true⟩ :: L)⟩
noncomputable def zeroP (t : TypeId) : Option Value := match P.info? t with
  | some i => i.zero
  | none => none
noncomputable def namedP (f : FuncId) : Bool := match P.funcs[f]? with
  | some fn => match fn.body with
    | some _ => match fn.name == "runtime.NumGoroutine" with
      | true => false
      | false => true
    | none => false
  | none => false
noncomputable def doB (o : Oper) : OpB α := ⟨fun call _ a L c => doOp P call o a L (c none)⟩
noncomputable def freeB (o : Oper) : OpB α := match o.dst with
  | none => match o.op with
    | .store t x v => match sizeP P t with
      | some n => match Nat.beq n 1 with
        | true => storeB P o x v
        | false => doB P o
      | none => doB P o
    | .call c => match c.callee with
      | .value (.func f) => match namedP P f with
        | true => callB none f c.args.toList
        | false => doB P o
      | _ => doB P o
    | _ => doB P o
  | some d => match o.op with
    | .alloc t => match zeroP P t with
      | some z => allocB d t z
      | none => doB P o
    | .call c => match c.callee with
      | .value (.func f) => match namedP P f with
        | true => callB (some d) f c.args.toList
        | false => doB P o
      | .builtin .len => valOpB P o d
      | _ => doB P o
    | _ => valOpB P o d
noncomputable def yesF (d : Option Nat) (c : Option G → F → List Blk → T α) (a : F) (L : List Blk) : T α := c none (a.put d undef) L
noncomputable def condB (o : Oper) (t : Nat) (want : Bool) (b : Bool) (call : CallE α) (a : F) (L : List Blk) (c : Option G → F → List Blk → T α) : T α := match want with
  | true => .cond b ((freeB P o).run call none (a.put (some t) (.bool true)) L c) (yesF o.dst c (a.put (some t) (.bool false)) L)
  | false => .cond b (yesF o.dst c (a.put (some t) (.bool true)) L) ((freeB P o).run call none (a.put (some t) (.bool false)) L c)
noncomputable def guardF (i : Nat) (o : Oper) (t : Nat) (want gr : Bool) (call : CallE α) (g : Option G) (a : F) (L : List Blk) (c : Option G → F → List Blk → T α) : T α := match g with
  | some _ => evAtG P S fn call ops i g a L c
  | none => match a.get t with
    | .bool b => match gr with
      | true => litT b (condB P o t want b call a L c) (heldG P ops L none a o fun g' a' => c g' a' L)
      | false => condB P o t want b call a L c
    | _ => evAtG P S fn call ops i g a L c
noncomputable def dstAt (j : Nat) : Option Nat := match ops[j]? with
  | some oj => oj.dst
  | none => none
noncomputable def guardB (i : Nat) (o : Oper) (j : Nat) (want : Bool) : OpB α := match dstAt ops j with
  | some t => match groupOk ops o with
    | true => ⟨fun call g a L c => guardF P S fn ops i o t want true call g a L c⟩
    | false => ⟨fun call g a L c => guardF P S fn ops i o t want false call g a L c⟩
  | none => genB P S fn ops i
def isPick (o : Oper) : Bool := match o.op with
  | .pick .. => true
  | _ => false
noncomputable def opB (i : Nat) (o : Oper) : OpB α := match S.op fn (keyOf o) with
  | _ :: _ => genB P S fn ops i
  | [] => match isPick o with
    | true => genB P S fn ops i
    | false => match o.guard with
      | none => freeB P o
      | some (j, want) => guardB P S fn ops i o j want
noncomputable def opsB (l : List Oper) : Nat → List (OpB α) := @List.rec Oper (fun _ => Nat → List (OpB α)) (fun _ => []) (fun o _ ih i => opB P S fn ops i o :: ih (Nat.add i 1)) l
end ops
noncomputable def runB (call : CallE α) (c : F → List Blk → T α) (l : List (OpB α)) : Option G → F → List Blk → T α :=
  @List.rec (OpB α) (fun _ => Option G → F → List Blk → T α) (fun _ a L => c a L) (fun b _ ih g a L => b.run call g a L ih) l
def Fits (P : Program) (S : Ctx) (fn : FuncId) (ops : Array Oper) (i : Nat) (b : OpB α) : Prop :=
  ∀ (call : CallE α) (g : Option G) (a : F) (L : List Blk) (c : Option G → F → List Blk → T α) (K : α → Prop), (b.run call g a L c).all K → (evAtG P S fn call ops i g a L c).all K
section
variable {P : Program} {S : Ctx} {fn : FuncId} {ops : Array Oper} {i : Nat} {o : Oper}
theorem fits_gen : Fits P S fn ops i (genB P S fn ops i : OpB α) := fun _ _ _ _ _ _ h => h
structure Plain (S : Ctx) (fn : FuncId) (ops : Array Oper) (i : Nat) (o : Oper) : Prop where
  at_ : ops[i]? = some o
  guard : o.guard = none
  op : S.op fn (keyOf o) = []
  pick : ∀ x y z, o.op ≠ .pick x y z
theorem Plain.eq (h : Plain S fn ops i o) (call : CallE α) (g : Option G) (a : F) (L : List Blk) (c : Option G → F → List Blk → T α) : evAtG P S fn call ops i g a L c = doOp P call o a L (c none) := by
  have hn : nth ops.toList i = some o := by rw [nth_eq, Array.getElem?_toList]; exact h.at_
  have hg : guardOf a ops o = .free := by unfold guardOf; rw [h.guard]
  have e1 : evAt P S fn call ops i a L (c none) = doOp P call o a L (c none) := by
    unfold evAt
    simp only [hn]
    unfold guardT
    simp only [hg]
    unfold evOp
    simp only [h.op]
  unfold evAtG
  simp only [hn, hg]
  rw [← e1]
  cases g with
  | none => rfl
  | some g =>
    cases ho : o.op <;> first | rfl | exact absurd ho (h.pick _ _ _)
def FitsD (P : Program) (o : Oper) (b : OpB α) : Prop :=
  ∀ (call : CallE α) (g : Option G) (a : F) (L : List Blk) (c : Option G → F → List Blk → T α) (K : α → Prop), (b.run call g a L c).all K → (doOp P call o a L (c none)).all K
theorem fits_of (h : Plain S fn ops i o) {b : OpB α} (hb : FitsD P o b) : Fits P S fn ops i b :=
  fun call g a L c K hx => by rw [h.eq]; exact hb call g a L c K hx
theorem fits_val {d : Nat} (hd : o.dst = some d) : FitsD P o (valOpB P o d : OpB α) := fun call g a L c K hx => by
  refine valB_do ?_
  rw [hd]
  exact hx
theorem argsE_eq (a : F) : ∀ l : List Operand, argsE a l = l.map a.eval
  | [] => rfl
  | x :: r => by simp only [argsE, List.map_cons, argsE_eq a r]
theorem fits_call {d : Option Nat} {f : FuncId} {cl : Call} (hd : o.dst = d) (ho : o.op = .call cl) (hc : cl.callee = .value (.func f)) (hf : namedP P f = true) : FitsD P o (callB d f cl.args.toList : OpB α) := fun call g a L c K hx => by
  have e : doing P a.eval o = .call f (cl.args.map a.eval) := by
    have : callOf P a.eval o = some (f, cl.args.map a.eval) := by
      unfold namedP at hf
      unfold callOf
      simp only [ho, hc]
      split at hf
      · rename_i fn' hfn
        simp only [hfn]
        split at hf
        · rename_i b hb
          simp only [hb]
          split at hf
          · cases hf
          · rename_i hn
            simp only [hn]
        · cases hf
      · cases hf
    unfold doing
    simp only [ho, this]
  refine doOp_of ?_
  unfold doOp0
  rw [e, hd]
  have ea : cl.args.map a.eval = Array.mk (argsE a cl.args.toList) := by
    rw [argsE_eq]
    apply Array.ext'
    simp
  simp only [ea]
  exact hx
theorem fits_store {t : TypeId} {x v : Operand} (hd : o.dst = none) (ho : o.op = .store t x v) (hs : sizeP P t = some 1) : FitsD P o (storeB P o x v : OpB α) := fun call g a L c K hx => by
  change (storeF P o call (a.eval x) (a.eval v) a L c).all K at hx
  unfold storeF at hx
  split at hx
  · rename_i b off hv
    have key : ∀ u : Value, a.eval v = u → (∀ l, u ≠ .agg l) → (∀ l, u ≠ .tuple l) → (storeK L b off u a c).all K → (doOp P call o a L (c none)).all K := fun u hu h1 h2 hx => by
      have e : doing P a.eval o = .store b off u := by
        have : storeOf P a.eval o = some (b, off, u) := by
          unfold storeOf
          simp only [ho, hv, hu]
          cases u <;> first | exact absurd rfl (h1 _) | exact absurd rfl (h2 _) | (simp only [hs]; try rfl)
        unfold doing
        simp only [ho, this]
      refine doOp_of ?_
      unfold doOp0
      rw [e, hd]
      exact hx
    split at hx
    · exact hx
    · exact hx
    · rename_i u h1 h2
      exact key _ rfl (fun l hl => h1 l hl) (fun l hl => h2 l hl) hx
  · exact hx
theorem fits_alloc {d t : Nat} {z : Value} (hd : o.dst = some d) (ho : o.op = .alloc t) (hz : zeroP P t = some z) : FitsD P o (allocB d t z : OpB α) := fun call g a L c K hx => by
  have e : doing P a.eval o = .gen := by
    unfold doing
    simp only [ho]
  refine doOp_of ?_
  unfold doOp0
  rw [e]
  unfold zeroP at hz
  split at hz
  · rename_i inf hi
    have ex : execOp a.eval o = allocS t := by
      unfold execOp
      rw [ho]
      rfl
    unfold genOp
    rw [ex]
    show (lrun P (((((match P.info? t with
        | some i => (Sem.pure i : Sem TypeInfo)
        | none => stuck "no such type").bind fun i => match i.zero with
        | some v => (Sem.pure v : Sem Value)
        | none => unsupported (.resourceLimit "a value of more than 2^22 cells")).bind fun z => (((Sem.new (.cells z.cells t) fun r => Sem.pure r).bind fun r => Sem.pure (⟨r, 0, none⟩ : Addr)).bind fun ad => Sem.pure (Value.pointer (some ad)))).bind fun v => Sem.pure (Next.value v))) (zerosOf P o) L (stepO call o a (c none))).all K
    rw [hi]
    show (lrun P ((((match inf.zero with
        | some v => (Sem.pure v : Sem Value)
        | none => unsupported (.resourceLimit "a value of more than 2^22 cells")).bind fun z => (((Sem.new (.cells z.cells t) fun r => Sem.pure r).bind fun r => Sem.pure (⟨r, 0, none⟩ : Addr)).bind fun ad => Sem.pure (Value.pointer (some ad)))).bind fun v => Sem.pure (Next.value v))) (zerosOf P o) L (stepO call o a (c none))).all K
    rw [hz]
    intro x
    have hx := hx x
    show (c none (a.put o.dst _) _).all K
    rw [hd]
    exact hx
  · cases hz
theorem fits_do : FitsD P o (doB P o : OpB α) := fun _ _ _ _ _ _ h => h
theorem fits_free : FitsD P o (freeB P o : OpB α) := by
  unfold freeB
  split
  · rename_i hd
    split
    · rename_i t x v ho
      split
      · rename_i n hn
        split
        · rename_i h1
          have h1 := Nat.eq_of_beq_eq_true h1
          subst h1
          exact fits_store hd ho hn
        · exact fits_do
      · exact fits_do
    · rename_i cl ho
      split
      · rename_i f hc
        split
        · rename_i hf
          exact fits_call hd ho hc hf
        · exact fits_do
      · exact fits_do
    · exact fits_do
  · rename_i d hd
    split
    · rename_i t ho
      split
      · rename_i z hz
        exact fits_alloc hd ho hz
      · exact fits_do
    · rename_i cl ho
      split
      · rename_i f hc
        split
        · rename_i hf
          exact fits_call hd ho hc hf
        · exact fits_do
      · exact fits_val hd
      · exact fits_do
    · exact fits_val hd
theorem fits_guard (h : ops[i]? = some o) {j : Nat} {want : Bool} (hg : o.guard = some (j, want)) (hop : S.op fn (keyOf o) = []) : Fits P S fn ops i (guardB P S fn ops i o j want : OpB α) := by
  have hn : nth ops.toList i = some o := by rw [nth_eq, Array.getElem?_toList]; exact h
  unfold guardB
  split
  · rename_i t ht
    have hgo : ∀ (a : F) (b : Bool), a.get t = .bool b → guardOf a ops o = .test t b want := fun a b hb => by
      unfold dstAt at ht
      split at ht
      · rename_i oj hj
        have hj' : nth ops.toList j = some oj := by rw [nth_eq, Array.getElem?_toList]; exact hj
        unfold guardOf
        simp only [hg, hj', ht, hb]
      · cases ht
    have main : ∀ (gr : Bool), groupOk ops o = gr → Fits P S fn ops i (⟨fun call g a L c => guardF P S fn ops i o t want gr call g a L c⟩ : OpB α) := fun gr hgr call g a L c K hx => by
      change (guardF P S fn ops i o t want gr call g a L c).all K at hx
      unfold guardF at hx
      split at hx
      · exact hx
      · split at hx
        · rename_i b hb
          have e := hgo a b hb
          have cnd : (condB P o t want b call a L c).all K → (evAt P S fn call ops i a L (c none)).all K := fun hx => by
            unfold evAt
            simp only [hn]
            unfold guardT
            simp only [e]
            unfold condB at hx
            have ev0 : ∀ a : F, evOp P S fn call o a L (c none) = doOp P call o a L (c none) := fun a => by
              unfold evOp
              simp only [hop]
            cases want with
            | true => exact ⟨fun hb => by rw [ev0]; exact fits_free call none _ L c K (hx.1 hb), fun hb => hx.2 hb⟩
            | false => exact ⟨fun hb => hx.1 hb, fun hb => by rw [ev0]; exact fits_free call none _ L c K (hx.2 hb)⟩
          unfold evAtG
          simp only [hn, e, hgr]
          split at hx
          · rcases litT_spec hx with hx | hx
            · exact ⟨0, cnd hx⟩
            · exact ⟨1, hx⟩
          · exact cnd hx
        · exact hx
    split
    · rename_i hgr
      exact main true hgr
    · rename_i hgr
      exact main false hgr
  · exact fits_gen
theorem fits_op (h : ops[i]? = some o) : Fits P S fn ops i (opB P S fn ops i o : OpB α) := by
  unfold opB
  split
  · exact fits_gen
  · rename_i hop
    split
    · exact fits_gen
    · rename_i hp
      have hpk : ∀ x y z, o.op ≠ .pick x y z := fun x y z he => by
        unfold isPick at hp
        rw [he] at hp
        cases hp
      split
      · rename_i hg
        exact fits_of ⟨h, hg, hop, hpk⟩ fits_free
      · rename_i j want hg
        exact fits_guard h hg hop
end
section code
variable (P : Program) (S : Ctx) (fn : FuncId)
noncomputable def seqF (y : PieceE α) (c : Exit → F → List Blk → T α) (r : Exit) (a : F) (L : List Blk) : T α := match r with
  | .normal => y a L c
  | r => c r a L
noncomputable def condF (b : Operand) (x y : PieceE α) (a : F) (L : List Blk) (c : Exit → F → List Blk → T α) : T α := match b with
  | .tmp s => match a.get s with
    | .bool t => .cond t (x (a.put (some s) (.bool true)) L c) (y (a.put (some s) (.bool false)) L c)
    | _ => .fail
  | b => match a.eval b with
    | .bool t => .cond t (x a L c) (y a L c)
    | _ => .fail
noncomputable def blockF (id : Nat) (c : Exit → F → List Blk → T α) (r : Exit) (a : F) (L : List Blk) : T α := match r with
  | .exit id' => match Nat.beq id' id with
    | true => c .normal a L
    | false => c (.exit id') a L
  | r => c r a L
noncomputable def againF (ih : F → List Blk → T α) (c : Exit → F → List Blk → T α) (x : Exit) (a : F) (L : List Blk) : T α := match x with
  | .normal => ih a L
  | x => c x a L
noncomputable def roundsF (f : PieceE α) (c : Exit → F → List Blk → T α) (m : Nat) : F → List Blk → T α :=
  @Nat.rec (fun _ => F → List Blk → T α) (fun _ _ => .fail) (fun k ih a L => match Nat.beq (Nat.mod k 4) 0 with
    | true => forceL (compactW 0 a.w) fun w => f ⟨a.n, w⟩ L fun x a1 L1 => againF ih c x a1 L1
    | false => f a L fun x a1 L1 => againF ih c x a1 L1) m
noncomputable def loopF (x : Code) (f : PieceE α) (n : Nat) (a : F) (L : List Blk) (c : Exit → F → List Blk → T α) : T α := match S.lp fn with
  | k :: ks => .or (.num ((k :: ks).length + 1)) fun j => match nth (k :: ks) j with
    | some k => loopBy (k a L) (.loop x) a L c
    | none => roundsF f c n a L
  | [] => roundsF f c n a L
noncomputable def codeB (x : Code) : CodeB α := @Code.rec (fun _ => CodeB α)
  ⟨fun _ _ a L c => c .normal a L⟩
  (fun id ops d => match d with
    | false => ⟨fun call _ a L c => runB call (fun a' L' => c .normal a' L') (opsB P S fn ops ops.toList 0) none a L⟩
    | true => ⟨fun call _ a L c => anyF P S fn id ops call a L c⟩)
  (fun _ _ ihx ihy => ⟨fun call n a L c => ihx.run call n a L fun r a1 L1 => seqF (ihy.run call n) c r a1 L1⟩)
  (fun b _ _ ihx ihy => ⟨fun call n a L c => condF b (ihx.run call n) (ihy.run call n) a L c⟩)
  (fun id _ ih => ⟨fun call n a L c => ih.run call n a L fun r a1 L1 => blockF id c r a1 L1⟩)
  (fun x ih => ⟨fun call n a L c => loopF S fn x (ih.run call n) n a L c⟩)
  (fun _ _ _ _ _ _ => ⟨fun _ _ _ _ _ => .fail⟩)
  (fun id => ⟨fun _ _ a L c => c (.exit id) a L⟩)
  (fun _ _ => ⟨fun _ _ _ _ _ => .fail⟩)
  (fun _ => ⟨fun _ _ a L c => c .normal a L⟩)
  (fun _ => ⟨fun _ _ _ _ _ => .fail⟩)
  ⟨fun _ _ a L c => c .ret a L⟩
  (fun _ => ⟨fun _ _ _ _ _ => .fail⟩)
  x
structure FnB (α : Type) where
  f : CallE α → Nat → Array Value → List Blk → (Value → List Blk → T α) → T α
noncomputable def FnB.run (b : FnB α) : CallE α → Nat → Array Value → List Blk → (Value → List Blk → T α) → T α := @FnB.rec α (fun _ => CallE α → Nat → Array Value → List Blk → (Value → List Blk → T α) → T α) (fun f => f) b
noncomputable def retF (rs : List ResultVar) (c : Value → List Blk → T α) (x : Exit) (a : F) (L : List Blk) : T α := match x with
  | .normal => resT P a.get L rs fun l => c (oneV l) L
  | .ret => resT P a.get L rs fun l => c (oneV l) L
  | _ => .fail
noncomputable def fnB (f : FuncId) : FnB α := match nth P.funcs.toList f with
  | none => ⟨fun _ _ _ _ _ => .fail⟩
  | some fc => match fc.body with
    | none => ⟨fun _ _ _ _ _ => .fail⟩
    | some b => ⟨fun call n args L c => (codeB P S f b).run call n (F.init args fc.ntmps) L fun x a L' => retF P fc.results.toList c x a L'⟩
noncomputable def fnC (f : FuncId) : FnB α := match S.cl f with
  | k :: ks => ⟨fun call n args L c => .or (.num ((k :: ks).length + 1)) fun j => match nth (k :: ks) j with
    | some k => match Nat.decEq (k args L).f f with
      | .isTrue _ => metBy (k args L) args L c
      | .isFalse _ => .fail
    | none => (fnB P S f).run call n args L c⟩
  | [] => fnB P S f
end code
section sound
variable {P : Program} {S : Ctx} {w0 : World} {keep : Nat → Prop} {K : α → Prop}
theorem runB_sound (hS : S.holds P) {fn : FuncId} {call : CallE α} (hs : SoundC P w0 keep K call) {ops : Array Oper} {Q : Exit → Act → World → Prop} {c : F → List Blk → T α} (hQ : ∀ a' L' b' W', (c a' L').all K → RelF a' b' → Rep w0 keep L' W' → Q .normal b' W') :
    ∀ (l : List Oper) (i : Nat), (∀ j o, l[j]? = some o → ops[i + j]? = some o) → i + l.length = ops.size → ∀ {g : Option G} {a : F} {L : List Blk}, (runB call c (opsB P S fn ops l i) g a L).all K →
    ∀ {b : Act} {W : World}, RelF a b → Inv g b → Rep w0 keep L W → wpOps P ops Q (List.range' i l.length) b W
  | [], i, _, _, g, a, L, h, b, W, hf, _, hr => hQ _ _ _ _ h hf hr
  | o :: l, i, hl, hn, g, a, L, h, b, W, hf, hi, hr => by
    have h0 := hl 0 o rfl
    rw [List.length_cons, List.range'_succ, wpOps_cons]
    have h : ((opB P S fn ops i o).run call g a L (runB call c (opsB P S fn ops l (i + 1)))).all K := h
    refine evAtG_sound hS hs (c := runB call c (opsB P S fn ops l (i + 1))) (fits_op (by simpa using h0) call g a L _ K h) hf hi hr fun g' a' L' b' W' hk hf' hi' hr' => ?_
    exact runB_sound hS hs hQ l (i + 1) (fun j u hu => by
      have := hl (j + 1) u (by simpa using hu)
      rw [← this]
      congr 1
      omega) (by rw [List.length_cons] at hn; omega) hk hf' hi' hr'
theorem roundsF_sound {x : Code} {f : PieceE α} (hf : SoundE P w0 keep K x f) {c : Exit → F → List Blk → T α} : ∀ (m : Nat) (a : F) (L : List Blk), (roundsF f c m a L).all K →
    ∀ b W, RelF a b → Rep w0 keep L W → Code.rounds P x (Post w0 keep K c) m b W
  | 0, a, L, h, b, W, _, _ => h.elim
  | m + 1, a, L, h, b, W, hrel, hr => by
    rw [rounds_succ]
    have hg : ∃ a', RelF a' b ∧ (f a' L fun x a1 L1 => againF (roundsF f c m) c x a1 L1).all K := by
      change (match Nat.beq (Nat.mod m 4) 0 with
        | true => forceL (compactW 0 a.w) fun w => f ⟨a.n, w⟩ L fun x a1 L1 => againF (roundsF f c m) c x a1 L1
        | false => f a L fun x a1 L1 => againF (roundsF f c m) c x a1 L1).all K at h
      split at h
      · rw [forceL_eq] at h
        exact ⟨_, RelF.shorten hrel, h⟩
      · exact ⟨_, hrel, h⟩
    obtain ⟨a', hrel', h⟩ := hg
    refine wp_mono (hf _ _ _ h b W hrel' hr) ?_
    rintro x a2 W2 ⟨hx, g, L2, h, hrel2, hr2⟩
    cases x with
    | normal => exact roundsF_sound hf m _ _ h a2 W2 hrel2 hr2
    | _ => exact ⟨hx, g, L2, h, hrel2, hr2⟩
theorem codeB_sound (hS : S.holds P) (hP : P.follows .mixedOrders = true) (fn : FuncId) {call : CallE α} (hss : ∀ w0 keep, SoundC P w0 keep K call) (n : Nat) : ∀ x : Code, SoundE P w0 keep K x ((codeB P S fn x).run call n) := by
  have hs : SoundC P w0 keep K call := hss w0 keep
  intro x
  induction x with
  | skip => intro a L c h b W hrel hr; exact wp_skip ⟨rfl, _, _, h, hrel, hr⟩
  | region id ops d =>
    cases d with
    | false =>
      intro a L c h b W hrel hr
      have h : (runB call (fun a' L' => c .normal a' L') (opsB P S fn ops ops.toList 0) none a L).all K := h
      refine wp_region ?_
      have := runB_sound hS hs (Q := Post w0 keep K c) (c := fun a' L' => c .normal a' L') (fun a' L' b' W' hk hb' hr' => ⟨rfl, _, _, hk, hb', hr'⟩) ops.toList 0 (fun j o ho => by rw [Nat.zero_add]; simpa using ho) (by simp) h hrel (Inv.none _) hr
      rw [Array.length_toList, ← List.range_eq_range'] at this
      exact this
    | true =>
      intro a L c h b W hrel hr
      exact anyF_sound hS hP hss id ops _ _ _ h b W hrel hr
  | seq x y ihx ihy =>
    intro a L c h b W hrel hr
    refine wp_seq (wp_mono (ihx _ _ _ h b W hrel hr) ?_)
    rintro x a2 W2 ⟨hx, g2, L2, h, hrel2, hr2⟩
    cases x with
    | normal => exact ihy _ _ _ h a2 W2 hrel2 hr2
    | _ => exact ⟨hx, _, _, h, hrel2, hr2⟩
  | cond c x y ihx ihy =>
    intro a L k h b W hrel hr
    change (condF c ((codeB P S fn x).run call n) ((codeB P S fn y).run call n) a L k).all K at h
    unfold condF at h
    split at h
    · rename_i s
      split at h
      · rename_i t hb
        have hb' : b.eval (.tmp s) = .bool t := by rw [← hrel.eval]; exact hb
        cases t with
        | true => exact wp_cond_true hb' (ihx _ _ _ (h.1 rfl) b W (hrel.same hb) hr)
        | false => exact wp_cond_false hb' (ihy _ _ _ (h.2 rfl) b W (hrel.same hb) hr)
      · exact h.elim
    · split at h
      · rename_i t hb
        rw [hrel.eval] at hb
        cases t with
        | true => exact wp_cond_true hb (ihx _ _ _ (h.1 rfl) b W hrel hr)
        | false => exact wp_cond_false hb (ihy _ _ _ (h.2 rfl) b W hrel hr)
      · exact h.elim
  | block id x ih =>
    intro a L c h b W hrel hr
    refine wp_block (wp_mono (ih _ _ _ h b W hrel hr) ?_)
    rintro x a2 W2 ⟨hx, g2, L2, h, hrel2, hr2⟩
    cases x with
    | exit id' =>
      simp only [blockF] at h
      split at h
      · rename_i hid
        have hid := Nat.eq_of_beq_eq_true hid
        simp only [Exit.inBlock, hid, if_true]
        exact ⟨rfl, _, _, h, hrel2, hr2⟩
      · rename_i hid
        have hid : ¬ id' = id := fun he => by rw [he, Nat.beq_refl] at hid; cases hid
        simp only [Exit.inBlock, hid, if_false]
        exact ⟨rfl, _, _, h, hrel2, hr2⟩
    | normal => exact ⟨hx, _, _, h, hrel2, hr2⟩
    | ret => exact ⟨hx, _, _, h, hrel2, hr2⟩
    | _ => simp [calm] at hx
  | loop x ih =>
    intro a L c h b W hrel hr
    change (loopF S fn x ((codeB P S fn x).run call n) n a L c).all K at h
    unfold loopF at h
    split at h
    · rename_i k ks hlp
      obtain ⟨j, h⟩ := h
      dsimp only at h
      split at h
      · rename_i k' hj
        rw [nth_eq] at hj
        exact loopBy_sound (hS.lp fn k' (by rw [hlp]; exact List.mem_of_getElem? hj) a L) h hrel hr
      · exact wp_loop_rounds n (roundsF_sound ih n _ _ h b W hrel hr)
    · exact wp_loop_rounds n (roundsF_sound ih n _ _ h b W hrel hr)
  | exit id => intro a L c h b W hrel hr; exact wp_exit ⟨rfl, _, _, h, hrel, hr⟩
  | label l => intro a L c h b W hrel hr; exact wp_label ⟨rfl, _, _, h, hrel, hr⟩
  | ret => intro a L c h b W hrel hr; exact wp_ret ⟨rfl, _, _, h, hrel, hr⟩
  | rangeFunc f ps x y _ _ => intro a L c h; exact h.elim
  | scope x _ => intro a L c h; exact h.elim
  | goto l => intro a L c h; exact h.elim
  | refuse s => intro a L c h; exact h.elim
theorem fnB_sound (hS : S.holds P) (hP : P.follows .mixedOrders = true) {call : CallE α} (hs : ∀ w0 keep, SoundC P w0 keep K call) (n : Nat) {f : FuncId} {args : Array Value} {L : List Blk} {c : Value → List Blk → T α} (h : ((fnB P S f).run call n args L c).all K) (W : World) (hr : Rep w0 keep L W) :
    Calls P f args W fun en W' => ∃ v L', en = .returned v ∧ Rep w0 keep L' W' ∧ (c v L').all K := by
  unfold fnB at h
  rw [nth_eq, Array.getElem?_toList] at h
  split at h
  · exact h.elim
  · rename_i fc hfn
    split at h
    · exact h.elim
    · rename_i x hb
      refine calls_of_wp hfn hb (wp_mono (codeB_sound hS hP f hs n x _ _ _ h _ W (RelF.init args fc.ntmps) hr) ?_)
      rintro x a2 W2 ⟨-, g2, L2, h, hrel2, hr2⟩
      have key : (resT P g2.get L2 fc.results.toList fun l => c (oneV l) L2).all K → bodyPost P fc (fun en W' => ∃ v L', en = .returned v ∧ Rep w0 keep L' W' ∧ (c v L').all K) .ret a2 W2 := fun h => by
        obtain ⟨l, hk, hrun⟩ := resT_spec (fun p hp => (hr2.blk p hp).1) h
        have hrun := resF_run (fn := fc) (hrun W2 (fun p hp => (hr2.blk p hp).1))
        rw [← resF_eq hrel2] at hrun
        exact ⟨hrel2.defers, _, hrun, _, L2, rfl, hr2, hk⟩
      cases x with
      | normal => exact key h
      | ret => exact key h
      | _ => exact h.elim
end sound
section
variable {P : Program} {S : Ctx}
end
end Go.Proofs.YtlpcnaeknbmjdaaGreat.Sy

namespace Go.Proofs.YtlpcnaeknbmjdaaGreat.Sy
open Go Go.RowKit
variable {α : Type}
noncomputable def vnm (n : Nat) : Value → List Nat → List Nat := @Nat.rec (fun _ => Value → List Nat → List Nat) (fun _ acc => acc) (fun _ ih v acc => match v with
  | .pointer (some a) => a.block :: acc
  | .slice (some a) _ _ => a.block :: acc
  | .map (some r) => r :: acc
  | .chan (some r) => r :: acc
  | .agg c => c.toList.foldr ih acc
  | .tuple c => c.toList.foldr ih acc
  | .func _ f c => c.toList.foldr ih (f.toList.foldr ih acc)
  | .iface _ v => ih v acc
  | _ => acc) n
noncomputable def contNm (ct : Cont) (acc : List Nat) : List Nat := match ct with
  | .obj (.cells c _ _) => c.toList.foldr (vnm 6) acc
  | .obj (.map es _) => es.toList.foldr (fun e acc => vnm 6 e.key (vnm 6 e.val acc)) acc
  | .obj (.mapIter (some r) _ _ _) => r :: acc
  | .obj _ => acc
  | .row _ size _ _ xs => match xs with
    | .int _ _ :: _ => match Nat.beq size 1 with
      | true => acc
      | false => xs.foldr (vnm 6) acc
    | _ => xs.foldr (vnm 6) acc
  | .seg _ xs => xs.foldr (vnm 6) acc
noncomputable def memN (b : Nat) (l : List Nat) : Bool := @List.rec Nat (fun _ => Bool) false (fun x _ ih => match Nat.beq x b with
  | true => true
  | false => ih) l
noncomputable def findC (b : Nat) (L : List Blk) (acc : List Nat) : List Nat := @List.rec Blk (fun _ => List Nat) acc (fun p _ ih => match Nat.beq p.nm b with
  | true => contNm p.ct acc
  | false => ih) L
noncomputable def reachN (t : Nat) (L : List Blk) (n : Nat) : List Nat → List Nat → List Nat := @Nat.rec (fun _ => List Nat → List Nat → List Nat) (fun _ vis => vis) (fun _ ih work vis => match work with
  | [] => vis
  | b :: r => match Nat.ble t b with
    | false => ih r vis
    | true => match memN b vis with
      | true => ih r vis
      | false => ih (findC b L r) (b :: vis)) n
noncomputable def topN (L : List Blk) : Nat := @List.rec Blk (fun _ => Nat) 0 (fun p _ ih => match Nat.ble ih p.nm with
  | true => Nat.succ p.nm
  | false => ih) L
noncomputable def maskE (t : Nat) (vis : List Nat) (L : List Blk) : Nat := @List.rec Blk (fun _ => Nat) 1 (fun p _ m => match Nat.ble t p.nm with
  | false => match Nat.beq m 1 with
    | true => 1
    | false => Nat.add (Nat.mul 2 m) 1
  | true => match memN p.nm vis with
    | true => match Nat.beq m 1 with
      | true => 1
      | false => Nat.add (Nat.mul 2 m) 1
    | false => Nat.mul 2 m) L
noncomputable def maskOf (L : List Blk) (v : Value) (L' : List Blk) : Nat := match topN L with
  | t => maskE t (reachN t L' 100000 (vnm 6 v []) []) L'
noncomputable def maskK (L : List Blk) : Nat → (List Blk → T α) → T α := @List.rec Blk (fun _ => Nat → (List Blk → T α) → T α) (fun _ k => k []) (fun x r ih m k => match Nat.ble m 1 with
  | true => k (x :: r)
  | false => match Nat.beq (Nat.mod m 2) 1 with
    | true => ih (Nat.div m 2) fun l => k (x :: l)
    | false => ih (Nat.div m 2) k) L
theorem maskK_spec {K : α → Prop} : ∀ (L : List Blk) (m : Nat) (k : List Blk → T α), (maskK L m k).all K → ∃ L', List.Sublist L' L ∧ (k L').all K
  | [], m, k, h => ⟨[], List.Sublist.refl _, h⟩
  | x :: r, m, k, h => by
    change (match Nat.ble m 1 with
      | true => k (x :: r)
      | false => match Nat.beq (Nat.mod m 2) 1 with
        | true => maskK r (Nat.div m 2) fun l => k (x :: l)
        | false => maskK r (Nat.div m 2) k : T α).all K at h
    split at h
    · exact ⟨_, List.Sublist.refl _, h⟩
    · split at h
      · obtain ⟨L', h1, h2⟩ := maskK_spec r _ _ h
        exact ⟨_, h1.cons_cons x, h2⟩
      · obtain ⟨L', h1, h2⟩ := maskK_spec r _ _ h
        exact ⟨_, h1.cons x, h2⟩
noncomputable def dropT (L : List Blk) (c : Value → List Blk → T α) (v : Value) (L' : List Blk) : T α := .or (.drop (maskOf L v L')) fun m => maskK L' m fun L2 => c v L2
theorem dropT_spec {K : α → Prop} {L : List Blk} {c : Value → List Blk → T α} {v : Value} {L' : List Blk} (h : (dropT L c v L').all K) : ∃ L2, List.Sublist L2 L' ∧ (c v L2).all K := by
  obtain ⟨m, h⟩ := h
  exact maskK_spec _ _ _ h
noncomputable def oldNm (t : Nat) (L : List Blk) (acc : List Nat) : List Nat := @List.rec Blk (fun _ => List Nat) acc (fun p _ ih => match Nat.ble t p.nm with
  | true => ih
  | false => contNm p.ct ih) L
noncomputable def maskO (L : List Blk) (v : Value) (L' : List Blk) : Nat := match topN L with
  | t => maskE t (reachN t L' 100000 (oldNm t L' (vnm 6 v [])) []) L'
noncomputable def dropO (L : List Blk) (c : Value → List Blk → T α) (v : Value) (L' : List Blk) : T α := .or (.drop (maskO L v L')) fun m => maskK L' m fun L2 => c v L2
theorem dropO_spec {K : α → Prop} {L : List Blk} {c : Value → List Blk → T α} {v : Value} {L' : List Blk} (h : (dropO L c v L').all K) : ∃ L2, List.Sublist L2 L' ∧ (c v L2).all K := by
  obtain ⟨m, h⟩ := h
  exact maskK_spec _ _ _ h
structure MC where
  f : FuncId
  i : Nat
  k : Array Value → Cont → CallC
noncomputable def findM (f : FuncId) (l : List MC) : Option MC := @List.rec MC (fun _ => Option MC) none (fun x _ ih => match Nat.beq x.f f with
  | true => some x
  | false => ih) l
theorem findM_spec {f : FuncId} {x : MC} : ∀ {l : List MC}, findM f l = some x → x ∈ l ∧ x.f = f
  | [], h => by cases h
  | y :: l, h => by
    change (match Nat.beq y.f f with
      | true => some y
      | false => findM f l) = some x at h
    split at h
    · rename_i hb
      injection h with h
      subst h
      exact ⟨List.mem_cons_self, Nat.eq_of_beq_eq_true hb⟩
    · obtain ⟨h1, h2⟩ := findM_spec h
      exact ⟨List.mem_cons_of_mem _ h1, h2⟩
structure How where
  dr : FuncId → Bool
  st : FuncId → Bool
  mc : List MC
structure How.holds (P : Program) (H : How) : Prop where
  mc : ∀ x ∈ H.mc, ∀ a ct, Meets P (x.k a ct)
def How.none : How := ⟨fun _ => false, fun _ => false, []⟩
section
variable (P : Program) (S : Ctx) (dr : How)
noncomputable def argM (a : Array Value) (i : Nat) : Nat := match nth a.toList i with
  | some (.slice (some ⟨b, _, _⟩) _ _) => b
  | some (.pointer (some ⟨b, _, _⟩)) => b
  | some (.agg c) => match c.toList with
    | .slice (some ⟨b, _, _⟩) _ _ :: _ => b
    | _ => 0
  | _ => 0
noncomputable def mcT (x : MC) (f : FuncId) (args : Array Value) (L : List Blk) (c : Value → List Blk → T α) : T α := pickT L (argM args x.i) fun p _ => match x.k args p.ct with
  | k => match Nat.decEq k.f f with
    | .isTrue _ => metBy k args L c
    | .isFalse _ => .fail
noncomputable def plainJ (ih : CallE α) (n : Nat) : CallE α := fun f args L c => match dr.dr f with
  | true => (fnC P S f).run ih n args L (dropT L c)
  | false => match dr.st f with
    | true => (fnC P S f).run ih n args L (dropO L c)
    | false => (fnC P S f).run ih n args L c
noncomputable def callJ (n : Nat) : CallE α := @Nat.rec (fun _ => CallE α) (fun _ _ _ _ => .fail) (fun n ih f args L c => match findM f dr.mc with
  | some x => altT (mcT x f args L c) (plainJ P S dr ih n f args L c)
  | none => plainJ P S dr ih n f args L c) n
noncomputable def shutJ (n : Nat) (f : FuncId) (args : Array Value) (L : List Blk) (v : Value) : T Unit := (fnB P S f).run (callJ P S dr n) n args L fun v' _ => .same (.val v') (.val v) (.ret ())
end
section sound
variable {P : Program} {S : Ctx} {dr : How} {w0 : World} {keep : Nat → Prop} {K : α → Prop}
theorem fnC_sound (hS : S.holds P) (hP : P.follows .mixedOrders = true) {call : CallE α} (hs : ∀ w0 keep, SoundC P w0 keep K call) (n : Nat) {f : FuncId} {args : Array Value} {L : List Blk} {c : Value → List Blk → T α} (h : ((fnC P S f).run call n args L c).all K) (W : World) (hr : Rep w0 keep L W) :
    Calls P f args W fun en W' => ∃ v L', en = .returned v ∧ Rep w0 keep L' W' ∧ (c v L').all K := by
  unfold fnC at h
  split at h
  · rename_i k ks hcl
    obtain ⟨j, h⟩ := h
    dsimp only at h
    split at h
    · rename_i k' hj
      rw [nth_eq] at hj
      split at h
      · rename_i hcf _
        have := metBy_sound (hS.cl f k' (by rw [hcl]; exact List.mem_of_getElem? hj) args L) h hr
        rw [hcf] at this
        exact this
      · exact h.elim
    · exact fnB_sound hS hP hs n h W hr
  · exact fnB_sound hS hP hs n h W hr
theorem mcT_sound (hd : dr.holds P) {x : MC} (hx : x ∈ dr.mc) {f : FuncId} {args : Array Value} {L : List Blk} {c : Value → List Blk → T α} (h : (mcT x f args L c).all K) (W : World) (hr : Rep w0 keep L W) :
    Calls P f args W fun en W' => ∃ v L', en = .returned v ∧ Rep w0 keep L' W' ∧ (c v L').all K := by
  obtain ⟨p, j, hj, hb, h⟩ := pickT_spec h
  dsimp only at h
  split at h
  · rename_i hcf _
    have := metBy_sound (hd.mc x hx args p.ct) h hr
    rw [hcf] at this
    exact this
  · exact h.elim
theorem callJ_sound (hS : S.holds P) (hd : dr.holds P) (hP : P.follows .mixedOrders = true) : ∀ (n : Nat) (w0 : World) (keep : Nat → Prop), SoundC P w0 keep K (callJ P S dr n)
  | 0, w0, keep => fun f args L c h => h.elim
  | n + 1, w0, keep => fun f args L c h W hr => by
    have ih : ∀ w0 keep, SoundC P w0 keep K (callJ P S dr n) := callJ_sound hS hd hP n
    have plain : (plainJ P S dr (callJ P S dr n) n f args L c).all K → Calls P f args W fun en W' => ∃ v L', en = .returned v ∧ Rep w0 keep L' W' ∧ (c v L').all K := fun h => by
      unfold plainJ at h
      split at h
      · refine (fnC_sound hS hP ih n h W hr).mono ?_
        rintro en W' ⟨v, L', rfl, hr', h⟩
        obtain ⟨L2, h1, h2⟩ := dropT_spec h
        exact ⟨v, L2, rfl, hr'.sub h1, h2⟩
      split at h
      · refine (fnC_sound hS hP ih n h W hr).mono ?_
        rintro en W' ⟨v, L', rfl, hr', h⟩
        obtain ⟨L2, h1, h2⟩ := dropO_spec h
        exact ⟨v, L2, rfl, hr'.sub h1, h2⟩
      · exact fnC_sound hS hP ih n h W hr
    change (match findM f dr.mc with
      | some x => altT (mcT x f args L c) (plainJ P S dr (callJ P S dr n) n f args L c)
      | none => plainJ P S dr (callJ P S dr n) n f args L c : T α).all K at h
    split at h
    · rename_i x hx
      rcases altT_spec h with h | h
      · exact mcT_sound hd (findM_spec hx).1 h W hr
      · exact plain h
    · exact plain h
def shutC' (f : FuncId) (args : Array Value) (rd : List (Nat × Cont)) (ok : Prop) (v : Value) : CallC := ⟨f, args, ok, ⟨rd, [], 0, []⟩, [plainO v]⟩
theorem meets_shutJ' (hS : S.holds P) (hd : dr.holds P) (hP : P.follows .mixedOrders = true) {n : Nat} {f : FuncId} {args : Array Value} {rd : List (Nat × Cont)} {v : Value} {o : O}
    (h : ∀ ns, ((shutJ P S dr n f args (blks ⟨rd, [], 0, []⟩) v).run o ns).map (fun x => (x.res.asks, x.l)) = ((shutJ P S dr n f args (blks ⟨rd, [], 0, []⟩) v).run o ns).map (fun x => (x.res.asks.map fun l => l.map fun _ => True, x.r))) (h0 : ∀ ns, ((shutJ P S dr n f args (blks ⟨rd, [], 0, []⟩) v).run o ns).map (fun x => x.res.asks.isSome) = some true) :
    Meets P (shutC' f args rd True v) := by
  intro hok W hpre
  have hall : (shutJ P S dr n f args (blks ⟨rd, [], 0, []⟩) v).all fun _ => True := by
    refine all_of_run _ o fun ns => ?_
    have h := h ns
    have h0 := h0 ns
    cases hx : (shutJ P S dr n f args (blks ⟨rd, [], 0, []⟩) v).run o ns with
    | none => rw [hx] at h0; cases h0
    | some x =>
      rw [hx] at h h0
      simp only [Option.map_some, Option.some.injEq, Prod.mk.injEq] at h h0
      cases ha : x.res.asks with
      | none => rw [ha] at h0; cases h0
      | some l =>
        rw [ha] at h
        refine ⟨x, rfl, h.2, Res.asks_holds ha fun p hp => ?_⟩
        have h1 := h.1
        simp only [Option.map_some, Option.some.injEq] at h1
        rw [h1] at hp
        obtain ⟨q, -, rfl⟩ := List.mem_map.1 hp
        trivial
  refine (fnB_sound hS hP (callJ_sound hS hd hP n) n hall W (rep_of_pre hpre)).mono ?_
  rintro en W' ⟨v', L', rfl, hr', hk⟩
  have hv : v' = v := tok_val hk.1
  subst hv
  refine ⟨_, List.mem_singleton_self _, [], rfl, ?_⟩
  exact post_of_rep hr' rfl trivial [] List.nodup_nil trivial
end sound
end Go.Proofs.YtlpcnaeknbmjdaaGreat.Sy

namespace Go.Proofs.YtlpcnaeknbmjdaaGreat.Sy
open Go Go.RowKit
section
variable (P : Program) (S : Ctx) (dr : How)
end
section
variable {P : Program} {S : Ctx} {dr : How}
end
end Go.Proofs.YtlpcnaeknbmjdaaGreat.Sy

namespace Go.Proofs.YtlpcnaeknbmjdaaGreat.Sy
open Go Go.RowKit
def O.pack (k n : Nat) (o : O) : O := @Nat.rec (fun _ => Nat → O) (fun _ => o) (fun _ ih n => .step (Nat.mod n 32) (ih (Nat.div n 32))) k n
def capOf (c : Cont) : Nat := match c with
  | .row _ _ _ cap _ => cap
  | _ => 0
noncomputable def letN (k : Nat) (ns : List Let) : Nat := match nth ns k with
  | some x => x.n
  | none => 0
def letsOf : List Blk → List Let
  | [] => []
  | b :: r => ⟨b.nm, 0, false, undef, []⟩ :: ⟨capOf b.ct, 0, false, undef, []⟩ :: letsOf r
theorem letsOf_length : ∀ l : List Blk, (letsOf l).length = 2 * l.length
  | [] => rfl
  | b :: r => by simp only [letsOf, List.length_cons, letsOf_length r]; omega
noncomputable def sameAll : List Blk → List (Nat × Cont) → T Unit
  | [], [] => .ret ()
  | ⟨nm, ct, true⟩ :: l, (n, c) :: r => .same (.nat nm) (.nat n) (.same (.cont ct) (.cont c) (sameAll l r))
  | _, _ => .fail
theorem sameAll_spec {K : Unit → Prop} : ∀ (l : List Blk) (r : List (Nat × Cont)), (sameAll l r).all K → fitsB l r
  | [], [], _ => trivial
  | [], _ :: _, h => h.elim
  | _ :: _, [], h => by
    unfold sameAll at h
    split at h <;> first | contradiction | exact h.elim
  | ⟨nm, ct, false⟩ :: l, (n, c) :: r, h => h.elim
  | ⟨nm, ct, true⟩ :: l, (n, c) :: r, h => by
    obtain ⟨h1, h2, h3⟩ := h
    injection h1 with h1
    have h2 := tok_cont h2
    subst h1 h2
    exact ⟨⟨rfl, rfl, .inl rfl⟩, sameAll_spec l r h3⟩
noncomputable def endG (ps : List Nat) (k : Nat) (v : List Let → Value) (nw : List Let → List (Nat × Cont)) (v' : Value) (L' : List Blk) : T Unit := match pickL L' ps with
  | bl => .same (.nat bl.length) (.nat k) (.same (.val v') (.val (v (letsOf bl))) (sameAll bl (nw (letsOf bl))))
def graphC (f : FuncId) (args : Array Value) (rd : List (Nat × Cont)) (k : Nat) (v : List Let → Value) (nw : List Let → List (Nat × Cont)) : CallC := ⟨f, args, True, ⟨rd, [], 2 * k, []⟩, [(⟨fun _ => True, nw, fun _ => []⟩, v)]⟩
section
variable (P : Program) (S : Ctx) (dr : How)
noncomputable def graphJ (n : Nat) (f : FuncId) (args : Array Value) (L : List Blk) (ps : List Nat) (k : Nat) (v : List Let → Value) (nw : List Let → List (Nat × Cont)) : T Unit := (fnB P S f).run (callJ P S dr n) n args L (endG ps k v nw)
end
section
variable {P : Program} {S : Ctx} {dr : How}
theorem meets_graphJ (hS : S.holds P) (hd : dr.holds P) (hP : P.follows .mixedOrders = true) {n : Nat} {f : FuncId} {args : Array Value} {rd : List (Nat × Cont)} (ps : List Nat) (hps : ps.Nodup) {k : Nat} {v : List Let → Value} {nw : List Let → List (Nat × Cont)} {o : O}
    (h : ∀ ns, ((graphJ P S dr n f args (blks ⟨rd, [], 0, []⟩) ps k v nw).run o ns).map (fun x => (x.res.asks, x.l)) = ((graphJ P S dr n f args (blks ⟨rd, [], 0, []⟩) ps k v nw).run o ns).map (fun x => (x.res.asks.map fun l => l.map fun _ => True, x.r))) (h0 : ∀ ns, ((graphJ P S dr n f args (blks ⟨rd, [], 0, []⟩) ps k v nw).run o ns).map (fun x => x.res.asks.isSome) = some true) :
    Meets P (graphC f args rd k v nw) := by
  intro hok W hpre
  have hall : (graphJ P S dr n f args (blks ⟨rd, [], 0, []⟩) ps k v nw).all fun _ => True := by
    refine all_of_run _ o fun ns => ?_
    have h := h ns
    have h0 := h0 ns
    cases hx : (graphJ P S dr n f args (blks ⟨rd, [], 0, []⟩) ps k v nw).run o ns with
    | none => rw [hx] at h0; cases h0
    | some x =>
      rw [hx] at h h0
      simp only [Option.map_some, Option.some.injEq, Prod.mk.injEq] at h h0
      cases ha : x.res.asks with
      | none => rw [ha] at h0; cases h0
      | some l =>
        rw [ha] at h
        refine ⟨x, rfl, h.2, Res.asks_holds ha fun p hp => ?_⟩
        have h1 := h.1
        simp only [Option.map_some, Option.some.injEq] at h1
        rw [h1] at hp
        obtain ⟨q, -, rfl⟩ := List.mem_map.1 hp
        trivial
  refine (fnB_sound hS hP (callJ_sound hS hd hP n) n hall W (rep_of_pre (c := ⟨rd, [], 2 * k, []⟩) ⟨hpre.rd, hpre.use, hpre.nodup, hpre.apart, hpre.rb, hpre.apartB⟩)).mono ?_
  rintro en W' ⟨v', L, rfl, hr', hk⟩
  obtain ⟨h1, h2, h3⟩ := hk
  injection h1 with h1
  have h2 := tok_val h2
  refine ⟨_, List.mem_singleton_self _, letsOf (pickL L ps), congrArg Ending.returned h2, ?_⟩
  exact post_of_rep hr' (by rw [letsOf_length, h1]; rfl) trivial ps hps (by
    show fitsB _ (nw _ ++ [])
    rw [List.append_nil]
    exact sameAll_spec _ _ h3)
end
end Go.Proofs.YtlpcnaeknbmjdaaGreat.Sy

namespace Go.Proofs.YtlpcnaeknbmjdaaGreat.Sy
open Go Go.RowKit
open Ev (calm)
variable {P : Program}
end Go.Proofs.YtlpcnaeknbmjdaaGreat.Sy

namespace Go.Proofs.YtlpcnaeknbmjdaaGreat
set_option linter.unusedVariables false
set_option linter.unusedSimpArgs false
open Go Go.RowKit
open Sy (Let Blk)
structure NodeD where
  op : Int
  val : Int
  a : Int
  b : Int
def rdOf (B : List (Nat × Sy.Cont)) : List Blk := B.map fun p => ⟨p.1, p.2, false⟩
abbrev fOnce : FuncId := 129
noncomputable def bodyO1 : Code := Sy.loopBody Tryz.f129 0
noncomputable def bodyO2 : Code := Sy.loopBody Tryz.f129 1
def slO (v : Value) (g n cap i : Nat) : List (Nat × Value) := [(0, v), (2, .bool false), (3, .slice (some ⟨g, 0, none⟩) n cap), (11, v), (12, .int .i64 (Int.ofNat n)), (13, .int .i64 (Int.ofNat i))]
def intsV (l : List Int) : List Value := l.map fun i => Value.int .i64 i
def on1_o : Sy.O := (Sy.O.fork (Sy.O.pack 9 0x421 (Sy.O.fork (Sy.O.pack 18 0x401080210840100000 (Sy.O.fork (Sy.O.pack 15 0x401080210840100000 Sy.O.nil) Sy.O.nil)) (Sy.O.pack 3 0x0 (Sy.O.fork (Sy.O.pack 15 0x401080210840100000 Sy.O.nil) Sy.O.nil)))) Sy.O.nil)
noncomputable def on1_R (v : Value) (g : Nat) (n : Nat) (cap : Nat) (i : Nat) (xs : List Value) (f : Nat → Value) (B : List (Nat × Sy.Cont)) (ns : Nat → Sy.Let) : Sy.Res (Exit × Nat × List Value × List Blk) :=
 let z0 := (Sy.ptrS v)
 let z1 := (rdOf B)
 let z2 := (some (Addr.mk g (0 : Nat) none))
 Sy.Res.br (Ex.ltQ (Int.ofNat i) (Int.ofNat n)) (Sy.Res.need ((∃ (n : Nat), ∃ (c : Nat), v = Value.slice (some (Addr.mk z0 (Sy.offS v) none)) n c) ∧ (0 : Int) ≤ Int.ofNat i ∧ Int.ofNat i < (↑(Sy.lenS v) : Int)) (Sy.Res.need (∃ (i_1 : Int), Sy.HasL z1 z0 (Sy.offS v + Int.toNat (Int.ofNat i) * (4 : Nat)) (Value.int IntKind.i64 i_1)) (Sy.Res.hyp (∀ (u : Value), Sy.HasL z1 z0 (Sy.offS v + Int.toNat (Int.ofNat i) * (4 : Nat)) u → u = Value.int IntKind.i64 (Let.i (ns 0))) (Sy.Res.need (∃ (i_1 : Int), Sy.HasL z1 z0 (Sy.offS v + Int.toNat (Int.ofNat i) * (4 : Nat) + (1 : Nat)) (Value.int IntKind.u64 i_1)) (Sy.Res.hyp (∀ (u : Value), Sy.HasL z1 z0 (Sy.offS v + Int.toNat (Int.ofNat i) * (4 : Nat) + (1 : Nat)) u → u = Value.int IntKind.u64 (Let.i (ns 1))) (Sy.Res.need (∃ (i_1 : Int), Sy.HasL z1 z0 (Sy.offS v + Int.toNat (Int.ofNat i) * (4 : Nat) + (1 : Nat) + (1 : Nat)) (Value.int IntKind.i64 i_1)) (Sy.Res.hyp (∀ (u : Value), Sy.HasL z1 z0 (Sy.offS v + Int.toNat (Int.ofNat i) * (4 : Nat) + (1 : Nat) + (1 : Nat)) u → u = Value.int IntKind.i64 (Let.i (ns 2))) (Sy.Res.need (∃ (i_1 : Int), Sy.HasL z1 z0 (Sy.offS v + Int.toNat (Int.ofNat i) * (4 : Nat) + (1 : Nat) + (1 : Nat) + (1 : Nat)) (Value.int IntKind.i64 i_1)) (Sy.Res.hyp (∀ (u : Value), Sy.HasL z1 z0 (Sy.offS v + Int.toNat (Int.ofNat i) * (4 : Nat) + (1 : Nat) + (1 : Nat) + (1 : Nat)) u → u = Value.int IntKind.i64 (Let.i (ns 3))) (Sy.Res.br (Ex.leQ (3 : Int) (Let.i (ns 0))) (Sy.Res.need ((0 : Int) ≤ Let.i (ns 2) ∧ Let.i (ns 2) < (↑n :
 Int)) (Sy.Res.need (∃ (i : Int), Sy.Cont.at (Sy.Cont.row (3 : Nat) (1 : Nat) n cap xs) ((0 : Nat) + Int.toNat (Let.i (ns 2)) * (1 : Nat)) = some (Value.int IntKind.i64 i)) (Sy.Res.hyp (Sy.Cont.at (Sy.Cont.row (3 : Nat) (1 : Nat) n cap xs) ((0 : Nat) + Int.toNat (Let.i (ns 2)) * (1 : Nat)) = some (Value.int IntKind.i64 (Let.i (ns 5)))) (Sy.Res.need ((0 : Int) ≤ Let.i (ns 2) ∧ Let.i (ns 2) < (↑n : Int)) (Sy.Res.need ((0 : Nat) + Int.toNat (Let.i (ns 2)) * (1 : Nat) < List.length xs) (Sy.Res.br (Ex.leQ (6 : Int) (Let.i (ns 0))) (Sy.Res.need ((0 : Int) ≤ Let.i (ns 3) ∧ Let.i (ns 3) < (↑n : Int)) (Sy.Res.need (∃ (i : Int), Sy.Cont.at (Sy.Cont.row (3 : Nat) (1 : Nat) n cap (List.set xs ((0 : Nat) + Int.toNat (Let.i (ns 2)) * (1 : Nat)) (Value.int IntKind.i64 (Ex.wrapQ IntKind.i64 (Ex.addQ (Let.i (ns 5)) (1 : Int)))))) ((0 : Nat) + Int.toNat (Let.i (ns 3)) * (1 : Nat)) = some (Value.int IntKind.i64 i)) (Sy.Res.hyp (Sy.Cont.at (Sy.Cont.row (3 : Nat) (1 : Nat) n cap (List.set xs ((0 : Nat) + Int.toNat (Let.i (ns 2)) * (1 : Nat)) (Value.int IntKind.i64 (Ex.wrapQ IntKind.i64 (Ex.addQ (Let.i (ns 5)) (1 : Int)))))) ((0 : Nat) + Int.toNat (Let.i (ns 3)) * (1 : Nat)) = some (Value.int IntKind.i64 (Let.i (ns 6)))) (Sy.Res.need ((0 : Int) ≤ Let.i (ns 3) ∧ Let.i (ns 3) < (↑n : Int)) (Sy.Res.need ((0 : Nat) + Int.toNat (Let.i (ns 3)) * (1 : Nat) < List.length (List.set xs ((0 : Nat) + Int.toNat (Let.i (ns 2)) * (1 : Nat)) (Value.int IntKind.i64 (Ex.wrapQ IntKind.i64 (Ex.addQ (Let.i (ns 5)) (1 :
 Int)))))) (Sy.Res.leaf (Exit.normal, (58 : Nat), [v, Value.bool false, Value.slice z2 n cap, v, Value.int IntKind.i64 (Int.ofNat n), Value.int IntKind.i64 (Ex.wrapQ IntKind.i64 (Ex.addQ (Int.ofNat i) (1 : Int)))], Blk.mk (Let.n (ns 4)) (Sy.Cont.obj (Obj.cells (Array.mk [Value.int IntKind.i64 (Let.i (ns 0)), Value.int IntKind.u64 (Let.i (ns 1)), Value.int IntKind.i64 (Let.i (ns 2)), Value.int IntKind.i64 (Let.i (ns 3))]) (127 : Nat))) true :: Blk.mk g (Sy.Cont.row (3 : Nat) (1 : Nat) n cap (List.set (List.set xs ((0 : Nat) + Int.toNat (Let.i (ns 2)) * (1 : Nat)) (Value.int IntKind.i64 (Ex.wrapQ IntKind.i64 (Ex.addQ (Let.i (ns 5)) (1 : Int))))) ((0 : Nat) + Int.toNat (Let.i (ns 3)) * (1 : Nat)) (Value.int IntKind.i64 (Ex.wrapQ IntKind.i64 (Ex.addQ (Let.i (ns 6)) (1 : Int)))))) true :: rdOf B))))))) (Sy.Res.leaf (Exit.normal, (58 : Nat), [v, Value.bool false, Value.slice z2 n cap, v, Value.int IntKind.i64 (Int.ofNat n), Value.int IntKind.i64 (Ex.wrapQ IntKind.i64 (Ex.addQ (Int.ofNat i) (1 : Int)))], Blk.mk (Let.n (ns 4)) (Sy.Cont.obj (Obj.cells (Array.mk [Value.int IntKind.i64 (Let.i (ns 0)), Value.int IntKind.u64 (Let.i (ns 1)), Value.int IntKind.i64 (Let.i (ns 2)), Value.int IntKind.i64 (Let.i (ns 3))]) (127 : Nat))) true :: Blk.mk g (Sy.Cont.row (3 : Nat) (1 : Nat) n cap (List.set xs ((0 : Nat) + Int.toNat (Let.i (ns 2)) * (1 : Nat)) (Value.int IntKind.i64 (Ex.wrapQ IntKind.i64 (Ex.addQ (Let.i (ns 5)) (1 : Int)))))) true :: rdOf B)))))))) (Sy.Res.br (Ex.leQ (6 : Int) (Let.i
 (ns 0))) (Sy.Res.need ((0 : Int) ≤ Let.i (ns 3) ∧ Let.i (ns 3) < (↑n : Int)) (Sy.Res.need (∃ (i : Int), Sy.Cont.at (Sy.Cont.row (3 : Nat) (1 : Nat) n cap xs) ((0 : Nat) + Int.toNat (Let.i (ns 3)) * (1 : Nat)) = some (Value.int IntKind.i64 i)) (Sy.Res.hyp (Sy.Cont.at (Sy.Cont.row (3 : Nat) (1 : Nat) n cap xs) ((0 : Nat) + Int.toNat (Let.i (ns 3)) * (1 : Nat)) = some (Value.int IntKind.i64 (Let.i (ns 5)))) (Sy.Res.need ((0 : Int) ≤ Let.i (ns 3) ∧ Let.i (ns 3) < (↑n : Int)) (Sy.Res.need ((0 : Nat) + Int.toNat (Let.i (ns 3)) * (1 : Nat) < List.length xs) (Sy.Res.leaf (Exit.normal, (58 : Nat), [v, Value.bool false, Value.slice z2 n cap, v, Value.int IntKind.i64 (Int.ofNat n), Value.int IntKind.i64 (Ex.wrapQ IntKind.i64 (Ex.addQ (Int.ofNat i) (1 : Int)))], Blk.mk (Let.n (ns 4)) (Sy.Cont.obj (Obj.cells (Array.mk [Value.int IntKind.i64 (Let.i (ns 0)), Value.int IntKind.u64 (Let.i (ns 1)), Value.int IntKind.i64 (Let.i (ns 2)), Value.int IntKind.i64 (Let.i (ns 3))]) (127 : Nat))) true :: Blk.mk g (Sy.Cont.row (3 : Nat) (1 : Nat) n cap (List.set xs ((0 : Nat) + Int.toNat (Let.i (ns 3)) * (1 : Nat)) (Value.int IntKind.i64 (Ex.wrapQ IntKind.i64 (Ex.addQ (Let.i (ns 5)) (1 : Int)))))) true :: rdOf B))))))) (Sy.Res.leaf (Exit.normal, (58 : Nat), [v, Value.bool false, Value.slice z2 n cap, v, Value.int IntKind.i64 (Int.ofNat n), Value.int IntKind.i64 (Ex.wrapQ IntKind.i64 (Ex.addQ (Int.ofNat i) (1 : Int)))], Blk.mk (Let.n (ns 4)) (Sy.Cont.obj (Obj.cells (Array.mk [Value.int IntKind.i64 (Let.i
 (ns 0)), Value.int IntKind.u64 (Let.i (ns 1)), Value.int IntKind.i64 (Let.i (ns 2)), Value.int IntKind.i64 (Let.i (ns 3))]) (127 : Nat))) true :: Blk.mk g (Sy.Cont.row (3 : Nat) (1 : Nat) n cap xs) true :: rdOf B))))))))))))) (Sy.Res.leaf (Exit.exit (0 : Nat), (58 : Nat), [v, Value.bool false, Value.slice z2 n cap, v, Value.int IntKind.i64 (Int.ofNat n), Value.int IntKind.i64 (Int.ofNat i)], Blk.mk g (Sy.Cont.row (3 : Nat) (1 : Nat) n cap xs) true :: rdOf B))
theorem on1_run (v : Value) (g n cap i : Nat) (xs : List Value) (f : Nat → Value) (B : List (Nat × Sy.Cont)) : Sy.Ran (Sy.pieceT Tryz.prog Sy.S0 50 fOnce bodyO1 58 (slO v g n cap i) ((List.range 58).map f) (⟨g, .row 3 1 n cap xs, true⟩ :: rdOf B) [0, 2, 3, 11, 12, 13]) on1_o (on1_R v g n cap i xs f B) := ⟨fun ns => by kernel_rfl, fun ns => by kernel_rfl⟩
noncomputable def slO2 (v : Value) (g n cap i : Nat) : List (Nat × Value) := [(0, v), (2, .bool false), (3, .slice (some ⟨g, 0, none⟩) n cap), (38, .slice (some ⟨g, 0, none⟩) n cap), (39, .int .i64 (Int.ofNat n)), (40, .int .i64 (Int.ofNat i))]
def on2_o : Sy.O := (Sy.O.fork (Sy.O.pack 9 0x10842100020 (Sy.O.fork Sy.O.nil Sy.O.nil)) Sy.O.nil)
noncomputable def on2_R (v : Value) (g : Nat) (n : Nat) (cap : Nat) (i : Nat) (xs : List Value) (f : Nat → Value) (B : List (Nat × Sy.Cont)) (ns : Nat → Sy.Let) : Sy.Res (Exit × Nat × List Value × List Blk) :=
 let z0 := (Int.ofNat i)
 let z1 := ((0 : Nat) + Int.toNat z0 * (1 : Nat))
 let z2 := (Let.i (ns 0))
 let z3 := (some (Addr.mk g (0 : Nat) none))
 Sy.Res.br (Ex.ltQ z0 (Int.ofNat n)) (Sy.Res.need ((0 : Int) ≤ Int.ofNat i ∧ Int.ofNat i < (↑n : Int)) (Sy.Res.need (∃ (i_1 : Int), Sy.Cont.at (Sy.Cont.row (3 : Nat) (1 : Nat) n cap xs) z1 = some (Value.int IntKind.i64 i_1)) (Sy.Res.hyp (Sy.Cont.at (Sy.Cont.row (3 : Nat) (1 : Nat) n cap xs) z1 = some (Value.int IntKind.i64 z2)) (Sy.Res.need (∃ (p : Option Addr), ∃ (n : Nat), ∃ (c : Nat), v = Value.slice p n c) (Sy.Res.br (bif !Ex.eqQ z2 (1 : Int) == Ex.ltQ z0 (Ex.wrapQ IntKind.i64 (Ex.subQ' (Int.ofNat (Sy.lenS v)) (1 : Int))) then true else Ex.ltQ (1 : Int) z2) (Sy.Res.leaf (Exit.ret, (58 : Nat), [v, Value.bool false, Value.slice z3 n cap, Value.slice z3 n cap, Value.int IntKind.i64 (Int.ofNat n), Value.int IntKind.i64 z0], Blk.mk g (Sy.Cont.row (3 : Nat) (1 : Nat) n cap xs) true :: rdOf B)) (Sy.Res.leaf (Exit.normal, (58 : Nat), [v, Value.bool false, Value.slice z3 n cap, Value.slice z3 n cap, Value.int IntKind.i64 (Int.ofNat n), Value.int IntKind.i64 (Ex.wrapQ IntKind.i64 (Ex.addQ z0 (1 : Int)))], Blk.mk g (Sy.Cont.row (3 : Nat) (1 : Nat) n cap xs) true :: rdOf B))))))) (Sy.Res.leaf (Exit.exit (2 : Nat), (58 : Nat), [v, Value.bool false, Value.slice z3 n cap, Value.slice z3 n cap, Value.int IntKind.i64 (Int.ofNat n), Value.int IntKind.i64 z0], Blk.mk g (Sy.Cont.row (3 : Nat) (1 : Nat) n cap xs) true :: rdOf B))
theorem on2_run (v : Value) (g n cap i : Nat) (xs : List Value) (f : Nat → Value) (B : List (Nat × Sy.Cont)) : Sy.Ran (Sy.pieceT Tryz.prog Sy.S0 50 fOnce bodyO2 58 (slO2 v g n cap i) ((List.range 58).map f) (⟨g, .row 3 1 n cap xs, true⟩ :: rdOf B) [0, 2, 3, 38, 39, 40]) on2_o (on2_R v g n cap i xs f B) := ⟨fun ns => by kernel_rfl, fun ns => by kernel_rfl⟩
end Go.Proofs.YtlpcnaeknbmjdaaGreat

namespace Go.Proofs.YtlpcnaeknbmjdaaGreat
open Go Go.RowKit
open Sy (Let Blk HasL)
structure NodesR (B : List (Nat × Sy.Cont)) (v : Value) (l : List NodeD) : Prop where
  sl : ∃ p n c, v = .slice p n c
  len : Sy.lenS v = l.length
  at_ : l ≠ [] → ∃ n c, v = .slice (some ⟨Sy.ptrS v, Sy.offS v, none⟩) n c
  op : ∀ i n, l[i]? = some n → HasL (rdOf B) (Sy.ptrS v) (Sy.offS v + i * 4) (.int .i64 n.op)
  val : ∀ i n, l[i]? = some n → HasL (rdOf B) (Sy.ptrS v) (Sy.offS v + i * 4 + 1) (.int .u64 n.val)
  a : ∀ i n, l[i]? = some n → HasL (rdOf B) (Sy.ptrS v) (Sy.offS v + i * 4 + 1 + 1) (.int .i64 n.a)
  b : ∀ i n, l[i]? = some n → HasL (rdOf B) (Sy.ptrS v) (Sy.offS v + i * 4 + 1 + 1 + 1) (.int .i64 n.b)
def bump (u : List Int) (i : Int) : List Int := u.set i.toNat (u.getD i.toNat 0 + 1)
noncomputable def usedS (u : List Int) (n : NodeD) : List Int := bif Ex.leQ 6 n.op then bump (bif Ex.leQ 3 n.op then bump u n.a else u) n.b else bif Ex.leQ 3 n.op then bump u n.a else u
noncomputable def usedL (l : List NodeD) (u : List Int) : List Int := l.foldl usedS u
def OperO (m : Nat) (n : NodeD) : Prop := (3 ≤ n.op → 0 ≤ n.a ∧ n.a < m) ∧ (6 ≤ n.op → 0 ≤ n.b ∧ n.b < m)
def BdU (m k : Nat) (u : List Int) : Prop := u.length = m ∧ ∀ x ∈ u, 0 ≤ x ∧ x ≤ 2 * k
theorem bump_bd {m : Nat} {k : Int} {u : List Int} {i : Int} (h : u.length = m ∧ ∀ x ∈ u, 0 ≤ x ∧ x ≤ k) (hi : 0 ≤ i ∧ i < m) : (bump u i).length = m ∧ ∀ x ∈ bump u i, 0 ≤ x ∧ x ≤ k + 1 := by
  unfold bump
  refine ⟨by simp [h.1], fun x hx => ?_⟩
  rcases List.mem_or_eq_of_mem_set hx with hx | rfl
  · have := h.2 x hx
    omega
  · have hlt : i.toNat < u.length := by rw [h.1]; omega
    have := h.2 (u.getD i.toNat 0) (by rw [List.getD_eq_getElem?_getD, List.getElem?_eq_getElem hlt]; exact List.getElem_mem hlt)
    omega
theorem row_ints {t n cap : Nat} {u : List Int} {i : Nat} (h : i < u.length) : (Sy.Cont.row t 1 n cap (intsV u)).at (0 + i * 1) = some (.int .i64 (u.getD i 0)) := by
  simp [Sy.Cont.at, intsV, h, List.getD_eq_getElem?_getD]
theorem ints_set {u : List Int} {i : Int} (h : 0 ≤ u.getD i.toNat 0 ∧ u.getD i.toNat 0 < 1000000) {x : Int} (hx : x = u.getD i.toNat 0) : (intsV u).set (0 + i.toNat * 1) (.int .i64 (Ex.wrapQ .i64 (Ex.addQ x 1))) = intsV (bump u i) := by
  subst hx
  have e : ∀ y : Int, 0 ≤ y ∧ y < 1000000 → Ex.wrapQ .i64 (Ex.addQ y 1) = y + 1 := fun y hy => by
    rw [Ex.wrapQ_eq, Ex.addQ_eq]
    simp [IntKind.wrap, IntKind.signed, IntKind.bits]
    omega
  rw [e _ h]
  unfold intsV bump
  rw [List.map_set]
  congr 1
  omega
theorem w_succ {k : Nat} (h : k < 4611686018427387904) : Ex.wrapQ .i64 (Ex.addQ (Int.ofNat k) 1) = Int.ofNat (k + 1) := by
  rw [Ex.wrapQ_eq, Ex.addQ_eq]
  simp [IntKind.wrap, IntKind.signed, IntKind.bits]
  omega
theorem getD_bd {m k : Nat} {u : List Int} (h : BdU m k u) {i : Nat} (hi : i < m) : 0 ≤ u.getD i 0 ∧ u.getD i 0 ≤ 2 * k := by
  have hlt : i < u.length := by rw [h.1]; exact hi
  exact h.2 _ (by rw [List.getD_eq_getElem?_getD, List.getElem?_eq_getElem hlt]; exact List.getElem_mem hlt)
theorem usedS_bd {m k : Nat} {u : List Int} {n : NodeD} (h : BdU m k u) (hn : OperO m n) : BdU m (k + 1) (usedS u n) := by
  have h0 : u.length = m ∧ ∀ x ∈ u, 0 ≤ x ∧ x ≤ (2 * k : Nat) := ⟨h.1, fun x hx => by have := h.2 x hx; omega⟩
  have up : ∀ (w : List Int) (c : Int), (w.length = m ∧ ∀ x ∈ w, 0 ≤ x ∧ x ≤ c) → c ≤ 2 * (k + 1 : Nat) → BdU m (k + 1) w := fun w c h1 h2 => ⟨h1.1, fun x hx => by have := h1.2 x hx; omega⟩
  unfold usedS
  rw [Ex.leQ_eq, Ex.leQ_eq]
  by_cases h3 : 3 ≤ n.op
  · have b1 := bump_bd h0 (hn.1 h3)
    by_cases h6 : 6 ≤ n.op
    · simp only [h3, h6, decide_true, cond_true]
      exact up _ _ (bump_bd b1 (hn.2 h6)) (by omega)
    · simp only [h3, h6, decide_true, decide_false, cond_true, cond_false]
      exact up _ _ b1 (by omega)
  · have h6 : ¬ 6 ≤ n.op := by omega
    simp only [h3, h6, decide_false, cond_false]
    exact up _ _ h0 (by omega)
def OkO (B : List (Nat × Sy.Cont)) (v : Value) (l : List NodeD) : Prop := NodesR B v l ∧ l.length ≤ 65536 ∧ ∀ n ∈ l, OperO l.length n
noncomputable def loop1C (B : List (Nat × Sy.Cont)) (v : Value) (l : List NodeD) (g cap : Nat) : Sy.LoopC :=
  ⟨.loop bodyO1, 58, slO v g l.length cap 0, OkO B v l, ⟨[], [(g, .row 3 1 l.length cap (intsV (List.replicate l.length 0)))], 0, B⟩,
    [(⟨fun _ => True, fun _ => [(g, .row 3 1 l.length cap (intsV (usedL l (List.replicate l.length 0))))], fun _ => []⟩, .exit 0, fun _ => [(0, v), (2, .bool false), (3, .slice (some ⟨g, 0, none⟩) l.length cap)])]⟩
theorem usedL_step {l : List NodeD} {k : Nat} {n : NodeD} (h : l[k]? = some n) (u : List Int) : usedL (l.take (k + 1)) u = usedS (usedL (l.take k) u) n := by
  unfold usedL
  rw [List.take_add_one, h]
  simp
theorem usedL_bd {l : List NodeD} {m : Nat} {u : List Int} (hn : ∀ n ∈ l, OperO m n) (hu : BdU m 0 u) : ∀ k, k ≤ l.length → BdU m k (usedL (l.take k) u)
  | 0, _ => by simpa [usedL] using hu
  | k + 1, h => by
    have hk : l[k]? = some l[k] := List.getElem?_eq_getElem (by omega)
    rw [usedL_step hk]
    exact usedS_bd (usedL_bd hn hu k (by omega)) (hn _ (List.getElem_mem _))
theorem ent_tail {x y : Blk} {L : List Blk} : Sy.Ent (x :: y :: L) (y :: L) := Sy.Ent.sub (List.sublist_cons_self _ _)
theorem loop1C_met (B : List (Nat × Sy.Cont)) (v : Value) (l : List NodeD) (g cap : Nat) : Sy.MeetsL Tryz.prog (loop1C B v l g cap) := by
  refine Sy.loop_ofB (S := fun _ : Nat => Sy.S0) (n := 50) (fn := fOnce) (fun _ => Sy.S0_holds) mixed (body := bodyO1) rfl [0, 2, 3, 11, 12, 13] (fun k : Nat => slO v g l.length cap k)
    (fun k => ⟨g, .row 3 1 l.length cap (intsV (usedL (l.take k) (List.replicate l.length 0))), true⟩ :: rdOf B) (fun k => k ≤ l.length ∧ OkO B v l) (fun k => l.length - k)
    0 (fun h => ⟨Nat.zero_le _, h⟩) (fun p hp => hp) (by simp only [List.take_zero]; exact Sy.Ent.refl _) (o := fun _ => on1_o) (R := fun k f => on1_R v g l.length cap k _ f B) (fun k f _ => on1_run v g l.length cap k _ f B) ?_
  rintro - k f ⟨hk, hR, hlen, hop⟩ ns
  have hb := usedL_bd (u := List.replicate l.length 0) hop ⟨by simp, fun x hx => by rw [List.eq_of_mem_replicate hx]; simp⟩ k hk
  have hnext : ∀ n, l[k]? = some n → usedL (l.take (k + 1)) (List.replicate l.length 0) = usedS (usedL (l.take k) (List.replicate l.length 0)) n := fun n h => usedL_step h _
  generalize hu : usedL (l.take k) (List.replicate l.length 0) = u at *
  simp only [on1_R, Sy.Res.holds]
  refine ⟨fun hlt => ?_, fun hge => ?_⟩
  · have hlt : k < l.length := by rw [Ex.ltQ_eq] at hlt; simpa using hlt
    obtain ⟨n, hn⟩ : ∃ n, l[k]? = some n := ⟨_, List.getElem?_eq_getElem hlt⟩
    have hO := hop n (List.mem_of_getElem? hn)
    have next : ∀ (w : List Int) (x : Blk), w = usedS u n → Sy.leafLB (loop1C B v l g cap) [0, 2, 3, 11, 12, 13] (fun k : Nat => slO v g l.length cap k) (fun k => ⟨g, .row 3 1 l.length cap (intsV (usedL (l.take k) (List.replicate l.length 0))), true⟩ :: rdOf B) (fun k => k ≤ l.length ∧ OkO B v l) (fun k => l.length - k) k
        (.normal, 58, [v, .bool false, .slice (some ⟨g, 0, none⟩) l.length cap, v, .int .i64 (Int.ofNat l.length), .int .i64 (Ex.wrapQ .i64 (Ex.addQ (Int.ofNat k) 1))], x :: ⟨g, .row 3 1 l.length cap (intsV w), true⟩ :: rdOf B) := fun w x hw => by
      refine ⟨rfl, .inl ⟨rfl, k + 1, ⟨by omega, hR, hlen, hop⟩, by show l.length - (k + 1) < l.length - k; omega, ?_, ?_⟩⟩
      · rw [w_succ (by omega)]
        rfl
      · show Sy.Ent _ (⟨g, .row 3 1 l.length cap (intsV (usedL (l.take (k + 1)) (List.replicate l.length 0))), true⟩ :: rdOf B)
        rw [hnext n hn, hw]
        exact ent_tail
    refine ⟨⟨hR.at_ (fun h => by rw [h] at hlt; simp at hlt), by simp, by rw [hR.len]; simpa using hlt⟩, ⟨n.op, hR.op k n hn⟩, fun e0 => ⟨⟨n.val, hR.val k n hn⟩, fun _ => ⟨⟨n.a, hR.a k n hn⟩, fun e2 => ⟨⟨n.b, hR.b k n hn⟩, fun e3 => ?_⟩⟩⟩⟩
    have e0 := e0 _ (hR.op k n hn)
    have e2 := e2 _ (hR.a k n hn)
    have e3 := e3 _ (hR.b k n hn)
    simp only [Value.int.injEq, true_and] at e0 e2 e3
    rw [← e0, ← e2, ← e3]
    have inr : ∀ (w : List Int) (c : Nat), BdU l.length c w → c ≤ 65540 → ∀ i : Int, 0 ≤ i ∧ i < (l.length : Int) → i.toNat < w.length ∧ 0 ≤ w.getD i.toNat 0 ∧ w.getD i.toNat 0 < 1000000 := fun w c hw hc i hi => by
      have := getD_bd hw (i := i.toNat) (by omega)
      refine ⟨by rw [hw.1]; omega, this.1, by omega⟩
    have hb1 : 3 ≤ n.op → BdU l.length (k + 1) (bump u n.a) := fun h3 => by
      have := bump_bd (m := l.length) (k := 2 * k) ⟨hb.1, fun x hx => hb.2 x hx⟩ (hO.1 h3)
      exact ⟨this.1, fun x hx => by have := this.2 x hx; omega⟩
    refine ⟨fun h3 => ?_, fun h3 => ?_⟩
    · have h3' : 3 ≤ n.op := by rw [Ex.leQ_eq] at h3; simpa using h3
      obtain ⟨r1, r2⟩ := inr u k hb (by omega) n.a (hO.1 h3')
      refine ⟨hO.1 h3', ⟨_, row_ints r1⟩, fun e5 => ⟨hO.1 h3', by simp [intsV]; omega, fun h6 => ?_, fun h6 => ?_⟩⟩
      · have h6' : 6 ≤ n.op := by rw [Ex.leQ_eq] at h6; simpa using h6
        rw [row_ints r1] at e5
        simp only [Option.some.injEq, Value.int.injEq, true_and] at e5
        rw [ints_set r2 e5.symm]
        obtain ⟨q1, q2⟩ := inr (bump u n.a) (k + 1) (hb1 h3') (by omega) n.b (hO.2 h6')
        refine ⟨hO.2 h6', ⟨_, row_ints q1⟩, fun e6 => ⟨hO.2 h6', by simp [intsV] at q1 ⊢; omega, ?_⟩⟩
        rw [row_ints q1] at e6
        simp only [Option.some.injEq, Value.int.injEq, true_and] at e6
        rw [ints_set q2 e6.symm]
        exact next _ _ (by unfold usedS; rw [h3, h6]; rfl)
      · rw [row_ints r1] at e5
        simp only [Option.some.injEq, Value.int.injEq, true_and] at e5
        rw [ints_set r2 e5.symm]
        exact next _ _ (by unfold usedS; rw [h3, h6]; rfl)
    · refine ⟨fun h6 => ?_, fun h6 => next _ _ (by unfold usedS; rw [h3, h6]; rfl)⟩
      rw [Ex.leQ_eq] at h3 h6
      simp at h3 h6
      omega
  · have hge : k = l.length := by rw [Ex.ltQ_eq] at hge; simp at hge; omega
    subst hge
    refine ⟨rfl, .inr ⟨by simp, _, List.mem_singleton_self _, rfl, [], rfl, ⟨[0, 1, 2], rfl⟩, ?_, trivial⟩⟩
    have : u = usedL l (List.replicate l.length 0) := by rw [← hu, List.take_length]
    rw [this]
    exact Sy.Ent.sub (List.Sublist.cons_cons _ (List.nil_sublist _))
noncomputable def loop1D (B : List (Nat × Sy.Cont)) (v : Value) (l : List NodeD) (g cap : Nat) : Sy.LoopC :=
  ⟨.loop bodyO1, 58, slO v g (Sy.lenS v) cap 0, OkO B v l, ⟨[], [(g, .row 3 1 (Sy.lenS v) cap (List.replicate (Sy.lenS v) (.int .i64 0)))], 0, B⟩,
    [(⟨fun _ => True, fun _ => [(g, .row 3 1 (Sy.lenS v) cap (intsV (usedL l (List.replicate l.length 0))))], fun _ => []⟩, .exit 0, fun _ => [(0, v), (2, .bool false), (3, .slice (some ⟨g, 0, none⟩) (Sy.lenS v) cap)])]⟩
theorem loop1D_met (B : List (Nat × Sy.Cont)) (v : Value) (l : List NodeD) (g cap : Nat) : Sy.MeetsL Tryz.prog (loop1D B v l g cap) := fun hok => by
  have e : Sy.lenS v = l.length := hok.1.len
  have h := loop1C_met B v l g cap hok
  unfold loop1D
  rw [e]
  have hz : intsV (List.replicate l.length 0) = List.replicate l.length (.int .i64 0) := by simp [intsV]
  unfold loop1C at h
  rw [hz] at h
  exact h
end Go.Proofs.YtlpcnaeknbmjdaaGreat

namespace Go.Proofs.YtlpcnaeknbmjdaaGreat
open Go Go.RowKit
open Sy (Let Blk HasL)
def passB (m i : Nat) (x : Int) : Bool := bif !(Ex.eqQ x 1 == Ex.ltQ (Int.ofNat i) ((m : Int) - 1)) then true else Ex.ltQ 1 x
noncomputable def failsU (m : Nat) (u : List Int) : Prop := ∃ i x, u[i]? = some x ∧ passB m i x = true
theorem sub_one {m : Nat} (h : m ≤ 65536) : Ex.wrapQ .i64 (Ex.subQ' (Int.ofNat m) 1) = (m : Int) - 1 := by
  rw [Ex.wrapQ_eq, Ex.subQ_eq]
  simp [IntKind.wrap, IntKind.signed, IntKind.bits]
  omega
noncomputable def loop2C (B : List (Nat × Sy.Cont)) (v : Value) (l : List NodeD) (u : List Int) (g cap : Nat) : Sy.LoopC :=
  ⟨.loop bodyO2, 58, slO2 v g l.length cap 0, OkO B v l ∧ u.length = l.length, ⟨[], [(g, .row 3 1 l.length cap (intsV u))], 0, B⟩,
    [(⟨fun _ => failsU l.length u, fun _ => [], fun _ => []⟩, .ret, fun _ => [(2, .bool false)]),
     (⟨fun _ => ¬ failsU l.length u, fun _ => [], fun _ => []⟩, .exit 2, fun _ => [])]⟩
theorem loop2C_met (B : List (Nat × Sy.Cont)) (v : Value) (l : List NodeD) (u : List Int) (g cap : Nat) : Sy.MeetsL Tryz.prog (loop2C B v l u g cap) := by
  refine Sy.loop_ofB (S := fun _ : Nat => Sy.S0) (n := 50) (fn := fOnce) (fun _ => Sy.S0_holds) mixed (body := bodyO2) rfl [0, 2, 3, 38, 39, 40] (fun k : Nat => slO2 v g l.length cap k)
    (fun _ => ⟨g, .row 3 1 l.length cap (intsV u), true⟩ :: rdOf B) (fun k => k ≤ l.length ∧ (OkO B v l ∧ u.length = l.length) ∧ ∀ i x, i < k → u[i]? = some x → passB l.length i x = false) (fun k => l.length - k)
    0 (fun h => ⟨Nat.zero_le _, h, fun i x hi => by omega⟩) (fun p hp => hp) (Sy.Ent.refl _) (o := fun _ => on2_o) (R := fun k f => on2_R v g l.length cap k _ f B) (fun k f _ => on2_run v g l.length cap k _ f B) ?_
  rintro - k f ⟨hk, ⟨⟨hR, hlen, hop⟩, hul⟩, hinv⟩ ns
  simp only [on2_R, Sy.Res.holds]
  refine ⟨fun hlt => ?_, fun hge => ?_⟩
  · have hlt : k < l.length := by rw [Ex.ltQ_eq] at hlt; simpa using hlt
    have hku : k < u.length := by omega
    refine ⟨⟨by simp, by simpa using hlt⟩, ⟨_, row_ints hku⟩, fun e0 => ⟨hR.sl, ?_⟩⟩
    rw [show Int.toNat (Int.ofNat k) = k from rfl, row_ints hku] at e0
    simp only [Option.some.injEq, Value.int.injEq, true_and] at e0
    have hx : u[k]? = some (u.getD k 0) := by rw [List.getD_eq_getElem?_getD, List.getElem?_eq_getElem hku]; rfl
    rw [hR.len, sub_one hlen, ← e0]
    refine ⟨fun h => ?_, fun h => ?_⟩
    · exact ⟨rfl, .inr ⟨by simp, _, List.mem_cons_self, rfl, [], rfl, ⟨[1], rfl⟩, Sy.Ent.sub (List.nil_sublist _), k, _, hx, h⟩⟩
    · refine ⟨rfl, .inl ⟨rfl, k + 1, ⟨by omega, ⟨⟨hR, hlen, hop⟩, hul⟩, fun i x hi hxi => ?_⟩, by show l.length - (k + 1) < l.length - k; omega, ?_, Sy.Ent.refl _⟩⟩
      · by_cases he : i = k
        · subst he
          rw [hx] at hxi
          injection hxi with hxi
          rw [← hxi]
          exact h
        · exact hinv i x (by omega) hxi
      · rw [w_succ (by omega)]
        rfl
  · have hge : k = l.length := by rw [Ex.ltQ_eq] at hge; simp at hge; omega
    subst hge
    refine ⟨rfl, .inr ⟨by simp, _, List.mem_cons_of_mem _ (List.mem_singleton_self _), rfl, [], rfl, ⟨[], rfl⟩, Sy.Ent.sub (List.nil_sublist _), ?_⟩⟩
    rintro ⟨i, x, hx, hp⟩
    have hi : i < u.length := (List.getElem?_eq_some_iff.1 hx).1
    rw [hinv i x (by omega) hx] at hp
    cases hp
noncomputable def loop2D (B : List (Nat × Sy.Cont)) (v : Value) (l : List NodeD) (u : List Int) (g cap : Nat) : Sy.LoopC :=
  ⟨.loop bodyO2, 58, slO2 v g (Sy.lenS v) cap 0, OkO B v l ∧ u.length = l.length, ⟨[], [(g, .row 3 1 (Sy.lenS v) cap (intsV u))], 0, B⟩,
    [(⟨fun _ => failsU l.length u, fun _ => [], fun _ => []⟩, .ret, fun _ => [(2, .bool false)]),
     (⟨fun _ => ¬ failsU l.length u, fun _ => [], fun _ => []⟩, .exit 2, fun _ => [])]⟩
theorem loop2D_met (B : List (Nat × Sy.Cont)) (v : Value) (l : List NodeD) (u : List Int) (g cap : Nat) : Sy.MeetsL Tryz.prog (loop2D B v l u g cap) := fun hok => by
  have e : Sy.lenS v = l.length := hok.1.1.len
  have h := loop2C_met B v l u g cap hok
  unfold loop2D
  rw [e]
  exact h
def failsB (m : Nat) : List Int → Nat → Bool
  | [], _ => false
  | x :: r, i => passB m i x || failsB m r (i + 1)
theorem failsB_iff (m : Nat) : ∀ (u : List Int) (i : Nat), failsB m u i = true ↔ ∃ j x, u[j]? = some x ∧ passB m (i + j) x = true
  | [], i => by simp [failsB]
  | y :: r, i => by
    have ih := failsB_iff m r (i + 1)
    simp only [failsB, Bool.or_eq_true, ih]
    constructor
    · rintro (h | ⟨j, x, h1, h2⟩)
      · exact ⟨0, y, rfl, h⟩
      · exact ⟨j + 1, x, by simpa using h1, by rw [show i + (j + 1) = i + 1 + j by omega]; exact h2⟩
    · rintro ⟨j, x, h1, h2⟩
      cases j with
      | zero =>
        simp only [List.getElem?_cons_zero, Option.some.injEq] at h1
        subst h1
        exact .inl h2
      | succ j => exact .inr ⟨j, x, by simpa using h1, by rw [show i + 1 + j = i + (j + 1) by omega]; exact h2⟩
theorem failsU_iff (m : Nat) (u : List Int) : failsU m u ↔ failsB m u 0 = true := by
  rw [failsB_iff]
  simp [failsU]
noncomputable def onceF (l : List NodeD) : Bool := !(failsB l.length (usedL l (List.replicate l.length 0)) 0)
noncomputable def onceC (B : List (Nat × Sy.Cont)) (v : Value) (l : List NodeD) : Sy.CallC := ⟨fOnce, #[v], OkO B v l, ⟨[], [], 0, B⟩, [Sy.plainO (.bool (onceF l))]⟩
noncomputable def ctxO (B : List (Nat × Sy.Cont)) (v : Value) (l : List NodeD) : Sy.Ctx := Sy.mkS [] [(fOnce, fun a _ => loop1D B v l (Sy.ptrN (a.get 3)) (Sy.capN (a.get 3))), (fOnce, fun a _ => loop2D B v l (usedL l (List.replicate l.length 0)) (Sy.ptrN (a.get 3)) (Sy.capN (a.get 3)))] []
theorem ctxO_holds (B : List (Nat × Sy.Cont)) (v : Value) (l : List NodeD) : (ctxO B v l).holds Tryz.prog := Sy.mkS_holds (fun _ h => (by cases h)) (fun p hp a L => by
  rcases List.mem_cons.1 hp with rfl | hp
  · exact loop1D_met _ _ _ _ _
  rcases List.mem_singleton.1 hp with rfl
  exact loop2D_met _ _ _ _ _ _) (fun _ h => (by cases h))
end Go.Proofs.YtlpcnaeknbmjdaaGreat

namespace Go.Proofs.YtlpcnaeknbmjdaaGreat
set_option linter.unusedVariables false
set_option linter.unusedSimpArgs false
open Go Go.RowKit
open Sy (Let Blk HasL)
def onc_o : Sy.O := (Sy.O.pack 17 0x8401004000840008421 (Sy.O.fork (Sy.O.steps [0, 1] Sy.O.nil) (Sy.O.steps [0, 1] Sy.O.nil)))
noncomputable def onc_R (B : List (Nat × Sy.Cont)) (v : Value) (l : List NodeD) (ns : Nat → Sy.Let) : Sy.Res (Value × List Blk) :=
 let z0 := (Sy.lenS v)
 let z1 := (Int.ofNat z0)
 let z2 := (List.length l)
 let z3 := (usedL l (List.replicate z2 (0 : Int)))
 Sy.Res.need (∃ (p : Option Addr), ∃ (n : Nat), ∃ (c : Nat), v = Value.slice p n c) (Sy.Res.need ((0 : Int) ≤ Int.ofNat z0 ∧ Int.toNat z1 * (8 : Nat) ≤ (281474976710656 : Nat) ∧ Int.toNat z1 ≤ (9223372036854775807 : Nat)) (Sy.Res.need (∃ (p : Option Addr), ∃ (n : Nat), ∃ (c : Nat), v = Value.slice p n c) (Sy.Res.need (NodesR B v l ∧ List.length l ≤ (65536 : Nat) ∧ ∀ (n : NodeD), n ∈ l → OperO z2 n) (Sy.Res.need (Sy.GotL ([] ++ rdOf B) B) (Sy.Res.hyp True (Sy.Res.need (OkO B v l ∧ List.length z3 = List.length l) (Sy.Res.need (Sy.GotL ([] ++ List.eraseIdx (Blk.mk (Let.n (ns 0)) (Sy.Cont.row (3 : Nat) (1 : Nat) z0 (Int.toNat z1) (intsV z3)) true :: ([] ++ rdOf B)) (nat_lit 0)) B) (Sy.Res.both (Sy.Res.hyp (∃ (i : Nat), ∃ (x : Int), z3[i]? = some x ∧ passB z2 i x = true) (Sy.Res.leaf (Value.bool false, [] ++ ([] ++ List.eraseIdx (Blk.mk (Let.n (ns 0)) (Sy.Cont.row (3 : Nat) (1 : Nat) z0 (Int.toNat z1) (intsV z3)) true :: ([] ++ rdOf B)) (nat_lit 0))))) (Sy.Res.hyp (failsU z2 z3 → False) (Sy.Res.leaf (Value.bool true, [] ++ ([] ++ List.eraseIdx (Blk.mk (Let.n (ns 0)) (Sy.Cont.row (3 : Nat) (1 : Nat) z0 (Int.toNat z1) (intsV z3)) true :: ([] ++ rdOf B)) (nat_lit 0)))))))))))))
theorem onc_run (B : List (Nat × Sy.Cont)) (v : Value) (l : List NodeD) : Sy.Ran (Sy.inB Tryz.prog (ctxO B v l) 50 fOnce #[v] (rdOf B)) onc_o (onc_R B v l) := ⟨fun ns => by kernel_rfl, fun ns => by kernel_rfl⟩
end Go.Proofs.YtlpcnaeknbmjdaaGreat

namespace Go.Proofs.YtlpcnaeknbmjdaaGreat
open Go Go.RowKit
open Sy (Let Blk HasL)
theorem gotL_of {L : List Blk} {B : List (Nat × Sy.Cont)} (h : ∀ p ∈ rdOf B, p ∈ L) : Sy.GotL L B := fun p hp => ⟨⟨p.1, p.2, false⟩, h _ (List.mem_map.2 ⟨p, hp, rfl⟩), rfl, fun _ h => h⟩
theorem plainB_leaf {c : Sy.CallC} {v : Value} (ho : Sy.plainO v ∈ c.outs) (hm : c.mem.m = 0) {y : Value × List Blk} (hv : y.1 = v) : Sy.leafB c y :=
  ⟨_, ho, [], hm.symm, hv, Sy.Ent.sub (List.nil_sublist _), trivial⟩
theorem usedL_len (l : List NodeD) (u : List Int) : (usedL l u).length = u.length := by
  unfold usedL
  induction l generalizing u with
  | nil => rfl
  | cons n l ih =>
    rw [List.foldl_cons, ih]
    unfold usedS bump
    cases Ex.leQ 6 n.op <;> cases Ex.leQ 3 n.op <;> simp
theorem onceC_met (B : List (Nat × Sy.Cont)) (v : Value) (l : List NodeD) : Sy.Meets Tryz.prog (onceC B v l) := by
  refine Sy.meets_ofB (ctxO_holds B v l) mixed (L := rdOf B) (Sy.Ent.refl _) (onc_run B v l) fun hok ns => ?_
  obtain ⟨hR, hlen, hop⟩ := hok
  have hul : (usedL l (List.replicate l.length 0)).length = l.length := by rw [usedL_len]; simp
  simp only [onc_R, Sy.Res.holds]
  have e : Int.toNat (Int.ofNat (Sy.lenS v)) = l.length := by rw [hR.len]; rfl
  refine ⟨hR.sl, ⟨by simp, by rw [e]; omega, by rw [e]; omega⟩, hR.sl, ⟨hR, hlen, hop⟩, gotL_of (fun p hp => by simpa using hp), fun _ => ⟨⟨⟨hR, hlen, hop⟩, hul⟩, gotL_of (fun p hp => by simp [hp]), fun h => ?_, fun h => ?_⟩⟩
  · refine plainB_leaf (List.mem_singleton_self _) rfl ?_
    have : failsB l.length (usedL l (List.replicate l.length 0)) 0 = true := (failsU_iff _ _).1 h
    unfold onceF
    rw [this]
    rfl
  · refine plainB_leaf (List.mem_singleton_self _) rfl ?_
    have : failsB l.length (usedL l (List.replicate l.length 0)) 0 = false := by
      cases hb : failsB l.length (usedL l (List.replicate l.length 0)) 0 with
      | false => rfl
      | true => exact absurd ((failsU_iff _ _).2 hb) h
    unfold onceF
    rw [this]
    rfl
end Go.Proofs.YtlpcnaeknbmjdaaGreat

namespace Go.Proofs.YtlpcnaeknbmjdaaGreat
set_option linter.unusedVariables false
set_option linter.unusedSimpArgs false
open Go Go.RowKit
open Sy (Let Blk HasL)
abbrev fExpr : FuncId := 98
noncomputable def bodyX : Code := Sy.loopBody Tryz.f98 0
def slX (v : Value) (loc : Int) (i : Nat) : List (Nat × Value) := [(0, v), (1, .int .i64 loc), (4, .bool false), (9, v), (10, .int .i64 (Int.ofNat (Sy.lenS v))), (11, .int .i64 (Int.ofNat i))]
def ex1_o : Sy.O := (Sy.O.fork (Sy.O.pack 46 0x4e5183c000382d62c0002928398000142418800004000040000021 (Sy.O.fork (Sy.O.pack 20 0x9cc12800020c220000100001 (Sy.O.fork Sy.O.nil Sy.O.nil)) (Sy.O.pack 3 0x0 (Sy.O.fork (Sy.O.pack 32 0xb9a1600005a9283980001424184400002000001 (Sy.O.fork Sy.O.nil Sy.O.nil)) (Sy.O.pack 7 0x8000 (Sy.O.fork (Sy.O.pack 8 0x800008000 (Sy.O.fork Sy.O.nil Sy.O.nil)) (Sy.O.pack 13 0x1000010000100001 (Sy.O.fork Sy.O.nil Sy.O.nil)))))))) Sy.O.nil)
noncomputable def ex1_R (v : Value) (loc : Int) (i : Nat) (f : Nat → Value) (B : List (Nat × Sy.Cont)) (ns : Nat → Sy.Let) : Sy.Res (Exit × Nat × List Value × List Blk) :=
 let z0 := (Int.ofNat i)
 let z1 := (Int.ofNat (Sy.lenS v))
 let z2 := (Sy.ptrS v)
 let z3 := (rdOf B)
 let z4 := (Sy.offS v + Int.toNat z0 * (4 : Nat))
 let z5 := (Let.i (ns 0))
 let z6 := (Sy.offS v + Int.toNat z0 * (4 : Nat) + (1 : Nat))
 let z7 := (Let.i (ns 1))
 let z8 := (Sy.offS v + Int.toNat z0 * (4 : Nat) + (1 : Nat) + (1 : Nat))
 let z9 := (Let.i (ns 2))
 let z10 := (Sy.offS v + Int.toNat z0 * (4 : Nat) + (1 : Nat) + (1 : Nat) + (1 : Nat))
 let z11 := (Let.i (ns 3))
 let z12 := [v, Value.int IntKind.i64 loc, Value.bool false, v, Value.int IntKind.i64 z1, Value.int IntKind.i64 z0]
 let z13 := (Sy.Cont.obj (Obj.cells (Array.mk [Value.int IntKind.i64 z5, Value.int IntKind.u64 z7, Value.int IntKind.i64 z9, Value.int IntKind.i64 z11]) (127 : Nat)))
 Sy.Res.br (Ex.ltQ z0 z1) (Sy.Res.need ((∃ (n : Nat), ∃ (c : Nat), v = Value.slice (some (Addr.mk z2 (Sy.offS v) none)) n c) ∧ (0 : Int) ≤ Int.ofNat i ∧ Int.ofNat i < (↑(Sy.lenS v) : Int)) (Sy.Res.need (∃ (i_1 : Int), HasL z3 z2 z4 (Value.int IntKind.i64 i_1)) (Sy.Res.hyp (∀ (u : Value), HasL z3 z2 z4 u → u = Value.int IntKind.i64 z5) (Sy.Res.need (∃ (i_1 : Int), HasL z3 z2 z6 (Value.int IntKind.u64 i_1)) (Sy.Res.hyp (∀ (u : Value), HasL z3 z2 z6 u → u = Value.int IntKind.u64 z7) (Sy.Res.need (∃ (i_1 : Int), HasL z3 z2 z8 (Value.int IntKind.i64 i_1)) (Sy.Res.hyp (∀ (u : Value), HasL z3 z2 z8 u → u = Value.int IntKind.i64 z9) (Sy.Res.need (∃ (i_1 : Int), HasL z3 z2 z10 (Value.int IntKind.i64 i_1)) (Sy.Res.hyp (∀ (u : Value), HasL z3 z2 z10 u → u = Value.int IntKind.i64 z11) (Sy.Res.br (Ex.eqQ z5 (1 : Int)) (Sy.Res.br (bif !Ex.eqQ z9 (0 : Int) then true else !Ex.eqQ z11 (0 : Int)) (Sy.Res.leaf (Exit.ret, (113 : Nat), z12, Blk.mk (Let.n (ns 4)) z13 true :: rdOf B)) (Sy.Res.leaf (Exit.normal, (113 : Nat), [v, Value.int IntKind.i64 loc, Value.bool false, v, Value.int IntKind.i64 z1, Value.int IntKind.i64 (Ex.wrapQ IntKind.i64 (Ex.addQ z0 (1 : Int)))], Blk.mk (Let.n (ns 4)) z13 true :: rdOf B))) (Sy.Res.br (Ex.eqQ z5 (2 : Int)) (Sy.Res.br (bif !bif Ex.eqQ z9 (0 : Int) then Ex.ltQ z7 (Ex.wrapQ IntKind.u64 loc) else false then true else !Ex.eqQ z11 (0 : Int)) (Sy.Res.leaf (Exit.ret, (113 : Nat), z12, Blk.mk (Let.n (ns 4)) z13 true :: rdOf B)) (Sy.Res.leaf (Exit.normal, (113 : Nat),
 [v, Value.int IntKind.i64 loc, Value.bool false, v, Value.int IntKind.i64 z1, Value.int IntKind.i64 (Ex.wrapQ IntKind.i64 (Ex.addQ z0 (1 : Int)))], Blk.mk (Let.n (ns 4)) z13 true :: rdOf B))) (Sy.Res.br (bif Ex.leQ (3 : Int) z5 then Ex.leQ z5 (5 : Int) else false) (Sy.Res.br (bif !bif Ex.leQ (0 : Int) z9 then Ex.ltQ z9 z0 else false then true else !bif Ex.eqQ z11 (0 : Int) then Ex.eqQ z7 (0 : Int) else false) (Sy.Res.leaf (Exit.ret, (113 : Nat), z12, Blk.mk (Let.n (ns 4)) z13 true :: rdOf B)) (Sy.Res.leaf (Exit.normal, (113 : Nat), [v, Value.int IntKind.i64 loc, Value.bool false, v, Value.int IntKind.i64 z1, Value.int IntKind.i64 (Ex.wrapQ IntKind.i64 (Ex.addQ z0 (1 : Int)))], Blk.mk (Let.n (ns 4)) z13 true :: rdOf B))) (Sy.Res.br (bif !bif Ex.leQ (0 : Int) z9 then Ex.ltQ z9 z0 else false then true else !bif bif bif bif Ex.leQ (0 : Int) z11 then Ex.ltQ z11 z0 else false then Ex.leQ (6 : Int) z5 else false then Ex.leQ z5 (19 : Int) else false then Ex.eqQ z7 (0 : Int) else false) (Sy.Res.leaf (Exit.ret, (113 : Nat), z12, Blk.mk (Let.n (ns 4)) z13 true :: rdOf B)) (Sy.Res.leaf (Exit.normal, (113 : Nat), [v, Value.int IntKind.i64 loc, Value.bool false, v, Value.int IntKind.i64 z1, Value.int IntKind.i64 (Ex.wrapQ IntKind.i64 (Ex.addQ z0 (1 : Int)))], Blk.mk (Let.n (ns 4)) z13 true :: rdOf B))))))))))))))) (Sy.Res.leaf (Exit.exit (0 : Nat), (113 : Nat), z12, rdOf B))
theorem ex1_run (v : Value) (loc : Int) (i : Nat) (f : Nat → Value) (B : List (Nat × Sy.Cont)) : Sy.Ran (Sy.pieceT Tryz.prog Sy.S0 50 fExpr bodyX 113 (slX v loc i) ((List.range 113).map f) (rdOf B) [0, 1, 4, 9, 10, 11]) ex1_o (ex1_R v loc i f B) := ⟨fun ns => by kernel_rfl, fun ns => by kernel_rfl⟩
end Go.Proofs.YtlpcnaeknbmjdaaGreat

namespace Go.Proofs.YtlpcnaeknbmjdaaGreat
open Go Go.RowKit
open Sy (Let Blk HasL)
noncomputable def badX (loc : Int) (i : Nat) (n : NodeD) : Bool := bif Ex.eqQ n.op 1 then (bif !Ex.eqQ n.a 0 then true else !Ex.eqQ n.b 0)
  else bif Ex.eqQ n.op 2 then (bif !bif Ex.eqQ n.a 0 then Ex.ltQ n.val (Ex.wrapQ .u64 loc) else false then true else !Ex.eqQ n.b 0)
  else bif (bif Ex.leQ 3 n.op then Ex.leQ n.op 5 else false) then (bif !bif Ex.leQ 0 n.a then Ex.ltQ n.a (Int.ofNat i) else false then true else !bif Ex.eqQ n.b 0 then Ex.eqQ n.val 0 else false)
  else (bif !bif Ex.leQ 0 n.a then Ex.ltQ n.a (Int.ofNat i) else false then true
    else !bif bif bif bif Ex.leQ 0 n.b then Ex.ltQ n.b (Int.ofNat i) else false then Ex.leQ 6 n.op else false then Ex.leQ n.op 19 else false then Ex.eqQ n.val 0 else false)
def OkX (B : List (Nat × Sy.Cont)) (v : Value) (l : List NodeD) : Prop := NodesR B v l ∧ l.length < 4398046511104
def anyBad (loc : Int) (l : List NodeD) : Prop := ∃ i n, l[i]? = some n ∧ badX loc i n = true
noncomputable def loopXC (B : List (Nat × Sy.Cont)) (v : Value) (l : List NodeD) (loc : Int) : Sy.LoopC :=
  ⟨.loop bodyX, 113, slX v loc 0, OkX B v l, ⟨[], [], 0, B⟩,
    [(⟨fun _ => anyBad loc l, fun _ => [], fun _ => []⟩, .ret, fun _ => [(4, .bool false)]),
     (⟨fun _ => ¬ anyBad loc l, fun _ => [], fun _ => []⟩, .exit 0, fun _ => [(0, v), (1, .int .i64 loc)])]⟩
theorem loopXC_met (B : List (Nat × Sy.Cont)) (v : Value) (l : List NodeD) (loc : Int) : Sy.MeetsL Tryz.prog (loopXC B v l loc) := by
  refine Sy.loop_ofB (S := fun _ : Nat => Sy.S0) (n := 50) (fn := fExpr) (fun _ => Sy.S0_holds) mixed (body := bodyX) rfl [0, 1, 4, 9, 10, 11] (fun k : Nat => slX v loc k)
    (fun _ => rdOf B) (fun k => k ≤ l.length ∧ OkX B v l ∧ ∀ i n, i < k → l[i]? = some n → badX loc i n = false) (fun k => l.length - k)
    0 (fun h => ⟨Nat.zero_le _, h, fun i x hi => by omega⟩) (fun p hp => hp) (Sy.Ent.refl _) (o := fun _ => ex1_o) (R := fun k f => ex1_R v loc k f B) (fun k f _ => ex1_run v loc k f B) ?_
  rintro - k f ⟨hk, ⟨hR, hlen⟩, hinv⟩ ns
  simp only [ex1_R, Sy.Res.holds]
  refine ⟨fun hlt => ?_, fun hge => ?_⟩
  · have hlt : k < l.length := by rw [Ex.ltQ_eq, hR.len] at hlt; simpa using hlt
    obtain ⟨n, hn⟩ : ∃ n, l[k]? = some n := ⟨_, List.getElem?_eq_getElem hlt⟩
    have next : ∀ (x : Blk), badX loc k n = false → Sy.leafLB (loopXC B v l loc) [0, 1, 4, 9, 10, 11] (fun k : Nat => slX v loc k) (fun _ => rdOf B) (fun k => k ≤ l.length ∧ OkX B v l ∧ ∀ i n, i < k → l[i]? = some n → badX loc i n = false) (fun k => l.length - k) k
        (.normal, 113, [v, .int .i64 loc, .bool false, v, .int .i64 (Int.ofNat (Sy.lenS v)), .int .i64 (Ex.wrapQ .i64 (Ex.addQ (Int.ofNat k) 1))], x :: rdOf B) := fun x hb => by
      refine ⟨rfl, .inl ⟨rfl, k + 1, ⟨by omega, ⟨hR, hlen⟩, fun i m hi hm => ?_⟩, by show l.length - (k + 1) < l.length - k; omega, ?_, Sy.Ent.sub (List.sublist_cons_self _ _)⟩⟩
      · by_cases he : i = k
        · subst he
          rw [hn] at hm
          injection hm with hm
          rw [← hm]
          exact hb
        · exact hinv i m (by omega) hm
      · rw [w_succ (by omega)]
        rfl
    have stop : ∀ (x : Blk), badX loc k n = true → Sy.leafLB (loopXC B v l loc) [0, 1, 4, 9, 10, 11] (fun k : Nat => slX v loc k) (fun _ => rdOf B) (fun k => k ≤ l.length ∧ OkX B v l ∧ ∀ i n, i < k → l[i]? = some n → badX loc i n = false) (fun k => l.length - k) k
        (.ret, 113, [v, .int .i64 loc, .bool false, v, .int .i64 (Int.ofNat (Sy.lenS v)), .int .i64 (Int.ofNat k)], x :: rdOf B) := fun x hb =>
      ⟨rfl, .inr ⟨by simp, _, List.mem_cons_self, rfl, [], rfl, ⟨[2], rfl⟩, Sy.Ent.sub (List.nil_sublist _), k, n, hn, hb⟩⟩
    refine ⟨⟨hR.at_ (fun h => by rw [h] at hlt; simp at hlt), by simp, by rw [hR.len]; simpa using hlt⟩, ⟨n.op, hR.op k n hn⟩, fun e0 => ⟨⟨n.val, hR.val k n hn⟩, fun e1 => ⟨⟨n.a, hR.a k n hn⟩, fun e2 => ⟨⟨n.b, hR.b k n hn⟩, fun e3 => ?_⟩⟩⟩⟩
    have e0 := e0 _ (hR.op k n hn)
    have e1 := e1 _ (hR.val k n hn)
    have e2 := e2 _ (hR.a k n hn)
    have e3 := e3 _ (hR.b k n hn)
    simp only [Value.int.injEq, true_and] at e0 e1 e2 e3
    rw [← e0, ← e1, ← e2, ← e3]
    refine ⟨fun h1 => ⟨fun hb => stop _ ?_, fun hb => next _ ?_⟩, fun h1 => ⟨fun h2 => ⟨fun hb => stop _ ?_, fun hb => next _ ?_⟩, fun h2 => ⟨fun h3 => ⟨fun hb => stop _ ?_, fun hb => next _ ?_⟩, fun h3 => ⟨fun hb => stop _ ?_, fun hb => next _ ?_⟩⟩⟩⟩
    · unfold badX; rw [h1]; exact hb
    · unfold badX; rw [h1]; exact hb
    · unfold badX; rw [h1, h2]; exact hb
    · unfold badX; rw [h1, h2]; exact hb
    · unfold badX; rw [h1, h2, h3]; exact hb
    · unfold badX; rw [h1, h2, h3]; exact hb
    · unfold badX; rw [h1, h2, h3]; exact hb
    · unfold badX; rw [h1, h2, h3]; exact hb
  · have hge : k = l.length := by rw [Ex.ltQ_eq, hR.len] at hge; simp at hge; omega
    subst hge
    refine ⟨rfl, .inr ⟨by simp, _, List.mem_cons_of_mem _ (List.mem_singleton_self _), rfl, [], rfl, ⟨[0, 1], rfl⟩, Sy.Ent.sub (List.nil_sublist _), ?_⟩⟩
    rintro ⟨i, x, hx, hp⟩
    rw [hinv i x (List.getElem?_eq_some_iff.1 hx).1 hx] at hp
    cases hp
noncomputable def ctxX (B : List (Nat × Sy.Cont)) (v : Value) (l : List NodeD) (loc : Int) : Sy.Ctx := Sy.mkS [(fOnce, fun _ _ => onceC B v l)] [(fExpr, fun _ _ => loopXC B v l loc)] []
theorem ctxX_holds (B : List (Nat × Sy.Cont)) (v : Value) (l : List NodeD) (loc : Int) : (ctxX B v l loc).holds Tryz.prog := Sy.mkS_holds (fun p hp a L => by
  rcases List.mem_singleton.1 hp with rfl
  exact onceC_met _ _ _) (fun p hp a L => by
  rcases List.mem_singleton.1 hp with rfl
  exact loopXC_met _ _ _ _) (fun _ h => (by cases h))
end Go.Proofs.YtlpcnaeknbmjdaaGreat

namespace Go.Proofs.YtlpcnaeknbmjdaaGreat
set_option linter.unusedVariables false
set_option linter.unusedSimpArgs false
open Go Go.RowKit
open Sy (Let Blk HasL)
def exq_o : Sy.O := (Sy.O.pack 4 0x401 (Sy.O.fork (Sy.O.steps [0, 1] Sy.O.nil) (Sy.O.pack 5 0x108420 (Sy.O.fork (Sy.O.pack 6 0x2000400 Sy.O.nil) (Sy.O.steps [0] Sy.O.nil)))))
noncomputable def exq_R (B : List (Nat × Sy.Cont)) (v : Value) (l : List NodeD) (loc : Int) (ns : Nat → Sy.Let) : Sy.Res (Value × List Blk) :=
 let z0 := ([] ++ rdOf B)
 let z1 := (Int.ofNat (Sy.lenS v))
 Sy.Res.need (∃ (p : Option Addr), ∃ (n : Nat), ∃ (c : Nat), v = Value.slice p n c) (Sy.Res.need (NodesR B v l ∧ List.length l < (4398046511104 : Nat)) (Sy.Res.need (Sy.GotL z0 B) (Sy.Res.both (Sy.Res.hyp (∃ (i : Nat), ∃ (n : NodeD), l[i]? = some n ∧ badX loc i n = true) (Sy.Res.leaf (Value.bool false, [] ++ z0))) (Sy.Res.hyp (anyBad loc l → False) (Sy.Res.need (∃ (p : Option Addr), ∃ (n : Nat), ∃ (c : Nat), v = Value.slice p n c) (Sy.Res.need (∃ (p : Option Addr), ∃ (n : Nat), ∃ (c : Nat), v = Value.slice p n c) (Sy.Res.br (bif Ex.ltQ (0 : Int) z1 then Ex.leQ z1 (65536 : Int) else false) (Sy.Res.need (NodesR B v l ∧ List.length l ≤ (65536 : Nat) ∧ ∀ (n : NodeD), n ∈ l → OperO (List.length l) n) (Sy.Res.need (Sy.GotL ([] ++ ([] ++ z0)) B) (Sy.Res.hyp True (Sy.Res.leaf (Value.bool (bif true then onceF l else false), [] ++ ([] ++ ([] ++ z0))))))) (Sy.Res.leaf (Value.bool false, [] ++ z0)))))))))
theorem exq_run (B : List (Nat × Sy.Cont)) (v : Value) (l : List NodeD) (loc : Int) : Sy.Ran (Sy.inB Tryz.prog (ctxX B v l loc) 50 fExpr #[v, .int .i64 loc] (rdOf B)) exq_o (exq_R B v l loc) := ⟨fun ns => by kernel_rfl, fun ns => by kernel_rfl⟩
end Go.Proofs.YtlpcnaeknbmjdaaGreat

namespace Go.Proofs.YtlpcnaeknbmjdaaGreat
open Go Go.RowKit
open Sy (Let Blk HasL)
noncomputable def anyBadB (loc : Int) : List NodeD → Nat → Bool
  | [], _ => false
  | n :: r, i => badX loc i n || anyBadB loc r (i + 1)
theorem anyBadB_iff (loc : Int) : ∀ (u : List NodeD) (i : Nat), anyBadB loc u i = true ↔ ∃ j x, u[j]? = some x ∧ badX loc (i + j) x = true
  | [], i => by simp [anyBadB]
  | y :: r, i => by
    have ih := anyBadB_iff loc r (i + 1)
    simp only [anyBadB, Bool.or_eq_true, ih]
    constructor
    · rintro (h | ⟨j, x, h1, h2⟩)
      · exact ⟨0, y, rfl, h⟩
      · exact ⟨j + 1, x, by simpa using h1, by rw [show i + (j + 1) = i + 1 + j by omega]; exact h2⟩
    · rintro ⟨j, x, h1, h2⟩
      cases j with
      | zero =>
        simp only [List.getElem?_cons_zero, Option.some.injEq] at h1
        subst h1
        exact .inl h2
      | succ j => exact .inr ⟨j, x, by simpa using h1, by rw [show i + 1 + j = i + (j + 1) by omega]; exact h2⟩
theorem anyBad_iff (loc : Int) (l : List NodeD) : anyBad loc l ↔ anyBadB loc l 0 = true := by
  rw [anyBadB_iff]
  simp [anyBad]
noncomputable def exprF (loc : Int) (l : List NodeD) : Bool := !(anyBadB loc l 0) && (decide (0 < l.length) && (decide (l.length ≤ 65536) && onceF l))
theorem oper_of {loc : Int} {l : List NodeD} (h : ¬ anyBad loc l) : ∀ n ∈ l, OperO l.length n := fun n hn => by
  obtain ⟨i, hi⟩ := List.mem_iff_getElem?.1 hn
  have hlt : i < l.length := (List.getElem?_eq_some_iff.1 hi).1
  have hb : badX loc i n = false := by
    cases hb : badX loc i n with
    | false => rfl
    | true => exact absurd ⟨i, n, hi, hb⟩ h
  unfold badX at hb
  simp only [Ex.eqQ_eq, Ex.leQ_eq, Ex.ltQ_eq] at hb
  constructor
  · intro h3
    by_cases h1 : n.op = 1
    · omega
    by_cases h2 : n.op = 2
    · omega
    by_cases h5 : n.op ≤ 5
    · simp [h1, h2, h3, h5] at hb
      omega
    · simp [h1, h2, h3, h5] at hb
      omega
  · intro h6
    have h1 : n.op ≠ 1 := by omega
    have h2 : n.op ≠ 2 := by omega
    have h5 : ¬ n.op ≤ 5 := by omega
    simp [h1, h2, h5] at hb
    omega
noncomputable def exprC (B : List (Nat × Sy.Cont)) (v : Value) (l : List NodeD) (loc : Int) : Sy.CallC := ⟨fExpr, #[v, .int .i64 loc], OkX B v l, ⟨[], [], 0, B⟩, [Sy.plainO (.bool (exprF loc l))]⟩
theorem exprC_met (B : List (Nat × Sy.Cont)) (v : Value) (l : List NodeD) (loc : Int) : Sy.Meets Tryz.prog (exprC B v l loc) := by
  refine Sy.meets_ofB (ctxX_holds B v l loc) mixed (L := rdOf B) (Sy.Ent.refl _) (exq_run B v l loc) fun hok ns => ?_
  obtain ⟨hR, hlen⟩ := hok
  have leaf : ∀ (b : Bool) (L : List Blk), b = exprF loc l → Sy.leafB (exprC B v l loc) (.bool b, L) := fun b L h => plainB_leaf (List.mem_singleton_self _) rfl (by rw [h])
  simp only [exq_R, Sy.Res.holds]
  refine ⟨hR.sl, ⟨hR, hlen⟩, gotL_of (fun p hp => by simpa using hp), fun h => leaf _ _ ?_, fun h => ⟨hR.sl, hR.sl, fun hb => ⟨⟨hR, ?_, oper_of h⟩, gotL_of (fun p hp => by simp [hp]), fun _ => leaf _ _ ?_⟩, fun hb => leaf _ _ ?_⟩⟩
  · have : anyBadB loc l 0 = true := (anyBad_iff _ _).1 h
    simp [exprF, this]
  · rw [hR.len, Ex.ltQ_eq, Ex.leQ_eq] at hb
    by_cases h0 : 0 < l.length
    · simp [h0] at hb
      omega
    · simp [h0] at hb
  · have h1 : anyBadB loc l 0 = false := by
      cases h1 : anyBadB loc l 0 with
      | false => rfl
      | true => exact absurd ((anyBad_iff _ _).2 h1) h
    rw [hR.len, Ex.ltQ_eq, Ex.leQ_eq] at hb
    by_cases h0 : 0 < l.length
    · have hl : l.length ≤ 65536 := by
        simp [h0] at hb
        omega
      simp [exprF, h1, h0, hl]
    · simp [h0] at hb
  · have h1 : anyBadB loc l 0 = false := by
      cases h1 : anyBadB loc l 0 with
      | false => rfl
      | true => exact absurd ((anyBad_iff _ _).2 h1) h
    rw [hR.len, Ex.ltQ_eq, Ex.leQ_eq] at hb
    by_cases h0 : 0 < l.length
    · have hl : ¬ l.length ≤ 65536 := by
        intro hl
        simp [h0] at hb
        omega
      simp [exprF, hl]
    · simp [exprF, h0]
end Go.Proofs.YtlpcnaeknbmjdaaGreat
