/-
  LowerTells: its loops.
-/
import Derived.Test.YtgaejhhipnpopaaLwQ
import Derived.Test.YtgaejhhipnpopaaLwW
namespace Go.Proofs.Ytgaejhhipnpopaa
set_option linter.unusedVariables false
set_option linter.unusedSimpArgs false
open Go Go.RowKit
open Sy (Let Blk)

abbrev fTells : FuncId := 5
noncomputable def bodyF0 : Code := Sy.loopBody Try.f5 0
noncomputable def bodyF1 : Code := Sy.loopBody Try.f5 1
noncomputable def bodyF2 : Code := Sy.loopBody Try.f5 2

def slF1 (V0 V5 : Value) (k r : Int) (gl n cap i : Nat) : List (Nat × Value) := [(0, V0), (1, .int .i64 k), (4, .bool false), (5, V5), (6, .int .i64 r), (7, .slice (some ⟨gl, 0, none⟩) n cap), (15, .int .i64 i)]
def slF2 (g o c n ga m ca i : Nat) : List (Nat × Value) := [(0, .slice (some ⟨g, o, none⟩) n c), (4, .bool false), (5, .slice (some ⟨ga, 0, none⟩) m ca), (16, .int .i64 i)]

def f1_o : Sy.O := (Sy.O.fork (Sy.O.steps [1, 1, 0, 0, 1, 0, 0, 1, 0, 0, 1, 0, 0, 1, 0, 0, 1, 0, 0, 1] Sy.O.nil) Sy.O.nil)
noncomputable def f1_R (V0 : Value) (V5 : Value) (k : Int) (r : Int) (gl : Nat) (n : Nat) (cap : Nat) (i : Nat) (xs : List Value) (rest : List Value) (ns : Nat → Sy.Let) : Sy.Res (Exit × Nat × List Value × List Blk) := Sy.Res.br (Ex.ltQ (↑i : Int) (↑n : Int))
 (Sy.Res.need ((0 : Int) ≤ (↑i : Int) ∧ (↑i : Int) < (↑n : Int))
 (Sy.Res.need (Addr.off (Addr.mk gl ((0 : Nat) + Int.toNat (↑i : Int) * (6 : Nat)) none) < List.length xs)
 (Sy.Res.need
 (Nat.succ ((0 : Nat) + Int.toNat (↑i : Int) * (6 : Nat)) <
 List.length
 (List.set xs (Addr.off (Addr.mk gl ((0 : Nat) + Int.toNat (↑i : Int) * (6 : Nat)) none))
 (Value.int IntKind.i64 (99 : Int))))
 (Sy.Res.need
 (Nat.succ (Nat.succ ((0 : Nat) + Int.toNat (↑i : Int) * (6 : Nat))) <
 List.length
 (List.set
 (List.set xs (Addr.off (Addr.mk gl ((0 : Nat) + Int.toNat (↑i : Int) * (6 : Nat)) none))
 (Value.int IntKind.i64 (99 : Int)))
 (Nat.succ ((0 : Nat) + Int.toNat (↑i : Int) * (6 : Nat))) (Value.int IntKind.i64 (0 : Int))))
 (Sy.Res.need
 (Nat.succ (Nat.succ (Nat.succ ((0 : Nat) + Int.toNat (↑i : Int) * (6 : Nat)))) <
 List.length
 (List.set
 (List.set
 (List.set xs (Addr.off (Addr.mk gl ((0 : Nat) + Int.toNat (↑i : Int) * (6 : Nat)) none))
 (Value.int IntKind.i64 (99 : Int)))
 (Nat.succ ((0 : Nat) + Int.toNat (↑i : Int) * (6 : Nat))) (Value.int IntKind.i64 (0 : Int)))
 (Nat.succ (Nat.succ ((0 : Nat) + Int.toNat (↑i : Int) * (6 : Nat))))
 (Value.int IntKind.i64 (0 : Int))))
 (Sy.Res.need
 (Nat.succ (Nat.succ (Nat.succ (Nat.succ ((0 : Nat) + Int.toNat (↑i : Int) * (6 : Nat))))) <
 List.length
 (List.set
 (List.set
 (List.set
 (List.set xs (Addr.off (Addr.mk gl ((0 : Nat) + Int.toNat (↑i : Int) * (6 : Nat)) none))
 (Value.int IntKind.i64 (99 : Int)))
 (Nat.succ ((0 : Nat) + Int.toNat (↑i : Int) * (6 : Nat))) (Value.int IntKind.i64 (0 : Int)))
 (Nat.succ (Nat.succ ((0 : Nat) + Int.toNat (↑i : Int) * (6 : Nat))))
 (Value.int IntKind.i64 (0 : Int)))
 (Nat.succ (Nat.succ (Nat.succ ((0 : Nat) + Int.toNat (↑i : Int) * (6 : Nat)))))
 (Value.int IntKind.i64 (0 : Int))))
 (Sy.Res.need
 (Nat.succ (Nat.succ (Nat.succ (Nat.succ (Nat.succ ((0 : Nat) + Int.toNat (↑i : Int) * (6 : Nat)))))) <
 List.length
 (List.set
 (List.set
 (List.set
 (List.set
 (List.set xs (Addr.off (Addr.mk gl ((0 : Nat) + Int.toNat (↑i : Int) * (6 : Nat)) none))
 (Value.int IntKind.i64 (99 : Int)))
 (Nat.succ ((0 : Nat) + Int.toNat (↑i : Int) * (6 : Nat))) (Value.int IntKind.i64 (0 : Int)))
 (Nat.succ (Nat.succ ((0 : Nat) + Int.toNat (↑i : Int) * (6 : Nat))))
 (Value.int IntKind.i64 (0 : Int)))
 (Nat.succ (Nat.succ (Nat.succ ((0 : Nat) + Int.toNat (↑i : Int) * (6 : Nat)))))
 (Value.int IntKind.i64 (0 : Int)))
 (Nat.succ (Nat.succ (Nat.succ (Nat.succ ((0 : Nat) + Int.toNat (↑i : Int) * (6 : Nat))))))
 (Value.int IntKind.i64 (0 : Int))))
 (Sy.Res.leaf
 (Exit.normal, (91 : Nat),
 [V0, Value.int IntKind.i64 k, Value.bool false, V5, Value.int IntKind.i64 r,
 Value.slice (some (Addr.mk gl (0 : Nat) none)) n cap,
 Value.int IntKind.i64 (Ex.wrapQ IntKind.i64 (Ex.addQ (↑i : Int) (1 : Int)))],
 [Blk.mk gl
 (Sy.Cont.row (29 : Nat) (6 : Nat) n cap
 (List.set
 (List.set
 (List.set
 (List.set
 (List.set
 (List.set xs
 (Addr.off (Addr.mk gl ((0 : Nat) + Int.toNat (↑i : Int) * (6 : Nat)) none))
 (Value.int IntKind.i64 (99 : Int)))
 (Nat.succ ((0 : Nat) + Int.toNat (↑i : Int) * (6 : Nat)))
 (Value.int IntKind.i64 (0 : Int)))
 (Nat.succ (Nat.succ ((0 : Nat) + Int.toNat (↑i : Int) * (6 : Nat))))
 (Value.int IntKind.i64 (0 : Int)))
 (Nat.succ (Nat.succ (Nat.succ ((0 : Nat) + Int.toNat (↑i : Int) * (6 : Nat)))))
 (Value.int IntKind.i64 (0 : Int)))
 (Nat.succ (Nat.succ (Nat.succ (Nat.succ ((0 : Nat) + Int.toNat (↑i : Int) * (6 : Nat))))))
 (Value.int IntKind.i64 (0 : Int)))
 (Nat.succ
 (Nat.succ
 (Nat.succ (Nat.succ (Nat.succ ((0 : Nat) + Int.toNat (↑i : Int) * (6 : Nat)))))))
 (Value.int IntKind.i64 (0 : Int))))
 true])))))))))
 (Sy.Res.leaf
 (Exit.exit (2 : Nat), (91 : Nat),
 [V0, Value.int IntKind.i64 k, Value.bool false, V5, Value.int IntKind.i64 r,
 Value.slice (some (Addr.mk gl (0 : Nat) none)) n cap, Value.int IntKind.i64 (↑i : Int)],
 [Blk.mk gl (Sy.Cont.row (29 : Nat) (6 : Nat) n cap xs) true]))
theorem f1_run (V0 V5 : Value) (k r : Int) (gl n cap i : Nat) (xs : List Value) (rest : List Value) : Sy.Ran (Sy.pieceT Try.prog Sy.S0 50 fTells bodyF1 91 (slF1 V0 V5 k r gl n cap i) rest [⟨gl, .row tI 6 n cap xs, true⟩] [0, 1, 4, 5, 6, 7, 15]) f1_o (f1_R V0 V5 k r gl n cap i xs rest) := ⟨fun ns => by kernel_rfl, fun ns => by kernel_rfl⟩
def slF1n (V0 V5 : Value) (k r : Int) (i : Nat) : List (Nat × Value) := [(0, V0), (1, .int .i64 k), (4, .bool false), (5, V5), (6, .int .i64 r), (7, .slice none 0 0), (15, .int .i64 i)]
def f1n_o : Sy.O := (Sy.O.steps [0] Sy.O.nil)
noncomputable def f1n_R (V0 : Value) (V5 : Value) (k : Int) (r : Int) (i : Nat) (rest : List Value) (ns : Nat → Sy.Let) : Sy.Res (Exit × Nat × List Value × List Blk) := Sy.Res.leaf
 (Exit.exit (2 : Nat), (91 : Nat),
 [V0, Value.int IntKind.i64 k, Value.bool false, V5, Value.int IntKind.i64 r, Value.slice none (0 : Nat) (0 : Nat),
 Value.int IntKind.i64 (↑i : Int)],
 [])
theorem f1n_run (V0 V5 : Value) (k r : Int) (i : Nat) (rest : List Value) : Sy.Ran (Sy.pieceT Try.prog Sy.S0 50 fTells bodyF1 91 (slF1n V0 V5 k r i) rest [] [0, 1, 4, 5, 6, 7, 15]) f1n_o (f1n_R V0 V5 k r i rest) := ⟨fun ns => by kernel_rfl, fun ns => by kernel_rfl⟩
def f2_o : Sy.O := (Sy.O.fork (Sy.O.steps [0, 0, 1, 2, 1, 3, 1, 1, 1, 1, 1, 1, 1, 4, 5, 6, 1, 7, 0, 1, 1, 1, 1, 1, 1, 8] (Sy.O.fork Sy.O.nil Sy.O.nil)) Sy.O.nil)
noncomputable def f2_R (g : Nat) (o : Nat) (c : Nat) (n : Nat) (ga : Nat) (m : Nat) (ca : Nat) (i : Nat) (xs : List Value) (ys : List Value) (rest : List Value) (ns : Nat → Sy.Let) : Sy.Res (Exit × Nat × List Value × List Blk) := Sy.Res.br (Ex.ltQ (↑i : Int) (↑m : Int))
 (Sy.Res.need ((0 : Int) ≤ (↑i : Int) ∧ (↑i : Int) < (↑m : Int))
 (Sy.Res.need
 (∃ (i_1 : Int),
 Sy.Cont.at (Sy.Cont.seg (0 : Nat) ys) ((0 : Nat) + Int.toNat (↑i : Int) * (4 : Nat)) =
 some (Value.int IntKind.i64 i_1))
 (Sy.Res.hyp
 (Sy.Cont.at (Sy.Cont.seg (0 : Nat) ys) ((0 : Nat) + Int.toNat (↑i : Int) * (4 : Nat)) =
 some (Value.int IntKind.i64 (Let.i (ns (0 : Nat)))))
 (Sy.Res.need
 (∃ (i_1 : Int),
 Sy.Cont.at (Sy.Cont.seg (0 : Nat) ys) ((0 : Nat) + Int.toNat (↑i : Int) * (4 : Nat) + (1 : Nat)) =
 some (Value.int IntKind.u64 i_1))
 (Sy.Res.hyp
 (Sy.Cont.at (Sy.Cont.seg (0 : Nat) ys) ((0 : Nat) + Int.toNat (↑i : Int) * (4 : Nat) + (1 : Nat)) =
 some (Value.int IntKind.u64 (Let.i (ns (1 : Nat)))))
 (Sy.Res.need
 (∃ (i_1 : Int),
 Sy.Cont.at (Sy.Cont.seg (0 : Nat) ys)
 ((0 : Nat) + Int.toNat (↑i : Int) * (4 : Nat) + (1 : Nat) + (1 : Nat)) =
 some (Value.int IntKind.i64 i_1))
 (Sy.Res.hyp
 (Sy.Cont.at (Sy.Cont.seg (0 : Nat) ys)
 ((0 : Nat) + Int.toNat (↑i : Int) * (4 : Nat) + (1 : Nat) + (1 : Nat)) =
 some (Value.int IntKind.i64 (Let.i (ns (2 : Nat)))))
 (Sy.Res.need
 (∃ (i_1 : Int),
 Sy.Cont.at (Sy.Cont.seg (0 : Nat) ys)
 ((0 : Nat) + Int.toNat (↑i : Int) * (4 : Nat) + (1 : Nat) + (1 : Nat) + (1 : Nat)) =
 some (Value.int IntKind.i64 i_1))
 (Sy.Res.hyp
 (Sy.Cont.at (Sy.Cont.seg (0 : Nat) ys)
 ((0 : Nat) + Int.toNat (↑i : Int) * (4 : Nat) + (1 : Nat) + (1 : Nat) + (1 : Nat)) =
 some (Value.int IntKind.i64 (Let.i (ns (3 : Nat)))))
 (Sy.Res.need ((0 : Int) ≤ (↑i : Int) ∧ (↑i : Int) < (↑n : Int))
 (Sy.Res.need
 (∃ (i_1 : Int),
 Sy.Cont.at (Sy.Cont.seg o xs) (o + Int.toNat (↑i : Int) * (4 : Nat)) =
 some (Value.int IntKind.i64 i_1))
 (Sy.Res.hyp
 (Sy.Cont.at (Sy.Cont.seg o xs) (o + Int.toNat (↑i : Int) * (4 : Nat)) =
 some (Value.int IntKind.i64 (Let.i (ns (4 : Nat)))))
 (Sy.Res.need
 (∃ (i_1 : Int),
 Sy.Cont.at (Sy.Cont.seg o xs) (o + Int.toNat (↑i : Int) * (4 : Nat) + (1 : Nat)) =
 some (Value.int IntKind.u64 i_1))
 (Sy.Res.hyp
 (Sy.Cont.at (Sy.Cont.seg o xs) (o + Int.toNat (↑i : Int) * (4 : Nat) + (1 : Nat)) =
 some (Value.int IntKind.u64 (Let.i (ns (5 : Nat)))))
 (Sy.Res.need
 (∃ (i_1 : Int),
 Sy.Cont.at (Sy.Cont.seg o xs)
 (o + Int.toNat (↑i : Int) * (4 : Nat) + (1 : Nat) + (1 : Nat)) =
 some (Value.int IntKind.i64 i_1))
 (Sy.Res.hyp
 (Sy.Cont.at (Sy.Cont.seg o xs)
 (o + Int.toNat (↑i : Int) * (4 : Nat) + (1 : Nat) + (1 : Nat)) =
 some (Value.int IntKind.i64 (Let.i (ns (6 : Nat)))))
 (Sy.Res.need
 (∃ (i_1 : Int),
 Sy.Cont.at (Sy.Cont.seg o xs)
 (o + Int.toNat (↑i : Int) * (4 : Nat) + (1 : Nat) + (1 : Nat) + (1 : Nat)) =
 some (Value.int IntKind.i64 i_1))
 (Sy.Res.hyp
 (Sy.Cont.at (Sy.Cont.seg o xs)
 (o + Int.toNat (↑i : Int) * (4 : Nat) + (1 : Nat) + (1 : Nat) + (1 : Nat)) =
 some (Value.int IntKind.i64 (Let.i (ns (7 : Nat)))))
 (Sy.Res.br
 (!(Ex.eqQ (Let.i (ns (0 : Nat))) (Let.i (ns (4 : Nat))) &&
 (Ex.eqQ (Let.i (ns (1 : Nat))) (Let.i (ns (5 : Nat))) &&
 (Ex.eqQ (Let.i (ns (2 : Nat))) (Let.i (ns (6 : Nat))) &&
 (Ex.eqQ (Let.i (ns (3 : Nat))) (Let.i (ns (7 : Nat))) && true)))))
 (Sy.Res.leaf
 (Exit.ret, (91 : Nat),
 [Value.slice (some (Addr.mk g o none)) n c, Value.bool false,
 Value.slice (some (Addr.mk ga (0 : Nat) none)) m ca,
 Value.int IntKind.i64 (↑i : Int)],
 [Blk.mk g (Sy.Cont.seg o xs) false,
 Blk.mk ga (Sy.Cont.seg (0 : Nat) ys) false]))
 (Sy.Res.leaf
 (Exit.normal, (91 : Nat),
 [Value.slice (some (Addr.mk g o none)) n c, Value.bool false,
 Value.slice (some (Addr.mk ga (0 : Nat) none)) m ca,
 Value.int IntKind.i64
 (Ex.wrapQ IntKind.i64 (Ex.addQ (↑i : Int) (1 : Int)))],
 [Blk.mk g (Sy.Cont.seg o xs) false,
 Blk.mk ga (Sy.Cont.seg (0 : Nat) ys) false])))))))))))))))))))))
 (Sy.Res.leaf
 (Exit.exit (4 : Nat), (91 : Nat),
 [Value.slice (some (Addr.mk g o none)) n c, Value.bool false, Value.slice (some (Addr.mk ga (0 : Nat) none)) m ca,
 Value.int IntKind.i64 (↑i : Int)],
 [Blk.mk g (Sy.Cont.seg o xs) false, Blk.mk ga (Sy.Cont.seg (0 : Nat) ys) false]))
theorem f2_run (g o c n ga m ca i : Nat) (xs ys : List Value) (rest : List Value) : Sy.Ran (Sy.pieceT Try.prog Sy.S0 50 fTells bodyF2 91 (slF2 g o c n ga m ca i) rest [⟨g, .seg o xs, false⟩, ⟨ga, .seg 0 ys, false⟩] [0, 4, 5, 16]) f2_o (f2_R g o c n ga m ca i xs ys rest) := ⟨fun ns => by kernel_rfl, fun ns => by kernel_rfl⟩

noncomputable def loopF1 (V0 V5 : Value) (k r : Int) (gl n cap : Nat) (xs : List Value) : Sy.LoopC :=
  ⟨.loop bodyF1, 91, slF1 V0 V5 k r gl n cap 0, n ≤ 1000000000 ∧ xs.length = n * 6, ⟨[], [(gl, .row tI 6 n cap xs)], 0⟩,
    [(⟨fun _ => True, fun _ => []⟩, .exit 2, fun _ => [(0, V0), (1, .int .i64 k), (4, .bool false), (5, V5), (6, .int .i64 r)])]⟩

theorem loopF1_met (V0 V5 : Value) (k r : Int) (gl n cap : Nat) (xs : List Value) : Sy.MeetsL Try.prog (loopF1 V0 V5 k r gl n cap xs) := by
  refine Sy.loop_of (n := 50) (fn := fTells) Sy.S0_holds mixed (body := bodyF1) rfl [0, 1, 4, 5, 6, 7, 15] (fun s : Nat × List Value => slF1 V0 V5 k r gl n cap s.1) (fun s => [⟨gl, .row tI 6 n cap s.2, true⟩])
    (fun s => s.1 ≤ n ∧ s.2.length = n * 6) (fun s => n - s.1)
    (0, xs) (fun h => ⟨Nat.zero_le _, h.2⟩) (fun p hp => hp) [0] (by decide) rfl (o := fun _ => f1_o) (R := fun s rest => f1_R V0 V5 k r gl n cap s.1 s.2 rest) (fun s rest _ => f1_run V0 V5 k r gl n cap s.1 s.2 rest) ?_
  rintro ⟨hn, -⟩ ⟨i, ys⟩ rest ⟨hi, hl⟩ ns
  simp only at hi hl
  simp only [f1_R, Sy.Res.holds, Sy.b_and, Sy.b_or, Sy.b_not, Sy.b_f, Sy.b_and', Sy.b_or', Sy.q_lt, Sy.q_le, Sy.q_eq, Sy.b_tt, Sy.b_ft, not_true_eq_false, not_false_eq_true, List.length_set, hl, Int.toNat_natCast]
  refine ⟨fun hlt => ⟨by omega, by omega, by omega, by omega, by omega, by omega, by omega, ?_⟩, fun hge => ?_⟩
  · exact Sy.leafL_next (i + 1, _) rfl ⟨by show i + 1 ≤ n; omega, by simp only [List.length_set]; exact hl⟩ (by show n - (i + 1) < n - i; omega) (by rw [Sy.inc_q i (by omega)]; rfl) [0] (by decide) rfl
  · exact Sy.leafL_end 0 rfl rfl (by simp) rfl [] rfl [0, 1, 2, 3, 4] rfl [] List.nodup_nil trivial trivial

noncomputable def loopF1n (V0 V5 : Value) (k r : Int) : Sy.LoopC :=
  ⟨.loop bodyF1, 91, slF1n V0 V5 k r 0, True, ⟨[], [], 0⟩, [(⟨fun _ => True, fun _ => []⟩, .exit 2, fun _ => [(0, V0), (1, .int .i64 k), (4, .bool false), (5, V5), (6, .int .i64 r)])]⟩

theorem loopF1n_met (V0 V5 : Value) (k r : Int) : Sy.MeetsL Try.prog (loopF1n V0 V5 k r) := by
  refine Sy.loop_of (n := 50) (fn := fTells) Sy.S0_holds mixed (body := bodyF1) rfl [0, 1, 4, 5, 6, 7, 15] (fun i : Nat => slF1n V0 V5 k r i) (fun _ => [])
    (fun i => i = 0) (fun _ => 0)
    0 (fun _ => rfl) (fun p hp => hp) [] List.nodup_nil rfl (o := fun _ => f1n_o) (R := fun i rest => f1n_R V0 V5 k r i rest) (fun i rest _ => f1n_run V0 V5 k r i rest) ?_
  rintro - i rest hi ns
  have hi : i = 0 := hi
  simp only [f1n_R, Sy.Res.holds, Sy.b_and, Sy.b_or, Sy.b_not, Sy.b_f, Sy.b_and', Sy.b_or', Sy.q_lt, Sy.q_le, Sy.q_eq, Sy.b_tt, Sy.b_ft, not_true_eq_false, not_false_eq_true]
  exact Sy.leafL_end 0 rfl rfl (by simp) rfl [] rfl [0, 1, 2, 3, 4] rfl [] List.nodup_nil trivial trivial

noncomputable def loopF2 (g o c ga ca : Nat) (l : List Nd) : Sy.LoopC :=
  ⟨.loop bodyF2, 91, slF2 g o c l.length ga (0 + l.length) ca 0, l.length ≤ 4398046511104, ⟨[(g, .seg o (ndCells l)), (ga, .seg 0 (ndCells l))], [], 0⟩,
    [(⟨fun _ => True, fun _ => []⟩, .exit 4, fun _ => [(4, .bool false)])]⟩

theorem loopF2_met (g o c ga ca : Nat) (l : List Nd) : Sy.MeetsL Try.prog (loopF2 g o c ga ca l) := by
  refine Sy.loop_of (n := 50) (fn := fTells) Sy.S0_holds mixed (body := bodyF2) rfl [0, 4, 5, 16] (fun i : Nat => slF2 g o c l.length ga (0 + l.length) ca i) (fun _ => [⟨g, .seg o (ndCells l), false⟩, ⟨ga, .seg 0 (ndCells l), false⟩])
    (fun i => i ≤ l.length) (fun i => l.length - i)
    0 (fun h => Nat.zero_le _) (fun p hp => hp) [0, 1] (by decide) rfl (o := fun _ => f2_o) (R := fun i xs => f2_R g o c l.length ga (0 + l.length) ca i (ndCells l) (ndCells l) xs) (fun i xs _ => f2_run g o c l.length ga (0 + l.length) ca i (ndCells l) (ndCells l) xs) ?_
  rintro hm i rest hi ns
  have hm : l.length ≤ 4398046511104 := hm
  simp only [f2_R, Sy.Res.holds, Sy.b_and, Sy.b_or, Sy.b_not, Sy.b_f, Sy.b_and', Sy.b_or', Sy.q_lt, Sy.q_le, Sy.q_eq, Sy.b_tt, Sy.b_ft, not_true_eq_false, not_false_eq_true]
  refine ⟨fun hlt => ?_, fun hge => ?_⟩
  · have hlt : i < l.length := by omega
    have ea : l[i]? = some l[i] := List.getElem?_eq_getElem hlt
    obtain ⟨a0, a1, a2, a3⟩ := nd_at ea o
    obtain ⟨b0, b1, b2, b3⟩ := nd_at ea 0
    simp only [a0, a1, a2, a3, b0, b1, b2, b3, some_int, some_bool, exists_eq', true_and]
    generalize l[i] = x at *
    refine ⟨by omega, fun h0 h1 h2 h3 => ⟨by omega, fun h4 h5 h6 h7 => ?_⟩⟩
    simp only [← h0, ← h1, ← h2, ← h3, ← h4, ← h5, ← h6, ← h7]
    refine ⟨fun hne => absurd ⟨trivial, trivial, trivial, trivial, trivial⟩ hne, fun _ => Sy.leafL_next (i + 1) rfl (show i + 1 ≤ l.length by omega) (by show l.length - (i + 1) < l.length - i; omega) (by rw [Sy.inc_q i (by omega)]; rfl) [0, 1] (by decide) rfl⟩
  · exact Sy.leafL_end 0 rfl rfl (by simp) rfl [] rfl [1] rfl [] List.nodup_nil trivial trivial

/-- The same contract, of arguments that are the same. -/
def Sy.reArgs (c : Sy.CallC) (a : Array Value) : Sy.CallC := ⟨c.f, a, a = c.args ∧ c.ok, c.mem, c.outs⟩
theorem Sy.reArgs_met {c : Sy.CallC} (h : Sy.Meets Try.prog c) (a : Array Value) : Sy.Meets Try.prog (Sy.reArgs c a) := by
  rintro ⟨rfl, hok⟩
  exact h hok

def Sy.intV (v : Value) : Int := match v with
  | .int _ n => n
  | _ => 0

inductive Way where
  | bad
  | reg
  | ok
noncomputable def Sy.wayC (w : Way) (f : FuncId) (args : Array Value) (g o : Nat) (l : List Nd) (k : Int) : Sy.CallC := match w with
  | .bad => xBad f args g o l k
  | .reg => xReg f args g o l k
  | .ok => xOk f args g o l k

noncomputable def ctxF (w : Way) (g o c : Nat) (l : List Nd) (k : Int) : Sy.Ctx := Sy.mkS [
    (fTX, fun a _ => Sy.reArgs (Sy.wayC w fTX (txArgs (Sy.ptrN (Sy.argV a 0)) 0 (Sy.capN (Sy.argV a 0)) l k) (Sy.ptrN (Sy.argV a 0)) 0 l k) a),
    (fRTX, fun _ _ => Sy.wayC w fRTX (rtxArgs g o c l k) g o l k),
    (fTN, fun a _ => Sy.reArgs (tnC (Sy.ptrN (Sy.argV a 0)) 0 (Sy.capN (Sy.argV a 0)) l) a),
    (fRTN, fun _ _ => rtnC g o c l),
    (fSame, fun a _ => sameC (Sy.ptrN (Sy.argV a 0)) (Sy.ptrN (Sy.argV a 1)) (Sy.capN (Sy.argV a 0)) (Sy.capN (Sy.argV a 1)) (outL l k) (outL l k)), (fAwake, fun _ _ => awC)]
  [(fTells, fun a L => loopF1 (a.get 0) (a.get 5) k (Sy.intV (a.get 6)) (Sy.ptrN (a.get 7)) (outL l k).length (Sy.capN (a.get 7)) (insCells (outL l k))),
   (fTells, fun a _ => loopF1n (a.get 0) (a.get 5) k (Sy.intV (a.get 6)))] []
def slF0 (g o c n ga m ca r : Nat) (k : Int) : List (Nat × Value) := [(0, .slice (some ⟨g, o, none⟩) n c), (1, .int .i64 k), (4, .bool false), (5, .slice (some ⟨ga, 0, none⟩) m ca), (6, .int .i64 r)]
def r0B_o : Sy.O := (Sy.O.fork (Sy.O.steps [0, 1, 0, 1, 0, 1, 0, 1, 0, 0, 0, 1, 0, 0, 0, 0, 0, 0, 0, 0, 0, 1] (Sy.O.fork Sy.O.nil (Sy.O.steps [1] Sy.O.nil))) Sy.O.nil)
noncomputable def r0B_R (g : Nat) (o : Nat) (c : Nat) (ga : Nat) (ca : Nat) (r : Nat) (l : List Nd) (k : Int) (rest : List Value) (ns : Nat → Sy.Let) : Sy.Res (Exit × Nat × List Value × List Blk) := Sy.Res.br (Ex.ltQ (↑r : Int) (2 : Int))
 (Sy.Res.need
 (Array.mk [Value.slice (some (Addr.mk ga (0 : Nat) none)) ((0 : Nat) + List.length l) ca, Value.int IntKind.i64 k] =
 Array.mk [Value.slice (some (Addr.mk ga (0 : Nat) none)) (List.length l) ca, Value.int IntKind.i64 k] ∧
 lenOk l ∧ badX l k)
 (Sy.Res.hyp True
 (Sy.Res.need (lenOk l ∧ badX l k)
 (Sy.Res.hyp True
 (Sy.Res.need
 (Array.mk [Value.slice (some (Addr.mk ga (0 : Nat) none)) ((0 : Nat) + List.length l) ca] =
 Array.mk [Value.slice (some (Addr.mk ga (0 : Nat) none)) (List.length l) ca] ∧
 ((0 : Nat) < List.length l ∧ List.length l ≤ (4398046511104 : Nat)) ∧ goodN l)
 (Sy.Res.hyp True
 (Sy.Res.need (((0 : Nat) < List.length l ∧ List.length l ≤ (4398046511104 : Nat)) ∧ goodN l)
 (Sy.Res.hyp True
 (Sy.Res.br (bif bif false then true else !Ex.eqQ (nE l) (nE l) then true else !Ex.eqQ (nB l) (nB l))
 (Sy.Res.leaf
 (Exit.ret, (91 : Nat),
 [Value.slice (some (Addr.mk g o none)) (List.length l) c, Value.int IntKind.i64 k,
 Value.bool false,
 Value.slice (some (Addr.mk ga (0 : Nat) none)) ((0 : Nat) + List.length l) ca,
 Value.int IntKind.i64 (↑r : Int)],
 [Blk.mk g (Sy.Cont.seg o (ndCells l)) false,
 Blk.mk ga (Sy.Cont.seg (0 : Nat) (ndCells l)) false]))
 (Sy.Res.need True
 (Sy.Res.hyp True
 (Sy.Res.leaf
 (Exit.normal, (91 : Nat),
 [Value.slice (some (Addr.mk g o none)) (List.length l) c, Value.int IntKind.i64 k,
 Value.bool false,
 Value.slice (some (Addr.mk ga (0 : Nat) none)) ((0 : Nat) + List.length l) ca,
 Value.int IntKind.i64 (Ex.wrapQ IntKind.i64 (Ex.addQ (↑r : Int) (1 : Int)))],
 [Blk.mk g (Sy.Cont.seg o (ndCells l)) false,
 Blk.mk ga (Sy.Cont.seg (0 : Nat) (ndCells l)) false])))))))))))))
 (Sy.Res.leaf
 (Exit.exit (0 : Nat), (91 : Nat),
 [Value.slice (some (Addr.mk g o none)) (List.length l) c, Value.int IntKind.i64 k, Value.bool false,
 Value.slice (some (Addr.mk ga (0 : Nat) none)) ((0 : Nat) + List.length l) ca,
 Value.int IntKind.i64 (↑r : Int)],
 [Blk.mk g (Sy.Cont.seg o (ndCells l)) false, Blk.mk ga (Sy.Cont.seg (0 : Nat) (ndCells l)) false]))
theorem r0B_run (g o c ga ca r : Nat) (l : List Nd) (k : Int) (rest : List Value) : Sy.Ran (Sy.pieceT Try.prog (ctxF .bad g o c l k) 50 fTells bodyF0 91 (slF0 g o c l.length ga (0 + l.length) ca r k) rest [⟨g, .seg o (ndCells l), false⟩, ⟨ga, .seg 0 (ndCells l), false⟩] [0, 1, 4, 5, 6]) r0B_o (r0B_R g o c ga ca r l k rest) := ⟨fun ns => by kernel_rfl, fun ns => by kernel_rfl⟩
def r0R_o : Sy.O := (Sy.O.fork (Sy.O.steps [0, 1, 0, 1, 0, 1, 0, 1, 0, 0, 0, 1, 0, 0, 0, 0, 0, 0, 0, 0, 0, 1] (Sy.O.fork Sy.O.nil (Sy.O.steps [1] Sy.O.nil))) Sy.O.nil)
noncomputable def r0R_R (g : Nat) (o : Nat) (c : Nat) (ga : Nat) (ca : Nat) (r : Nat) (l : List Nd) (k : Int) (rest : List Value) (ns : Nat → Sy.Let) : Sy.Res (Exit × Nat × List Value × List Blk) := Sy.Res.br (Ex.ltQ (↑r : Int) (2 : Int))
 (Sy.Res.need
 (Array.mk [Value.slice (some (Addr.mk ga (0 : Nat) none)) ((0 : Nat) + List.length l) ca, Value.int IntKind.i64 k] =
 Array.mk [Value.slice (some (Addr.mk ga (0 : Nat) none)) (List.length l) ca, Value.int IntKind.i64 k] ∧
 lenOk l ∧ regX l k)
 (Sy.Res.hyp True
 (Sy.Res.need (lenOk l ∧ regX l k)
 (Sy.Res.hyp True
 (Sy.Res.need
 (Array.mk [Value.slice (some (Addr.mk ga (0 : Nat) none)) ((0 : Nat) + List.length l) ca] =
 Array.mk [Value.slice (some (Addr.mk ga (0 : Nat) none)) (List.length l) ca] ∧
 ((0 : Nat) < List.length l ∧ List.length l ≤ (4398046511104 : Nat)) ∧ goodN l)
 (Sy.Res.hyp True
 (Sy.Res.need (((0 : Nat) < List.length l ∧ List.length l ≤ (4398046511104 : Nat)) ∧ goodN l)
 (Sy.Res.hyp True
 (Sy.Res.br (bif bif false then true else !Ex.eqQ (nE l) (nE l) then true else !Ex.eqQ (nB l) (nB l))
 (Sy.Res.leaf
 (Exit.ret, (91 : Nat),
 [Value.slice (some (Addr.mk g o none)) (List.length l) c, Value.int IntKind.i64 k,
 Value.bool false,
 Value.slice (some (Addr.mk ga (0 : Nat) none)) ((0 : Nat) + List.length l) ca,
 Value.int IntKind.i64 (↑r : Int)],
 [Blk.mk g (Sy.Cont.seg o (ndCells l)) false,
 Blk.mk ga (Sy.Cont.seg (0 : Nat) (ndCells l)) false]))
 (Sy.Res.need True
 (Sy.Res.hyp True
 (Sy.Res.leaf
 (Exit.normal, (91 : Nat),
 [Value.slice (some (Addr.mk g o none)) (List.length l) c, Value.int IntKind.i64 k,
 Value.bool false,
 Value.slice (some (Addr.mk ga (0 : Nat) none)) ((0 : Nat) + List.length l) ca,
 Value.int IntKind.i64 (Ex.wrapQ IntKind.i64 (Ex.addQ (↑r : Int) (1 : Int)))],
 [Blk.mk g (Sy.Cont.seg o (ndCells l)) false,
 Blk.mk ga (Sy.Cont.seg (0 : Nat) (ndCells l)) false])))))))))))))
 (Sy.Res.leaf
 (Exit.exit (0 : Nat), (91 : Nat),
 [Value.slice (some (Addr.mk g o none)) (List.length l) c, Value.int IntKind.i64 k, Value.bool false,
 Value.slice (some (Addr.mk ga (0 : Nat) none)) ((0 : Nat) + List.length l) ca,
 Value.int IntKind.i64 (↑r : Int)],
 [Blk.mk g (Sy.Cont.seg o (ndCells l)) false, Blk.mk ga (Sy.Cont.seg (0 : Nat) (ndCells l)) false]))
theorem r0R_run (g o c ga ca r : Nat) (l : List Nd) (k : Int) (rest : List Value) : Sy.Ran (Sy.pieceT Try.prog (ctxF .reg g o c l k) 50 fTells bodyF0 91 (slF0 g o c l.length ga (0 + l.length) ca r k) rest [⟨g, .seg o (ndCells l), false⟩, ⟨ga, .seg 0 (ndCells l), false⟩] [0, 1, 4, 5, 6]) r0R_o (r0R_R g o c ga ca r l k rest) := ⟨fun ns => by kernel_rfl, fun ns => by kernel_rfl⟩
def r0O_o : Sy.O := (Sy.O.fork (Sy.O.steps [0, 1, 0, 2, 0, 3, 0, 2, 0, 0, 0, 0, 3, 2, 0, 1, 1] (Sy.O.fork Sy.O.nil (Sy.O.steps [0, 0] Sy.O.nil))) Sy.O.nil)
noncomputable def r0O_R (g : Nat) (o : Nat) (c : Nat) (ga : Nat) (ca : Nat) (r : Nat) (l : List Nd) (k : Int) (rest : List Value) (ns : Nat → Sy.Let) : Sy.Res (Exit × Nat × List Value × List Blk) := Sy.Res.br (Ex.ltQ (↑r : Int) (2 : Int))
 (Sy.Res.need
 (Array.mk [Value.slice (some (Addr.mk ga (0 : Nat) none)) ((0 : Nat) + List.length l) ca, Value.int IntKind.i64 k] =
 Array.mk [Value.slice (some (Addr.mk ga (0 : Nat) none)) (List.length l) ca, Value.int IntKind.i64 k] ∧
 lenOk l ∧ okX l k)
 (Sy.Res.hyp (Nat.le (List.length (outL l k)) (Let.n (ns (1 : Nat))))
 (Sy.Res.need (lenOk l ∧ okX l k)
 (Sy.Res.hyp (Nat.le (List.length (outL l k)) (Let.n (ns (3 : Nat))))
 (Sy.Res.need
 (Array.mk [Value.slice (some (Addr.mk ga (0 : Nat) none)) ((0 : Nat) + List.length l) ca] =
 Array.mk [Value.slice (some (Addr.mk ga (0 : Nat) none)) (List.length l) ca] ∧
 ((0 : Nat) < List.length l ∧ List.length l ≤ (4398046511104 : Nat)) ∧ goodN l)
 (Sy.Res.hyp True
 (Sy.Res.need (((0 : Nat) < List.length l ∧ List.length l ≤ (4398046511104 : Nat)) ∧ goodN l)
 (Sy.Res.hyp True
 (Sy.Res.need (Nat.le (List.length (outL l k)) (1000000000 : Nat))
 (Sy.Res.hyp True
 (Sy.Res.br
 (bif
 bif bif false then true else !decide (outL l k = outL l k) then true
 else !Ex.eqQ (nE l) (nE l) then
 true
 else !Ex.eqQ (nB l) (nB l))
 (Sy.Res.leaf
 (Exit.ret, (91 : Nat),
 [Value.slice (some (Addr.mk g o none)) (List.length l) c, Value.int IntKind.i64 k,
 Value.bool false,
 Value.slice (some (Addr.mk ga (0 : Nat) none)) ((0 : Nat) + List.length l) ca,
 Value.int IntKind.i64 (↑r : Int)],
 [Blk.mk (Let.n (ns (0 : Nat)))
 (Sy.Cont.row (29 : Nat) (6 : Nat) (List.length (outL l k)) (Let.n (ns (1 : Nat)))
 (insCells (outL l k)))
 true,
 Blk.mk (Let.n (ns (2 : Nat)))
 (Sy.Cont.row (29 : Nat) (6 : Nat) (List.length (outL l k)) (Let.n (ns (3 : Nat)))
 (insCells (outL l k)))
 true,
 Blk.mk g (Sy.Cont.seg o (ndCells l)) false,
 Blk.mk ga (Sy.Cont.seg (0 : Nat) (ndCells l)) false]))
 (Sy.Res.need
 (List.length (outL l k) ≤ (1000000000 : Nat) ∧
 List.length (insCells (outL l k)) = List.length (outL l k) * (6 : Nat))
 (Sy.Res.hyp True
 (Sy.Res.leaf
 (Exit.normal, (91 : Nat),
 [Value.slice (some (Addr.mk g o none)) (List.length l) c, Value.int IntKind.i64 k,
 Value.bool false,
 Value.slice (some (Addr.mk ga (0 : Nat) none)) ((0 : Nat) + List.length l) ca,
 Value.int IntKind.i64 (Ex.wrapQ IntKind.i64 (Ex.addQ (↑r : Int) (1 : Int)))],
 [Blk.mk (Let.n (ns (2 : Nat)))
 (Sy.Cont.row (29 : Nat) (6 : Nat) (List.length (outL l k)) (Let.n (ns (3 : Nat)))
 (insCells (outL l k)))
 true,
 Blk.mk g (Sy.Cont.seg o (ndCells l)) false,
 Blk.mk ga (Sy.Cont.seg (0 : Nat) (ndCells l)) false])))))))))))))))
 (Sy.Res.leaf
 (Exit.exit (0 : Nat), (91 : Nat),
 [Value.slice (some (Addr.mk g o none)) (List.length l) c, Value.int IntKind.i64 k, Value.bool false,
 Value.slice (some (Addr.mk ga (0 : Nat) none)) ((0 : Nat) + List.length l) ca,
 Value.int IntKind.i64 (↑r : Int)],
 [Blk.mk g (Sy.Cont.seg o (ndCells l)) false, Blk.mk ga (Sy.Cont.seg (0 : Nat) (ndCells l)) false]))
theorem r0O_run (g o c ga ca r : Nat) (l : List Nd) (k : Int) (rest : List Value) : Sy.Ran (Sy.pieceT Try.prog (ctxF .ok g o c l k) 50 fTells bodyF0 91 (slF0 g o c l.length ga (0 + l.length) ca r k) rest [⟨g, .seg o (ndCells l), false⟩, ⟨ga, .seg 0 (ndCells l), false⟩] [0, 1, 4, 5, 6]) r0O_o (r0O_R g o c ga ca r l k rest) := ⟨fun ns => by kernel_rfl, fun ns => by kernel_rfl⟩

theorem ndC_len (l : List Nd) : (ndCells l).length = l.length * 4 := by
  induction l with
  | nil => rfl
  | cons x l ih => unfold ndCells at *; rw [List.flatMap_cons, List.length_append, ih, List.length_cons]; show 4 + _ = _; omega
theorem ndC_one (l : List Nd) : ∀ u ∈ ndCells l, u.oneCell' = true := by
  intro u hu
  unfold ndCells at hu
  obtain ⟨x, -, hx⟩ := List.mem_flatMap.1 hu
  simp only [Nd.cells, List.mem_cons, List.not_mem_nil, or_false] at hx
  rcases hx with rfl | rfl | rfl | rfl <;> rfl

def Sy.wayOk (w : Way) (l : List Nd) (k : Int) : Prop := match w with
  | .bad => badX l k
  | .reg => regX l k
  | .ok => okX l k

theorem ctxF_holds (w : Way) (g o c : Nat) (l : List Nd) (k : Int) : (ctxF w g o c l k).holds Try.prog := by
  refine Sy.mkS_holds (fun p hp a L => ?_) (fun p hp a L => ?_) (fun _ h => (by cases h))
  · rcases List.mem_cons.1 hp with rfl | hp
    · refine Sy.reArgs_met ?_ _
      cases w
      · exact txBad_met _ _ _ _ _
      · exact txReg_met _ _ _ _ _
      · exact txOk_met _ _ _ _ _
    rcases List.mem_cons.1 hp with rfl | hp
    · cases w
      · exact rtxBad_met _ _ _ _ _
      · exact rtxReg_met _ _ _ _ _
      · exact rtxOk_met _ _ _ _ _
    rcases List.mem_cons.1 hp with rfl | hp
    · exact Sy.reArgs_met (tnC_met _ _ _ _) _
    rcases List.mem_cons.1 hp with rfl | hp
    · exact rtnC_met _ _ _ _
    rcases List.mem_cons.1 hp with rfl | hp
    · exact sameC_met _ _ _ _ _ _
    rcases List.mem_singleton.1 hp with rfl
    exact awC_met
  · rcases List.mem_cons.1 hp with rfl | hp
    · exact loopF1_met _ _ _ _ _ _ _ _
    rcases List.mem_singleton.1 hp with rfl
    exact loopF1n_met _ _ _ _

theorem outL_len {l : List Nd} {k : Int} (h : okX l k) : (outL l k).length ≤ 262144 := (lay_fits h.1 (i := l.length - 1) (by have := h.1.2.1; omega) _).2

noncomputable def loopF0 (w : Way) (g o c ga ca : Nat) (l : List Nd) (k : Int) : Sy.LoopC :=
  ⟨.loop bodyF0, 91, slF0 g o c l.length ga (0 + l.length) ca 0 k, lenOk l ∧ Sy.wayOk w l k, ⟨[(g, .seg o (ndCells l)), (ga, .seg 0 (ndCells l))], [], 0⟩,
    [(⟨fun _ => True, fun _ => []⟩, .exit 0, fun _ => [(0, .slice (some ⟨g, o, none⟩) l.length c), (4, .bool false), (5, .slice (some ⟨ga, 0, none⟩) (0 + l.length) ca)])]⟩

def slF0' (g o c n ga m ca : Nat) (k : Int) (r : Nat) := slF0 g o c n ga m ca r k

theorem loopF0_bad (g o c ga ca : Nat) (l : List Nd) (k : Int) : Sy.MeetsL Try.prog (loopF0 .bad g o c ga ca l k) := by
  refine Sy.loop_of (n := 50) (fn := fTells) (ctxF_holds .bad g o c l k) mixed (body := bodyF0) rfl [0, 1, 4, 5, 6] (fun r : Nat => slF0 g o c l.length ga (0 + l.length) ca r k) (fun _ => [⟨g, .seg o (ndCells l), false⟩, ⟨ga, .seg 0 (ndCells l), false⟩])
    (fun r => r ≤ 2) (fun r => 2 - r)
    0 (fun h => Nat.zero_le _) (fun p hp => hp) [0, 1] (by decide) rfl (o := fun _ => r0B_o) (R := fun r rest => r0B_R g o c ga ca r l k rest) (fun r rest _ => r0B_run g o c ga ca r l k rest) ?_
  rintro ⟨hl, hw⟩ r rest hr ns
  have hw : badX l k := hw
  simp only [r0B_R, Sy.Res.holds, Sy.b_and, Sy.b_or, Sy.b_not, Sy.b_f, Sy.b_and', Sy.b_or', Sy.q_lt, Sy.q_le, Sy.q_eq, Sy.b_tt, Sy.b_ft, not_true_eq_false, not_false_eq_true, decide_true]
  refine ⟨fun hlt => ?_, fun hge => Sy.leafL_end 0 rfl rfl (by simp) rfl [] rfl [0, 2, 3] rfl [] List.nodup_nil trivial trivial⟩
  have inc : Ex.wrapQ .i64 (Ex.addQ (r : Int) 1) = ((r + 1 : Nat) : Int) := Sy.inc_q r (by omega)
  refine ⟨⟨by rw [Nat.zero_add], hl, hw⟩, fun _ => ⟨⟨hl, hw⟩, fun _ => ⟨⟨by rw [Nat.zero_add], hl⟩, fun _ => ⟨hl, fun _ => ⟨fun h => absurd h (by simp), fun _ => ⟨trivial, fun _ => ?_⟩⟩⟩⟩⟩⟩
  exact Sy.leafL_next (r + 1) rfl (show r + 1 ≤ 2 by omega) (by show 2 - (r + 1) < 2 - r; omega) (by rw [inc]; rfl) [0, 1] (by decide) rfl

theorem loopF0_reg (g o c ga ca : Nat) (l : List Nd) (k : Int) : Sy.MeetsL Try.prog (loopF0 .reg g o c ga ca l k) := by
  refine Sy.loop_of (n := 50) (fn := fTells) (ctxF_holds .reg g o c l k) mixed (body := bodyF0) rfl [0, 1, 4, 5, 6] (fun r : Nat => slF0 g o c l.length ga (0 + l.length) ca r k) (fun _ => [⟨g, .seg o (ndCells l), false⟩, ⟨ga, .seg 0 (ndCells l), false⟩])
    (fun r => r ≤ 2) (fun r => 2 - r)
    0 (fun h => Nat.zero_le _) (fun p hp => hp) [0, 1] (by decide) rfl (o := fun _ => r0R_o) (R := fun r rest => r0R_R g o c ga ca r l k rest) (fun r rest _ => r0R_run g o c ga ca r l k rest) ?_
  rintro ⟨hl, hw⟩ r rest hr ns
  have hw : regX l k := hw
  simp only [r0R_R, Sy.Res.holds, Sy.b_and, Sy.b_or, Sy.b_not, Sy.b_f, Sy.b_and', Sy.b_or', Sy.q_lt, Sy.q_le, Sy.q_eq, Sy.b_tt, Sy.b_ft, not_true_eq_false, not_false_eq_true, decide_true]
  refine ⟨fun hlt => ?_, fun hge => Sy.leafL_end 0 rfl rfl (by simp) rfl [] rfl [0, 2, 3] rfl [] List.nodup_nil trivial trivial⟩
  have inc : Ex.wrapQ .i64 (Ex.addQ (r : Int) 1) = ((r + 1 : Nat) : Int) := Sy.inc_q r (by omega)
  refine ⟨⟨by rw [Nat.zero_add], hl, hw⟩, fun _ => ⟨⟨hl, hw⟩, fun _ => ⟨⟨by rw [Nat.zero_add], hl⟩, fun _ => ⟨hl, fun _ => ⟨fun h => absurd h (by simp), fun _ => ⟨trivial, fun _ => ?_⟩⟩⟩⟩⟩⟩
  exact Sy.leafL_next (r + 1) rfl (show r + 1 ≤ 2 by omega) (by show 2 - (r + 1) < 2 - r; omega) (by rw [inc]; rfl) [0, 1] (by decide) rfl

theorem loopF0_ok (g o c ga ca : Nat) (l : List Nd) (k : Int) : Sy.MeetsL Try.prog (loopF0 .ok g o c ga ca l k) := by
  refine Sy.loop_of (n := 50) (fn := fTells) (ctxF_holds .ok g o c l k) mixed (body := bodyF0) rfl [0, 1, 4, 5, 6] (fun r : Nat => slF0 g o c l.length ga (0 + l.length) ca r k) (fun _ => [⟨g, .seg o (ndCells l), false⟩, ⟨ga, .seg 0 (ndCells l), false⟩])
    (fun r => r ≤ 2) (fun r => 2 - r)
    0 (fun h => Nat.zero_le _) (fun p hp => hp) [0, 1] (by decide) rfl (o := fun _ => r0O_o) (R := fun r rest => r0O_R g o c ga ca r l k rest) (fun r rest _ => r0O_run g o c ga ca r l k rest) ?_
  rintro ⟨hl, hw⟩ r rest hr ns
  have hw : okX l k := hw
  simp only [r0O_R, Sy.Res.holds, Sy.b_and, Sy.b_or, Sy.b_not, Sy.b_f, Sy.b_and', Sy.b_or', Sy.q_lt, Sy.q_le, Sy.q_eq, Sy.b_tt, Sy.b_ft, not_true_eq_false, not_false_eq_true, decide_true]
  refine ⟨fun hlt => ?_, fun hge => Sy.leafL_end 0 rfl rfl (by simp) rfl [] rfl [0, 2, 3] rfl [] List.nodup_nil trivial trivial⟩
  have inc : Ex.wrapQ .i64 (Ex.addQ (r : Int) 1) = ((r + 1 : Nat) : Int) := Sy.inc_q r (by omega)
  have hn := outL_len hw
  refine ⟨⟨by rw [Nat.zero_add], hl, hw⟩, fun _ => ⟨⟨hl, hw⟩, fun _ => ⟨⟨by rw [Nat.zero_add], hl⟩, fun _ => ⟨hl, fun _ => ⟨?_, fun _ => ⟨fun h => absurd h (by simp), fun _ => ⟨⟨by omega, insC_len _⟩, fun _ => ?_⟩⟩⟩⟩⟩⟩⟩
  · show (outL l k).length ≤ _
    omega
  · exact Sy.leafL_next (r + 1) rfl (show r + 1 ≤ 2 by omega) (by show 2 - (r + 1) < 2 - r; omega) (by rw [inc]; rfl) [1, 2] (by decide) rfl

theorem loopF0_met (w : Way) (g o c ga ca : Nat) (l : List Nd) (k : Int) : Sy.MeetsL Try.prog (loopF0 w g o c ga ca l k) := by
  cases w
  · exact loopF0_bad g o c ga ca l k
  · exact loopF0_reg g o c ga ca l k
  · exact loopF0_ok g o c ga ca l k

end Go.Proofs.Ytgaejhhipnpopaa
