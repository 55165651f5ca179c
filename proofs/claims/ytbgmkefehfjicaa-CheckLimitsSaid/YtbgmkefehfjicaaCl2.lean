/-
  CheckLimits: what the program tells of a long text.
-/
import Derived.Test.YtbgmkefehfjicaaCl2b
namespace Go.Proofs.Ytbgmkefehfjicaa
set_option linter.unusedVariables false
set_option linter.unusedSimpArgs false
open Go Go.RowKit
open Sy (Let Blk)

noncomputable def eqN2 (l : List Nat) : List Nat → Bool := @List.rec Nat (fun _ => List Nat → Bool) (fun t => @List.rec Nat (fun _ => Bool) true (fun _ _ _ => false) t) (fun x _ ih t => @List.rec Nat (fun _ => Bool) false (fun y r _ => @Bool.rec (fun _ => Bool) false (ih r) (Nat.beq x y)) t) l
noncomputable def plK2 (args : Array Value) (ct : Sy.Cont) : Sy.CallC := match args.toList with
  | [.slice (some ⟨g, 0, none⟩) n cap] => match unbytes (segOf ct) with
    | some bs => @Bool.rec (fun _ => Sy.CallC) noC (Sy.graphC fParse2 (paA2 g (Nat.sub cap n)) [(g, .seg 0 (bcells tb2))] (List.length pl2_ps) pl2_v pl2_nw) (eqN2 bs tb2)
    | none => noC
  | _ => noC
theorem plK2_met (args : Array Value) (ct : Sy.Cont) : Sy.Meets Try.prog (plK2 args ct) := by
  unfold plK2
  split
  · split
    · exact brec_met _ noC_met (pl2_met _ _)
    · exact noC_met
  · exact noC_met
noncomputable def ckK2 (m : Int) (L : List Blk) : Sy.CallC := match Sy.letsOf ((L.drop 2).take (List.length pl2_ps)) with
  | l => Sy.graphC fCheck2 #[tree2 l] (maxB m :: pl2_nw l) (List.length cl2_ps) cl2_v cl2_nw
noncomputable def ctxO2 (m : Int) : Sy.Ctx := Sy.mkS [(fCheck2, fun _ L => ckK2 m L)] [] []
theorem ctxO2_holds (m : Int) : (ctxO2 m).holds Try.prog := Sy.mkS_holds (fun p hp a L => by
  rcases List.mem_singleton.1 hp with rfl
  exact cl2_met m _) (fun _ h => (by cases h)) (fun _ h => (by cases h))
noncomputable def hO2 : Sy.How := ⟨fun _ => false, fun _ => false, [⟨fParse2, 0, plK2⟩]⟩
theorem hO2_holds : hO2.holds Try.prog := ⟨fun x hx a ct => by
  rcases List.mem_singleton.1 hx with rfl
  exact plK2_met a ct⟩

set_option maxRecDepth 1000000 in
noncomputable def ol2_o : Sy.O := (Sy.O.pack 12 0x200000100000 (Sy.O.steps [32] (Sy.O.pack 28 0x842108421084210842108421084210842 (Sy.O.steps [58] (Sy.O.steps [0, 0] (Sy.O.steps [57] (Sy.O.steps [0] (Sy.O.steps [58] (Sy.O.steps [0] (Sy.O.steps [57] (Sy.O.steps [0] Sy.O.nil)))))))))))
def ol2_ps : List Nat := [0, 1, 2, 3, 4, 5, 6, 7, 8, 9, 10, 11, 12, 13, 14, 15, 16, 17, 18, 19, 20, 21, 22, 23, 24, 25]
noncomputable def ol2_v (ns : List Sy.Let) : Value := Value.tuple
 (Array.mk
 [Value.agg
 (Array.mk
 [Value.int IntKind.i64 (0 : Int),
 Value.slice (some (Addr.mk (Sy.letN (0 : Nat) ns) (0 : Nat) none)) (1 : Nat) (Sy.letN (1 : Nat) ns)]),
 Value.agg
 (Array.mk [Value.int IntKind.i64 (0 : Int), Value.int IntKind.i64 (0 : Int), Value.int IntKind.i64 (0 : Int)])])
noncomputable def ol2_nw (ns : List Sy.Let) : List (Nat × Sy.Cont) := [(Sy.letN 0 ns, Sy.Cont.row (37 : Nat) (2 : Nat) (1 : Nat) (Sy.letN (1 : Nat) ns)
 [Value.int IntKind.i64 (24 : Int),
 Value.slice (some (Addr.mk (Sy.letN (2 : Nat) ns) (0 : Nat) none)) (24 : Nat) (Sy.letN (3 : Nat) ns)]), (Sy.letN 2 ns, Sy.Cont.row (67 : Nat) (11 : Nat) (24 : Nat) (Sy.letN (3 : Nat) ns)
 [Value.int IntKind.i64 (1 : Int), Value.int IntKind.i64 (0 : Int), Value.int IntKind.i64 (0 : Int),
 Value.int IntKind.i64 (0 : Int), Value.slice none (0 : Nat) (0 : Nat),
 Value.slice (some (Addr.mk (Sy.letN (50 : Nat) ns) (0 : Nat) none)) (1 : Nat) (Sy.letN (51 : Nat) ns),
 Value.slice none (0 : Nat) (0 : Nat), Value.int IntKind.i64 (0 : Int), Value.int IntKind.i64 (0 : Int),
 Value.int IntKind.i64 (1 : Int), Value.int IntKind.i64 (10 : Int), Value.int IntKind.i64 (1 : Int),
 Value.int IntKind.i64 (1 : Int), Value.int IntKind.i64 (0 : Int), Value.int IntKind.i64 (0 : Int),
 Value.slice none (0 : Nat) (0 : Nat),
 Value.slice (some (Addr.mk (Sy.letN (48 : Nat) ns) (0 : Nat) none)) (1 : Nat) (Sy.letN (49 : Nat) ns),
 Value.slice none (0 : Nat) (0 : Nat), Value.int IntKind.i64 (0 : Int), Value.int IntKind.i64 (0 : Int),
 Value.int IntKind.i64 (1 : Int), Value.int IntKind.i64 (22 : Int), Value.int IntKind.i64 (1 : Int),
 Value.int IntKind.i64 (2 : Int), Value.int IntKind.i64 (0 : Int), Value.int IntKind.i64 (0 : Int),
 Value.slice none (0 : Nat) (0 : Nat),
 Value.slice (some (Addr.mk (Sy.letN (46 : Nat) ns) (0 : Nat) none)) (1 : Nat) (Sy.letN (47 : Nat) ns),
 Value.slice none (0 : Nat) (0 : Nat), Value.int IntKind.i64 (0 : Int), Value.int IntKind.i64 (0 : Int),
 Value.int IntKind.i64 (1 : Int), Value.int IntKind.i64 (34 : Int), Value.int IntKind.i64 (1 : Int),
 Value.int IntKind.i64 (3 : Int), Value.int IntKind.i64 (0 : Int), Value.int IntKind.i64 (0 : Int),
 Value.slice none (0 : Nat) (0 : Nat),
 Value.slice (some (Addr.mk (Sy.letN (44 : Nat) ns) (0 : Nat) none)) (1 : Nat) (Sy.letN (45 : Nat) ns),
 Value.slice none (0 : Nat) (0 : Nat), Value.int IntKind.i64 (0 : Int), Value.int IntKind.i64 (0 : Int),
 Value.int IntKind.i64 (1 : Int), Value.int IntKind.i64 (46 : Int), Value.int IntKind.i64 (1 : Int),
 Value.int IntKind.i64 (4 : Int), Value.int IntKind.i64 (0 : Int), Value.int IntKind.i64 (0 : Int),
 Value.slice none (0 : Nat) (0 : Nat),
 Value.slice (some (Addr.mk (Sy.letN (42 : Nat) ns) (0 : Nat) none)) (1 : Nat) (Sy.letN (43 : Nat) ns),
 Value.slice none (0 : Nat) (0 : Nat), Value.int IntKind.i64 (0 : Int), Value.int IntKind.i64 (0 : Int),
 Value.int IntKind.i64 (1 : Int), Value.int IntKind.i64 (58 : Int), Value.int IntKind.i64 (1 : Int),
 Value.int IntKind.i64 (5 : Int), Value.int IntKind.i64 (0 : Int), Value.int IntKind.i64 (0 : Int),
 Value.slice none (0 : Nat) (0 : Nat),
 Value.slice (some (Addr.mk (Sy.letN (40 : Nat) ns) (0 : Nat) none)) (1 : Nat) (Sy.letN (41 : Nat) ns),
 Value.slice none (0 : Nat) (0 : Nat), Value.int IntKind.i64 (0 : Int), Value.int IntKind.i64 (0 : Int),
 Value.int IntKind.i64 (1 : Int), Value.int IntKind.i64 (70 : Int), Value.int IntKind.i64 (1 : Int),
 Value.int IntKind.i64 (6 : Int), Value.int IntKind.i64 (0 : Int), Value.int IntKind.i64 (0 : Int),
 Value.slice none (0 : Nat) (0 : Nat),
 Value.slice (some (Addr.mk (Sy.letN (38 : Nat) ns) (0 : Nat) none)) (1 : Nat) (Sy.letN (39 : Nat) ns),
 Value.slice none (0 : Nat) (0 : Nat), Value.int IntKind.i64 (0 : Int), Value.int IntKind.i64 (0 : Int),
 Value.int IntKind.i64 (1 : Int), Value.int IntKind.i64 (82 : Int), Value.int IntKind.i64 (1 : Int),
 Value.int IntKind.i64 (7 : Int), Value.int IntKind.i64 (0 : Int), Value.int IntKind.i64 (0 : Int),
 Value.slice none (0 : Nat) (0 : Nat),
 Value.slice (some (Addr.mk (Sy.letN (36 : Nat) ns) (0 : Nat) none)) (1 : Nat) (Sy.letN (37 : Nat) ns),
 Value.slice none (0 : Nat) (0 : Nat), Value.int IntKind.i64 (0 : Int), Value.int IntKind.i64 (0 : Int),
 Value.int IntKind.i64 (1 : Int), Value.int IntKind.i64 (94 : Int), Value.int IntKind.i64 (1 : Int),
 Value.int IntKind.i64 (8 : Int), Value.int IntKind.i64 (0 : Int), Value.int IntKind.i64 (0 : Int),
 Value.slice none (0 : Nat) (0 : Nat),
 Value.slice (some (Addr.mk (Sy.letN (34 : Nat) ns) (0 : Nat) none)) (1 : Nat) (Sy.letN (35 : Nat) ns),
 Value.slice none (0 : Nat) (0 : Nat), Value.int IntKind.i64 (0 : Int), Value.int IntKind.i64 (0 : Int),
 Value.int IntKind.i64 (1 : Int), Value.int IntKind.i64 (106 : Int), Value.int IntKind.i64 (1 : Int),
 Value.int IntKind.i64 (9 : Int), Value.int IntKind.i64 (0 : Int), Value.int IntKind.i64 (0 : Int),
 Value.slice none (0 : Nat) (0 : Nat),
 Value.slice (some (Addr.mk (Sy.letN (32 : Nat) ns) (0 : Nat) none)) (1 : Nat) (Sy.letN (33 : Nat) ns),
 Value.slice none (0 : Nat) (0 : Nat), Value.int IntKind.i64 (0 : Int), Value.int IntKind.i64 (0 : Int),
 Value.int IntKind.i64 (1 : Int), Value.int IntKind.i64 (118 : Int), Value.int IntKind.i64 (1 : Int),
 Value.int IntKind.i64 (10 : Int), Value.int IntKind.i64 (0 : Int), Value.int IntKind.i64 (0 : Int),
 Value.slice none (0 : Nat) (0 : Nat),
 Value.slice (some (Addr.mk (Sy.letN (30 : Nat) ns) (0 : Nat) none)) (1 : Nat) (Sy.letN (31 : Nat) ns),
 Value.slice none (0 : Nat) (0 : Nat), Value.int IntKind.i64 (0 : Int), Value.int IntKind.i64 (0 : Int),
 Value.int IntKind.i64 (1 : Int), Value.int IntKind.i64 (130 : Int), Value.int IntKind.i64 (1 : Int),
 Value.int IntKind.i64 (11 : Int), Value.int IntKind.i64 (0 : Int), Value.int IntKind.i64 (0 : Int),
 Value.slice none (0 : Nat) (0 : Nat),
 Value.slice (some (Addr.mk (Sy.letN (28 : Nat) ns) (0 : Nat) none)) (1 : Nat) (Sy.letN (29 : Nat) ns),
 Value.slice none (0 : Nat) (0 : Nat), Value.int IntKind.i64 (0 : Int), Value.int IntKind.i64 (0 : Int),
 Value.int IntKind.i64 (1 : Int), Value.int IntKind.i64 (142 : Int), Value.int IntKind.i64 (1 : Int),
 Value.int IntKind.i64 (12 : Int), Value.int IntKind.i64 (0 : Int), Value.int IntKind.i64 (0 : Int),
 Value.slice none (0 : Nat) (0 : Nat),
 Value.slice (some (Addr.mk (Sy.letN (26 : Nat) ns) (0 : Nat) none)) (1 : Nat) (Sy.letN (27 : Nat) ns),
 Value.slice none (0 : Nat) (0 : Nat), Value.int IntKind.i64 (0 : Int), Value.int IntKind.i64 (0 : Int),
 Value.int IntKind.i64 (1 : Int), Value.int IntKind.i64 (154 : Int), Value.int IntKind.i64 (1 : Int),
 Value.int IntKind.i64 (13 : Int), Value.int IntKind.i64 (0 : Int), Value.int IntKind.i64 (0 : Int),
 Value.slice none (0 : Nat) (0 : Nat),
 Value.slice (some (Addr.mk (Sy.letN (24 : Nat) ns) (0 : Nat) none)) (1 : Nat) (Sy.letN (25 : Nat) ns),
 Value.slice none (0 : Nat) (0 : Nat), Value.int IntKind.i64 (0 : Int), Value.int IntKind.i64 (0 : Int),
 Value.int IntKind.i64 (1 : Int), Value.int IntKind.i64 (166 : Int), Value.int IntKind.i64 (1 : Int),
 Value.int IntKind.i64 (14 : Int), Value.int IntKind.i64 (0 : Int), Value.int IntKind.i64 (0 : Int),
 Value.slice none (0 : Nat) (0 : Nat),
 Value.slice (some (Addr.mk (Sy.letN (22 : Nat) ns) (0 : Nat) none)) (1 : Nat) (Sy.letN (23 : Nat) ns),
 Value.slice none (0 : Nat) (0 : Nat), Value.int IntKind.i64 (0 : Int), Value.int IntKind.i64 (0 : Int),
 Value.int IntKind.i64 (1 : Int), Value.int IntKind.i64 (178 : Int), Value.int IntKind.i64 (1 : Int),
 Value.int IntKind.i64 (15 : Int), Value.int IntKind.i64 (0 : Int), Value.int IntKind.i64 (0 : Int),
 Value.slice none (0 : Nat) (0 : Nat),
 Value.slice (some (Addr.mk (Sy.letN (20 : Nat) ns) (0 : Nat) none)) (1 : Nat) (Sy.letN (21 : Nat) ns),
 Value.slice none (0 : Nat) (0 : Nat), Value.int IntKind.i64 (0 : Int), Value.int IntKind.i64 (0 : Int),
 Value.int IntKind.i64 (1 : Int), Value.int IntKind.i64 (190 : Int), Value.int IntKind.i64 (1 : Int),
 Value.int IntKind.i64 (16 : Int), Value.int IntKind.i64 (0 : Int), Value.int IntKind.i64 (0 : Int),
 Value.slice none (0 : Nat) (0 : Nat),
 Value.slice (some (Addr.mk (Sy.letN (18 : Nat) ns) (0 : Nat) none)) (1 : Nat) (Sy.letN (19 : Nat) ns),
 Value.slice none (0 : Nat) (0 : Nat), Value.int IntKind.i64 (0 : Int), Value.int IntKind.i64 (0 : Int),
 Value.int IntKind.i64 (1 : Int), Value.int IntKind.i64 (202 : Int), Value.int IntKind.i64 (1 : Int),
 Value.int IntKind.i64 (17 : Int), Value.int IntKind.i64 (0 : Int), Value.int IntKind.i64 (0 : Int),
 Value.slice none (0 : Nat) (0 : Nat),
 Value.slice (some (Addr.mk (Sy.letN (16 : Nat) ns) (0 : Nat) none)) (1 : Nat) (Sy.letN (17 : Nat) ns),
 Value.slice none (0 : Nat) (0 : Nat), Value.int IntKind.i64 (0 : Int), Value.int IntKind.i64 (0 : Int),
 Value.int IntKind.i64 (1 : Int), Value.int IntKind.i64 (214 : Int), Value.int IntKind.i64 (1 : Int),
 Value.int IntKind.i64 (18 : Int), Value.int IntKind.i64 (0 : Int), Value.int IntKind.i64 (0 : Int),
 Value.slice none (0 : Nat) (0 : Nat),
 Value.slice (some (Addr.mk (Sy.letN (14 : Nat) ns) (0 : Nat) none)) (1 : Nat) (Sy.letN (15 : Nat) ns),
 Value.slice none (0 : Nat) (0 : Nat), Value.int IntKind.i64 (0 : Int), Value.int IntKind.i64 (0 : Int),
 Value.int IntKind.i64 (1 : Int), Value.int IntKind.i64 (226 : Int), Value.int IntKind.i64 (1 : Int),
 Value.int IntKind.i64 (19 : Int), Value.int IntKind.i64 (0 : Int), Value.int IntKind.i64 (0 : Int),
 Value.slice none (0 : Nat) (0 : Nat),
 Value.slice (some (Addr.mk (Sy.letN (12 : Nat) ns) (0 : Nat) none)) (1 : Nat) (Sy.letN (13 : Nat) ns),
 Value.slice none (0 : Nat) (0 : Nat), Value.int IntKind.i64 (0 : Int), Value.int IntKind.i64 (0 : Int),
 Value.int IntKind.i64 (1 : Int), Value.int IntKind.i64 (238 : Int), Value.int IntKind.i64 (1 : Int),
 Value.int IntKind.i64 (20 : Int), Value.int IntKind.i64 (0 : Int), Value.int IntKind.i64 (0 : Int),
 Value.slice none (0 : Nat) (0 : Nat),
 Value.slice (some (Addr.mk (Sy.letN (10 : Nat) ns) (0 : Nat) none)) (1 : Nat) (Sy.letN (11 : Nat) ns),
 Value.slice none (0 : Nat) (0 : Nat), Value.int IntKind.i64 (0 : Int), Value.int IntKind.i64 (0 : Int),
 Value.int IntKind.i64 (1 : Int), Value.int IntKind.i64 (250 : Int), Value.int IntKind.i64 (1 : Int),
 Value.int IntKind.i64 (21 : Int), Value.int IntKind.i64 (0 : Int), Value.int IntKind.i64 (0 : Int),
 Value.slice none (0 : Nat) (0 : Nat),
 Value.slice (some (Addr.mk (Sy.letN (8 : Nat) ns) (0 : Nat) none)) (1 : Nat) (Sy.letN (9 : Nat) ns),
 Value.slice none (0 : Nat) (0 : Nat), Value.int IntKind.i64 (0 : Int), Value.int IntKind.i64 (0 : Int),
 Value.int IntKind.i64 (1 : Int), Value.int IntKind.i64 (262 : Int), Value.int IntKind.i64 (1 : Int),
 Value.int IntKind.i64 (22 : Int), Value.int IntKind.i64 (0 : Int), Value.int IntKind.i64 (0 : Int),
 Value.slice none (0 : Nat) (0 : Nat),
 Value.slice (some (Addr.mk (Sy.letN (6 : Nat) ns) (0 : Nat) none)) (1 : Nat) (Sy.letN (7 : Nat) ns),
 Value.slice none (0 : Nat) (0 : Nat), Value.int IntKind.i64 (0 : Int), Value.int IntKind.i64 (0 : Int),
 Value.int IntKind.i64 (1 : Int), Value.int IntKind.i64 (274 : Int), Value.int IntKind.i64 (1 : Int),
 Value.int IntKind.i64 (23 : Int), Value.int IntKind.i64 (0 : Int), Value.int IntKind.i64 (0 : Int),
 Value.slice none (0 : Nat) (0 : Nat),
 Value.slice (some (Addr.mk (Sy.letN (4 : Nat) ns) (0 : Nat) none)) (1 : Nat) (Sy.letN (5 : Nat) ns),
 Value.slice none (0 : Nat) (0 : Nat), Value.int IntKind.i64 (0 : Int), Value.int IntKind.i64 (0 : Int),
 Value.int IntKind.i64 (1 : Int), Value.int IntKind.i64 (286 : Int)]), (Sy.letN 4 ns, Sy.Cont.row (114 : Nat) (4 : Nat) (1 : Nat) (Sy.letN (5 : Nat) ns)
 [Value.int IntKind.i64 (1 : Int), Value.int IntKind.u64 (1 : Int), Value.int IntKind.i64 (0 : Int),
 Value.int IntKind.i64 (0 : Int)]), (Sy.letN 6 ns, Sy.Cont.row (114 : Nat) (4 : Nat) (1 : Nat) (Sy.letN (7 : Nat) ns)
 [Value.int IntKind.i64 (1 : Int), Value.int IntKind.u64 (1 : Int), Value.int IntKind.i64 (0 : Int),
 Value.int IntKind.i64 (0 : Int)]), (Sy.letN 8 ns, Sy.Cont.row (114 : Nat) (4 : Nat) (1 : Nat) (Sy.letN (9 : Nat) ns)
 [Value.int IntKind.i64 (1 : Int), Value.int IntKind.u64 (1 : Int), Value.int IntKind.i64 (0 : Int),
 Value.int IntKind.i64 (0 : Int)]), (Sy.letN 10 ns, Sy.Cont.row (114 : Nat) (4 : Nat) (1 : Nat) (Sy.letN (11 : Nat) ns)
 [Value.int IntKind.i64 (1 : Int), Value.int IntKind.u64 (1 : Int), Value.int IntKind.i64 (0 : Int),
 Value.int IntKind.i64 (0 : Int)]), (Sy.letN 12 ns, Sy.Cont.row (114 : Nat) (4 : Nat) (1 : Nat) (Sy.letN (13 : Nat) ns)
 [Value.int IntKind.i64 (1 : Int), Value.int IntKind.u64 (1 : Int), Value.int IntKind.i64 (0 : Int),
 Value.int IntKind.i64 (0 : Int)]), (Sy.letN 14 ns, Sy.Cont.row (114 : Nat) (4 : Nat) (1 : Nat) (Sy.letN (15 : Nat) ns)
 [Value.int IntKind.i64 (1 : Int), Value.int IntKind.u64 (1 : Int), Value.int IntKind.i64 (0 : Int),
 Value.int IntKind.i64 (0 : Int)]), (Sy.letN 16 ns, Sy.Cont.row (114 : Nat) (4 : Nat) (1 : Nat) (Sy.letN (17 : Nat) ns)
 [Value.int IntKind.i64 (1 : Int), Value.int IntKind.u64 (1 : Int), Value.int IntKind.i64 (0 : Int),
 Value.int IntKind.i64 (0 : Int)]), (Sy.letN 18 ns, Sy.Cont.row (114 : Nat) (4 : Nat) (1 : Nat) (Sy.letN (19 : Nat) ns)
 [Value.int IntKind.i64 (1 : Int), Value.int IntKind.u64 (1 : Int), Value.int IntKind.i64 (0 : Int),
 Value.int IntKind.i64 (0 : Int)]), (Sy.letN 20 ns, Sy.Cont.row (114 : Nat) (4 : Nat) (1 : Nat) (Sy.letN (21 : Nat) ns)
 [Value.int IntKind.i64 (1 : Int), Value.int IntKind.u64 (1 : Int), Value.int IntKind.i64 (0 : Int),
 Value.int IntKind.i64 (0 : Int)]), (Sy.letN 22 ns, Sy.Cont.row (114 : Nat) (4 : Nat) (1 : Nat) (Sy.letN (23 : Nat) ns)
 [Value.int IntKind.i64 (1 : Int), Value.int IntKind.u64 (1 : Int), Value.int IntKind.i64 (0 : Int),
 Value.int IntKind.i64 (0 : Int)]), (Sy.letN 24 ns, Sy.Cont.row (114 : Nat) (4 : Nat) (1 : Nat) (Sy.letN (25 : Nat) ns)
 [Value.int IntKind.i64 (1 : Int), Value.int IntKind.u64 (1 : Int), Value.int IntKind.i64 (0 : Int),
 Value.int IntKind.i64 (0 : Int)]), (Sy.letN 26 ns, Sy.Cont.row (114 : Nat) (4 : Nat) (1 : Nat) (Sy.letN (27 : Nat) ns)
 [Value.int IntKind.i64 (1 : Int), Value.int IntKind.u64 (1 : Int), Value.int IntKind.i64 (0 : Int),
 Value.int IntKind.i64 (0 : Int)]), (Sy.letN 28 ns, Sy.Cont.row (114 : Nat) (4 : Nat) (1 : Nat) (Sy.letN (29 : Nat) ns)
 [Value.int IntKind.i64 (1 : Int), Value.int IntKind.u64 (1 : Int), Value.int IntKind.i64 (0 : Int),
 Value.int IntKind.i64 (0 : Int)]), (Sy.letN 30 ns, Sy.Cont.row (114 : Nat) (4 : Nat) (1 : Nat) (Sy.letN (31 : Nat) ns)
 [Value.int IntKind.i64 (1 : Int), Value.int IntKind.u64 (1 : Int), Value.int IntKind.i64 (0 : Int),
 Value.int IntKind.i64 (0 : Int)]), (Sy.letN 32 ns, Sy.Cont.row (114 : Nat) (4 : Nat) (1 : Nat) (Sy.letN (33 : Nat) ns)
 [Value.int IntKind.i64 (1 : Int), Value.int IntKind.u64 (1 : Int), Value.int IntKind.i64 (0 : Int),
 Value.int IntKind.i64 (0 : Int)]), (Sy.letN 34 ns, Sy.Cont.row (114 : Nat) (4 : Nat) (1 : Nat) (Sy.letN (35 : Nat) ns)
 [Value.int IntKind.i64 (1 : Int), Value.int IntKind.u64 (1 : Int), Value.int IntKind.i64 (0 : Int),
 Value.int IntKind.i64 (0 : Int)]), (Sy.letN 36 ns, Sy.Cont.row (114 : Nat) (4 : Nat) (1 : Nat) (Sy.letN (37 : Nat) ns)
 [Value.int IntKind.i64 (1 : Int), Value.int IntKind.u64 (1 : Int), Value.int IntKind.i64 (0 : Int),
 Value.int IntKind.i64 (0 : Int)]), (Sy.letN 38 ns, Sy.Cont.row (114 : Nat) (4 : Nat) (1 : Nat) (Sy.letN (39 : Nat) ns)
 [Value.int IntKind.i64 (1 : Int), Value.int IntKind.u64 (1 : Int), Value.int IntKind.i64 (0 : Int),
 Value.int IntKind.i64 (0 : Int)]), (Sy.letN 40 ns, Sy.Cont.row (114 : Nat) (4 : Nat) (1 : Nat) (Sy.letN (41 : Nat) ns)
 [Value.int IntKind.i64 (1 : Int), Value.int IntKind.u64 (1 : Int), Value.int IntKind.i64 (0 : Int),
 Value.int IntKind.i64 (0 : Int)]), (Sy.letN 42 ns, Sy.Cont.row (114 : Nat) (4 : Nat) (1 : Nat) (Sy.letN (43 : Nat) ns)
 [Value.int IntKind.i64 (1 : Int), Value.int IntKind.u64 (1 : Int), Value.int IntKind.i64 (0 : Int),
 Value.int IntKind.i64 (0 : Int)]), (Sy.letN 44 ns, Sy.Cont.row (114 : Nat) (4 : Nat) (1 : Nat) (Sy.letN (45 : Nat) ns)
 [Value.int IntKind.i64 (1 : Int), Value.int IntKind.u64 (1 : Int), Value.int IntKind.i64 (0 : Int),
 Value.int IntKind.i64 (0 : Int)]), (Sy.letN 46 ns, Sy.Cont.row (114 : Nat) (4 : Nat) (1 : Nat) (Sy.letN (47 : Nat) ns)
 [Value.int IntKind.i64 (1 : Int), Value.int IntKind.u64 (1 : Int), Value.int IntKind.i64 (0 : Int),
 Value.int IntKind.i64 (0 : Int)]), (Sy.letN 48 ns, Sy.Cont.row (114 : Nat) (4 : Nat) (1 : Nat) (Sy.letN (49 : Nat) ns)
 [Value.int IntKind.i64 (1 : Int), Value.int IntKind.u64 (1 : Int), Value.int IntKind.i64 (0 : Int),
 Value.int IntKind.i64 (0 : Int)]), (Sy.letN 50 ns, Sy.Cont.row (114 : Nat) (4 : Nat) (1 : Nat) (Sy.letN (51 : Nat) ns)
 [Value.int IntKind.i64 (1 : Int), Value.int IntKind.u64 (1 : Int), Value.int IntKind.i64 (0 : Int),
 Value.int IntKind.i64 (0 : Int)])]
set_option maxRecDepth 1000000 in
theorem ol2_met (m : Int) : Sy.Meets Try.prog (Sy.graphC fOf #[.string tl2] [maxB m] (List.length ol2_ps) ol2_v ol2_nw) :=
  Sy.meets_graphJ (ctxO2_holds m) hO2_holds mixed (n := 300) ol2_ps (by decide) (o := ol2_o) (fun ns => by kernel_rfl) (fun ns => by kernel_rfl)

end Go.Proofs.Ytbgmkefehfjicaa
