/-
  Small tables of the checks.
-/
import Derived.Test.YtbgmkefehfjicaaCkH
namespace Go.Proofs.Ytbgmkefehfjicaa
set_option linter.unusedVariables false
set_option linter.unusedSimpArgs false
open Go Go.RowKit
open Sy (Let Blk)

abbrev fShapes : FuncId := 100
abbrev fAct : FuncId := 88
set_option maxRecDepth 1000000 in
noncomputable def sh_o : Sy.O := (Sy.O.pack 20 0x0 Sy.O.nil)
def sh_ps : List Nat := [0]
noncomputable def sh_v (ns : List Sy.Let) : Value := Value.map (some (Sy.letN (0 : Nat) ns))
noncomputable def sh_nw (ns : List Sy.Let) : List (Nat × Sy.Cont) := [(Sy.letN 0 ns, Sy.Cont.obj
 (Obj.map
 (Array.mk
 [MapEntry.mk (Value.int IntKind.i64 (1 : Int))
 (Value.agg
 (Array.mk
 [Value.bool true, Value.bool false, Value.bool false, Value.bool false, Value.bool false,
 Value.int IntKind.i64 (1 : Int)]))
 (0 : Nat),
 MapEntry.mk (Value.int IntKind.i64 (2 : Int))
 (Value.agg
 (Array.mk
 [Value.bool true, Value.bool true, Value.bool true, Value.bool false, Value.bool false,
 Value.int IntKind.i64 (0 : Int)]))
 (1 : Nat),
 MapEntry.mk (Value.int IntKind.i64 (3 : Int))
 (Value.agg
 (Array.mk
 [Value.bool false, Value.bool true, Value.bool true, Value.bool false, Value.bool false,
 Value.int IntKind.i64 (1 : Int)]))
 (2 : Nat),
 MapEntry.mk (Value.int IntKind.i64 (4 : Int))
 (Value.agg
 (Array.mk
 [Value.bool true, Value.bool true, Value.bool true, Value.bool false, Value.bool false,
 Value.int IntKind.i64 (1 : Int)]))
 (3 : Nat),
 MapEntry.mk (Value.int IntKind.i64 (5 : Int))
 (Value.agg
 (Array.mk
 [Value.bool true, Value.bool true, Value.bool true, Value.bool false, Value.bool false,
 Value.int IntKind.i64 (1 : Int)]))
 (4 : Nat),
 MapEntry.mk (Value.int IntKind.i64 (6 : Int))
 (Value.agg
 (Array.mk
 [Value.bool true, Value.bool true, Value.bool true, Value.bool false, Value.bool false,
 Value.int IntKind.i64 (2 : Int)]))
 (5 : Nat),
 MapEntry.mk (Value.int IntKind.i64 (7 : Int))
 (Value.agg
 (Array.mk
 [Value.bool false, Value.bool false, Value.bool true, Value.bool false, Value.bool false,
 Value.int IntKind.i64 (0 : Int)]))
 (6 : Nat),
 MapEntry.mk (Value.int IntKind.i64 (8 : Int))
 (Value.agg
 (Array.mk
 [Value.bool false, Value.bool false, Value.bool false, Value.bool false, Value.bool false,
 Value.int IntKind.i64 (1 : Int)]))
 (7 : Nat),
 MapEntry.mk (Value.int IntKind.i64 (9 : Int))
 (Value.agg
 (Array.mk
 [Value.bool false, Value.bool false, Value.bool false, Value.bool true, Value.bool true,
 Value.int IntKind.i64 (1 : Int)]))
 (8 : Nat),
 MapEntry.mk (Value.int IntKind.i64 (10 : Int))
 (Value.agg
 (Array.mk
 [Value.bool false, Value.bool false, Value.bool false, Value.bool true, Value.bool false,
 Value.int IntKind.i64 (1 : Int)]))
 (9 : Nat)])
 (10 : Nat)))]
set_option maxRecDepth 1000000 in
noncomputable def ac1_o : Sy.O := (Sy.O.pack 21 0x0 Sy.O.nil)
def ac1_ps : List Nat := []
noncomputable def ac1_v (ns : List Sy.Let) : Value := Value.int IntKind.i64 (1 : Int)
noncomputable def ac1_nw (ns : List Sy.Let) : List (Nat × Sy.Cont) := []
set_option maxRecDepth 1000000 in
noncomputable def ac2_o : Sy.O := (Sy.O.pack 21 0x0 Sy.O.nil)
def ac2_ps : List Nat := []
noncomputable def ac2_v (ns : List Sy.Let) : Value := Value.int IntKind.i64 (2 : Int)
noncomputable def ac2_nw (ns : List Sy.Let) : List (Nat × Sy.Cont) := []
set_option maxRecDepth 1000000 in
noncomputable def ac3_o : Sy.O := (Sy.O.pack 21 0x0 Sy.O.nil)
def ac3_ps : List Nat := []
noncomputable def ac3_v (ns : List Sy.Let) : Value := Value.int IntKind.i64 (3 : Int)
noncomputable def ac3_nw (ns : List Sy.Let) : List (Nat × Sy.Cont) := []
set_option maxRecDepth 1000000 in
noncomputable def ac4_o : Sy.O := (Sy.O.pack 21 0x0 Sy.O.nil)
def ac4_ps : List Nat := []
noncomputable def ac4_v (ns : List Sy.Let) : Value := Value.int IntKind.i64 (4 : Int)
noncomputable def ac4_nw (ns : List Sy.Let) : List (Nat × Sy.Cont) := []
set_option maxRecDepth 1000000 in
noncomputable def ac5_o : Sy.O := (Sy.O.pack 21 0x0 Sy.O.nil)
def ac5_ps : List Nat := []
noncomputable def ac5_v (ns : List Sy.Let) : Value := Value.int IntKind.i64 (5 : Int)
noncomputable def ac5_nw (ns : List Sy.Let) : List (Nat × Sy.Cont) := []
set_option maxRecDepth 1000000 in
noncomputable def ac6_o : Sy.O := (Sy.O.pack 21 0x0 Sy.O.nil)
def ac6_ps : List Nat := []
noncomputable def ac6_v (ns : List Sy.Let) : Value := Value.int IntKind.i64 (6 : Int)
noncomputable def ac6_nw (ns : List Sy.Let) : List (Nat × Sy.Cont) := []
set_option maxRecDepth 1000000 in
noncomputable def ac7_o : Sy.O := (Sy.O.pack 21 0x0 Sy.O.nil)
def ac7_ps : List Nat := []
noncomputable def ac7_v (ns : List Sy.Let) : Value := Value.int IntKind.i64 (7 : Int)
noncomputable def ac7_nw (ns : List Sy.Let) : List (Nat × Sy.Cont) := []
set_option maxRecDepth 1000000 in
noncomputable def ac8_o : Sy.O := (Sy.O.pack 21 0x0 Sy.O.nil)
def ac8_ps : List Nat := []
noncomputable def ac8_v (ns : List Sy.Let) : Value := Value.int IntKind.i64 (8 : Int)
noncomputable def ac8_nw (ns : List Sy.Let) : List (Nat × Sy.Cont) := []
set_option maxRecDepth 1000000 in
noncomputable def ac9_o : Sy.O := (Sy.O.pack 21 0x0 Sy.O.nil)
def ac9_ps : List Nat := []
noncomputable def ac9_v (ns : List Sy.Let) : Value := Value.int IntKind.i64 (10 : Int)
noncomputable def ac9_nw (ns : List Sy.Let) : List (Nat × Sy.Cont) := []
set_option maxRecDepth 1000000 in
noncomputable def ac10_o : Sy.O := (Sy.O.pack 21 0x0 Sy.O.nil)
def ac10_ps : List Nat := []
noncomputable def ac10_v (ns : List Sy.Let) : Value := Value.int IntKind.i64 (10 : Int)
noncomputable def ac10_nw (ns : List Sy.Let) : List (Nat × Sy.Cont) := []
theorem sh_met : Sy.Meets Try.prog (Sy.graphC fShapes #[] [] (List.length sh_ps) sh_v sh_nw) :=
  Sy.meets_graphJ Sy.S0_holds ckH_holds mixed (n := 300) sh_ps (by decide) (o := sh_o) (fun ns => by kernel_rfl) (fun ns => by kernel_rfl)
theorem ac1_met : Sy.Meets Try.prog (Sy.graphC fAct #[.int .i64 1] [] (List.length ac1_ps) ac1_v ac1_nw) :=
  Sy.meets_graphJ Sy.S0_holds ckH_holds mixed (n := 300) ac1_ps (by decide) (o := ac1_o) (fun ns => by kernel_rfl) (fun ns => by kernel_rfl)
theorem ac2_met : Sy.Meets Try.prog (Sy.graphC fAct #[.int .i64 2] [] (List.length ac2_ps) ac2_v ac2_nw) :=
  Sy.meets_graphJ Sy.S0_holds ckH_holds mixed (n := 300) ac2_ps (by decide) (o := ac2_o) (fun ns => by kernel_rfl) (fun ns => by kernel_rfl)
theorem ac3_met : Sy.Meets Try.prog (Sy.graphC fAct #[.int .i64 3] [] (List.length ac3_ps) ac3_v ac3_nw) :=
  Sy.meets_graphJ Sy.S0_holds ckH_holds mixed (n := 300) ac3_ps (by decide) (o := ac3_o) (fun ns => by kernel_rfl) (fun ns => by kernel_rfl)
theorem ac4_met : Sy.Meets Try.prog (Sy.graphC fAct #[.int .i64 4] [] (List.length ac4_ps) ac4_v ac4_nw) :=
  Sy.meets_graphJ Sy.S0_holds ckH_holds mixed (n := 300) ac4_ps (by decide) (o := ac4_o) (fun ns => by kernel_rfl) (fun ns => by kernel_rfl)
theorem ac5_met : Sy.Meets Try.prog (Sy.graphC fAct #[.int .i64 5] [] (List.length ac5_ps) ac5_v ac5_nw) :=
  Sy.meets_graphJ Sy.S0_holds ckH_holds mixed (n := 300) ac5_ps (by decide) (o := ac5_o) (fun ns => by kernel_rfl) (fun ns => by kernel_rfl)
theorem ac6_met : Sy.Meets Try.prog (Sy.graphC fAct #[.int .i64 6] [] (List.length ac6_ps) ac6_v ac6_nw) :=
  Sy.meets_graphJ Sy.S0_holds ckH_holds mixed (n := 300) ac6_ps (by decide) (o := ac6_o) (fun ns => by kernel_rfl) (fun ns => by kernel_rfl)
theorem ac7_met : Sy.Meets Try.prog (Sy.graphC fAct #[.int .i64 7] [] (List.length ac7_ps) ac7_v ac7_nw) :=
  Sy.meets_graphJ Sy.S0_holds ckH_holds mixed (n := 300) ac7_ps (by decide) (o := ac7_o) (fun ns => by kernel_rfl) (fun ns => by kernel_rfl)
theorem ac8_met : Sy.Meets Try.prog (Sy.graphC fAct #[.int .i64 8] [] (List.length ac8_ps) ac8_v ac8_nw) :=
  Sy.meets_graphJ Sy.S0_holds ckH_holds mixed (n := 300) ac8_ps (by decide) (o := ac8_o) (fun ns => by kernel_rfl) (fun ns => by kernel_rfl)
theorem ac9_met : Sy.Meets Try.prog (Sy.graphC fAct #[.int .i64 9] [] (List.length ac9_ps) ac9_v ac9_nw) :=
  Sy.meets_graphJ Sy.S0_holds ckH_holds mixed (n := 300) ac9_ps (by decide) (o := ac9_o) (fun ns => by kernel_rfl) (fun ns => by kernel_rfl)
theorem ac10_met : Sy.Meets Try.prog (Sy.graphC fAct #[.int .i64 10] [] (List.length ac10_ps) ac10_v ac10_nw) :=
  Sy.meets_graphJ Sy.S0_holds ckH_holds mixed (n := 300) ac10_ps (by decide) (o := ac10_o) (fun ns => by kernel_rfl) (fun ns => by kernel_rfl)

noncomputable def actK (args : Array Value) : Sy.CallC := match args.toList with
  | [.int _ n] => (@Bool.rec (fun _ => Sy.CallC) (@Bool.rec (fun _ => Sy.CallC) (@Bool.rec (fun _ => Sy.CallC) (@Bool.rec (fun _ => Sy.CallC) (@Bool.rec (fun _ => Sy.CallC) (@Bool.rec (fun _ => Sy.CallC) (@Bool.rec (fun _ => Sy.CallC) (@Bool.rec (fun _ => Sy.CallC) (@Bool.rec (fun _ => Sy.CallC) (@Bool.rec (fun _ => Sy.CallC) noC (Sy.graphC fAct #[.int .i64 10] [] (List.length ac10_ps) ac10_v ac10_nw) (Ex.eqQ n 10)) (Sy.graphC fAct #[.int .i64 9] [] (List.length ac9_ps) ac9_v ac9_nw) (Ex.eqQ n 9)) (Sy.graphC fAct #[.int .i64 8] [] (List.length ac8_ps) ac8_v ac8_nw) (Ex.eqQ n 8)) (Sy.graphC fAct #[.int .i64 7] [] (List.length ac7_ps) ac7_v ac7_nw) (Ex.eqQ n 7)) (Sy.graphC fAct #[.int .i64 6] [] (List.length ac6_ps) ac6_v ac6_nw) (Ex.eqQ n 6)) (Sy.graphC fAct #[.int .i64 5] [] (List.length ac5_ps) ac5_v ac5_nw) (Ex.eqQ n 5)) (Sy.graphC fAct #[.int .i64 4] [] (List.length ac4_ps) ac4_v ac4_nw) (Ex.eqQ n 4)) (Sy.graphC fAct #[.int .i64 3] [] (List.length ac3_ps) ac3_v ac3_nw) (Ex.eqQ n 3)) (Sy.graphC fAct #[.int .i64 2] [] (List.length ac2_ps) ac2_v ac2_nw) (Ex.eqQ n 2)) (Sy.graphC fAct #[.int .i64 1] [] (List.length ac1_ps) ac1_v ac1_nw) (Ex.eqQ n 1))
  | _ => noC
theorem actK_met (args : Array Value) : Sy.Meets Try.prog (actK args) := by
  unfold actK
  split
  · exact brec_met _ (brec_met _ (brec_met _ (brec_met _ (brec_met _ (brec_met _ (brec_met _ (brec_met _ (brec_met _ (brec_met _ (noC_met) ac10_met) ac9_met) ac8_met) ac7_met) ac6_met) ac5_met) ac4_met) ac3_met) ac2_met) ac1_met
  · exact noC_met

noncomputable def ctxT (m : Int) : Sy.Ctx := Sy.mkS [(fContains, fun a _ => conK m a), (fShapes, fun _ _ => Sy.graphC fShapes #[] [] (List.length sh_ps) sh_v sh_nw), (fAct, fun a _ => actK a)] [] []
theorem ctxT_holds (m : Int) : (ctxT m).holds Try.prog := Sy.mkS_holds (fun p hp a L => by
  simp only [List.mem_cons, List.not_mem_nil, or_false] at hp
  rcases hp with rfl | rfl | rfl
  · exact conK_met m a
  · exact sh_met
  · exact actK_met a) (fun _ h => (by cases h)) (fun _ h => (by cases h))

def nlets : List Let := (List.range 400).map fun i => ⟨500 + i, 0, false, undef, []⟩
noncomputable def fstV (v : Value) : Value := match v with
  | .tuple vs => vs.toList.headD undef
  | v => v
noncomputable def rdB (m : Int) (l : List (Nat × Sy.Cont)) : List Blk := Sy.blks ⟨maxB m :: l, [], 0⟩

end Go.Proofs.Ytbgmkefehfjicaa
