/-
  CheckLimits: what the program tells of a long text.
-/
import Derived.Test.YtbgmkefehfjicaaCl3b
namespace Go.Proofs.Ytbgmkefehfjicaa
set_option linter.unusedVariables false
set_option linter.unusedSimpArgs false
open Go Go.RowKit
open Sy (Let Blk)

noncomputable def eqN3 (l : List Nat) : List Nat → Bool := @List.rec Nat (fun _ => List Nat → Bool) (fun t => @List.rec Nat (fun _ => Bool) true (fun _ _ _ => false) t) (fun x _ ih t => @List.rec Nat (fun _ => Bool) false (fun y r _ => @Bool.rec (fun _ => Bool) false (ih r) (Nat.beq x y)) t) l
noncomputable def plK3 (args : Array Value) (ct : Sy.Cont) : Sy.CallC := match args.toList with
  | [.slice (some ⟨g, 0, none⟩) n cap] => match unbytes (segOf ct) with
    | some bs => @Bool.rec (fun _ => Sy.CallC) noC (Sy.graphC fParse3 (paA3 g (Nat.sub cap n)) [(g, .seg 0 (bcells tb3))] (List.length pl3_ps) pl3_v pl3_nw) (eqN3 bs tb3)
    | none => noC
  | _ => noC
theorem plK3_met (args : Array Value) (ct : Sy.Cont) : Sy.Meets Try.prog (plK3 args ct) := by
  unfold plK3
  split
  · split
    · exact brec_met _ noC_met (pl3_met _ _)
    · exact noC_met
  · exact noC_met
noncomputable def ckK3 (m : Int) (L : List Blk) : Sy.CallC := match Sy.letsOf ((L.drop 2).take (List.length pl3_ps)) with
  | l => Sy.graphC fCheck3 #[tree3 l] (maxB m :: pl3_nw l) (List.length cl3_ps) cl3_v cl3_nw
noncomputable def ctxO3 (m : Int) : Sy.Ctx := Sy.mkS [(fCheck3, fun _ L => ckK3 m L)] [] []
theorem ctxO3_holds (m : Int) : (ctxO3 m).holds Try.prog := Sy.mkS_holds (fun p hp a L => by
  rcases List.mem_singleton.1 hp with rfl
  exact cl3_met m _) (fun _ h => (by cases h)) (fun _ h => (by cases h))
noncomputable def hO3 : Sy.How := ⟨fun _ => false, fun _ => false, [⟨fParse3, 0, plK3⟩]⟩
theorem hO3_holds : hO3.holds Try.prog := ⟨fun x hx a ct => by
  rcases List.mem_singleton.1 hx with rfl
  exact plK3_met a ct⟩

set_option maxRecDepth 1000000 in
noncomputable def ol3_o : Sy.O := (Sy.O.pack 12 0x200000100000 (Sy.O.steps [33] (Sy.O.pack 29 0x10842108421084210842108421084210842 (Sy.O.steps [33] (Sy.O.steps [0, 0] (Sy.O.steps [32] (Sy.O.steps [0] (Sy.O.steps [33] (Sy.O.steps [0] (Sy.O.steps [32] (Sy.O.steps [0] Sy.O.nil)))))))))))
def ol3_ps : List Nat := []
noncomputable def ol3_v (ns : List Sy.Let) : Value := Value.tuple
 (Array.mk
 [Value.agg (Array.mk [Value.int IntKind.i64 (0 : Int), Value.slice none (0 : Nat) (0 : Nat)]),
 Value.agg
 (Array.mk
 [Value.int IntKind.i64 (29 : Int), Value.int IntKind.i64 (1 : Int), Value.int IntKind.i64 (298 : Int)])])
noncomputable def ol3_nw (ns : List Sy.Let) : List (Nat × Sy.Cont) := []
set_option maxRecDepth 1000000 in
theorem ol3_met (m : Int) : Sy.Meets Try.prog (Sy.graphC fOf #[.string tl3] [maxB m] (List.length ol3_ps) ol3_v ol3_nw) :=
  Sy.meets_graphJ (ctxO3_holds m) hO3_holds mixed (n := 300) ol3_ps (by decide) (o := ol3_o) (fun ns => by kernel_rfl) (fun ns => by kernel_rfl)

end Go.Proofs.Ytbgmkefehfjicaa
