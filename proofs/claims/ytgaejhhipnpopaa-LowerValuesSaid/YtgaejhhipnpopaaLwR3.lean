/-
  Run: the call.
-/
import Derived.Test.YtgaejhhipnpopaaLwR2
namespace Go.Proofs.Ytgaejhhipnpopaa
set_option linter.unusedVariables false
set_option linter.unusedSimpArgs false
open Go Go.RowKit
open Sy (Let Blk)

def zerosR : List Int := [0, 0, 0, 0, 0, 0, 0, 0, 0, 0, 0, 0, 0, 0, 0, 0, 0, 0, 0, 0, 0, 0, 0, 0, 0, 0, 0, 0, 0, 0, 0, 0, 0, 0]

def runC (gl ol cl : Nat) (l : List I) (xs s' : List Int) : Sy.CallC :=
  ⟨fRun, #[.agg (regA xs), .slice (some ⟨gl, ol, none⟩) l.length cl], xs.length = 34 ∧ s'.length = 34 ∧ l.length ≤ 1000000000 ∧ runL xs l = some s', ⟨[(gl, .seg ol (insCells l))], [], 0⟩, [Sy.plainO (.tuple #[.agg (regA s'), .bool true])]⟩
noncomputable def ctxR3 (gl ol cl : Nat) (l : List I) (xs s' : List Int) : Sy.Ctx := Sy.mkS [] [(fRun, fun a _ => loopR gl ol cl (Sy.ptrN (a.get 2)) (Sy.ptrN (a.get 4)) l xs zerosR s')] []
def runT_o : Sy.O := (Sy.O.steps [0, 2, 1, 0, 0, 1, 0, 0, 1, 1, 1, 1, 0] Sy.O.nil)
noncomputable def runT_R (gl : Nat) (ol : Nat) (cl : Nat) (l : List I) (xs : List Int) (s' : List Int) (ns : Nat → Sy.Let) : Sy.Res (Value × List Blk) := Sy.Res.need (List.length xs = (34 : Nat) ∧ List.length l ≤ (1000000000 : Nat) ∧ runL xs l = some s')
 (Sy.Res.hyp True
 (Sy.Res.need (Array.size (regA s') = (34 : Nat))
 (Sy.Res.need
 ((34 : Nat) = Array.size (Array.mk (regC s')) ∧
 (34 : Nat) = Array.size (Array.mk (regC s')) ∧
 (Array.all (Array.mk (regC s')) fun (x : Value) => Value.oneCell' x) = true)
 (Sy.Res.need (Array.size (Array.mk (regC s')) = (34 : Nat))
 (Sy.Res.leaf (Value.tuple (Array.mk [Value.agg (Array.mk (regC s')), Value.bool true]), []))))))
theorem runT_run (gl ol cl : Nat) (l : List I) (xs s' : List Int) : Sy.Ran (Sy.inT Try.prog (ctxR3 gl ol cl l xs s') 80 fRun (runC gl ol cl l xs s').args (Sy.blks (runC gl ol cl l xs s').mem) Sy.noB) runT_o (runT_R gl ol cl l xs s') := ⟨fun ns => by kernel_rfl, fun ns => by kernel_rfl⟩

theorem ctxR3_holds (gl ol cl : Nat) (l : List I) (xs s' : List Int) : (ctxR3 gl ol cl l xs s').holds Try.prog := Sy.mkS_holds (fun _ h => (by cases h)) (fun p hp a L => by
  rcases List.mem_singleton.1 hp with rfl
  exact loopR_met _ _ _ _ _ _ _ _ _) (fun _ h => (by cases h))

theorem runC_met (gl ol cl : Nat) (l : List I) (xs s' : List Int) : Sy.Meets Try.prog (runC gl ol cl l xs s') := by
  refine Sy.meets_of (ctxR3_holds gl ol cl l xs s') mixed (runT_run gl ol cl l xs s') fun hok ns => ?_
  obtain ⟨h1, h2, h3, h4⟩ := hok
  simp only [runT_R, Sy.Res.holds]
  have sz : (Array.mk (regC s')).size = 34 := (regA_size s').trans h2
  exact ⟨⟨h1, h3, h4⟩, fun _ => ⟨sz, ⟨sz.symm, sz.symm, regA_one s'⟩, sz, Sy.plainO_leaf (List.mem_singleton_self _) rfl rfl⟩⟩

end Go.Proofs.Ytgaejhhipnpopaa
