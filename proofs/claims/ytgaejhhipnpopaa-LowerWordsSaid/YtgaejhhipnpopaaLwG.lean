/-
  LowerTells: the call.
-/
import Derived.Test.YtgaejhhipnpopaaLwF
namespace Go.Proofs.Ytgaejhhipnpopaa
set_option linter.unusedVariables false
set_option linter.unusedSimpArgs false
open Go Go.RowKit
open Sy (Let Blk)

def tellsArgs (g o c : Nat) (l : List Nd) (k : Int) : Array Value := #[.slice (some ⟨g, o, none⟩) l.length c, .int .i64 k]
noncomputable def ctxG (w : Way) (g o c : Nat) (l : List Nd) (k : Int) : Sy.Ctx := Sy.mkS [(fAwake, fun _ _ => awC)]
  [(fTells, fun a _ => loopF0 w g o c (Sy.ptrN (a.get 5)) (Sy.capN (a.get 5)) l k), (fTells, fun a _ => loopF2 g o c (Sy.ptrN (a.get 5)) (Sy.capN (a.get 5)) l)] []
def tel_o : Sy.O := (Sy.O.steps [0, 1, 1, 0, 1, 1, 1, 1, 0, 0, 1, 0, 1, 0, 0, 0] Sy.O.nil)
noncomputable def tel_R (w : Way) (g : Nat) (o : Nat) (c : Nat) (l : List Nd) (k : Int) (ns : Nat → Sy.Let) : Sy.Res (Value × List Blk) := Sy.Res.need
 (o = o ∧ List.length (ndCells l) = List.length l * (4 : Nat) ∧ ∀ (u : Value), u ∈ ndCells l → Value.oneCell' u = true)
 (Sy.Res.need ((1 : Nat) ≤ List.length l)
 (Sy.Res.need ((0 : Nat) + List.length l ≤ (9223372036854775807 : Nat))
 (Sy.Res.need (((0 : Nat) + List.length l) * (32 : Nat) ≤ (140737488355328 : Nat))
 (Sy.Res.hyp (Nat.le ((0 : Nat) + List.length l) (Let.n (ns (2 : Nat))))
 (Sy.Res.need
 (lenOk l ∧
 match w with
 | Way.bad => badX l k
 | Way.reg => regX l k
 | Way.ok => okX l k)
 (Sy.Res.hyp True
 (Sy.Res.need (Nat.le (List.length l) (4398046511104 : Nat))
 (Sy.Res.hyp True (Sy.Res.need True (Sy.Res.hyp True (Sy.Res.leaf (Value.bool true, []))))))))))))
theorem tel_run (w : Way) (g o c : Nat) (l : List Nd) (k : Int) : Sy.Ran (Sy.inT Try.prog (ctxG w g o c l k) 60 fTells (tellsArgs g o c l k) [⟨g, .seg o (ndCells l), false⟩] Sy.noB) tel_o (tel_R w g o c l k) := ⟨fun ns => by kernel_rfl, fun ns => by kernel_rfl⟩

theorem ctxG_holds (w : Way) (g o c : Nat) (l : List Nd) (k : Int) : (ctxG w g o c l k).holds Try.prog := Sy.mkS_holds (fun p hp a L => by
  rcases List.mem_singleton.1 hp with rfl
  exact awC_met) (fun p hp a L => by
  rcases List.mem_cons.1 hp with rfl | hp
  · exact loopF0_met _ _ _ _ _ _ _ _
  rcases List.mem_singleton.1 hp with rfl
  exact loopF2_met _ _ _ _ _ _) (fun _ h => (by cases h))

theorem ways (l : List Nd) (k : Int) : ∃ w, Sy.wayOk w l k := by
  by_cases h1 : badX l k
  · exact ⟨.bad, h1⟩
  · have hE : isExpr 24 l := Classical.byContradiction fun h => h1 (.inl h)
    have hk : 0 ≤ k ∧ k < 5 := ⟨Int.not_lt.1 fun h => h1 (.inr (.inl h)), Int.not_le.1 fun h => h1 (.inr (.inr h))⟩
    by_cases h2 : 5 < k + (tr l (l.length - 1)).needs
    · exact ⟨.reg, hE, hk.1, hk.2, h2⟩
    · exact ⟨.ok, hE, hk.1, Int.not_lt.1 h2⟩

theorem tells_any (g o c : Nat) (l : List Nd) (k : Int) (hl : lenOk l) (W : World) (hs : (Sy.Cont.seg o (ndCells l)).sat W.heap[g]?) : Calls Try.prog fTells (tellsArgs g o c l k) W fun e W' => e = .returned (.bool true) ∧ Below W.heap.size W W' := by
  obtain ⟨w, hw⟩ := ways l k
  have hr : Sy.Rep W (fun _ => True) [⟨g, .seg o (ndCells l), false⟩] W := ⟨rfl, rfl, rfl, Nat.le_refl _, fun _ _ _ => rfl, fun p hp => by
    rcases List.mem_singleton.1 hp with rfl
    exact ⟨hs, fun h => by cases h⟩, List.pairwise_singleton _ _⟩
  refine Sy.calls_of (ctxG_holds w g o c l k) mixed (tel_run w g o c l k) hr fun ns => ?_
  simp only [tel_R, Sy.Res.holds]
  have h1 := hl.1.2
  have h0 := hl.1.1
  refine ⟨⟨trivial, ndC_len l, ndC_one l⟩, by omega, by omega, by omega, fun _ => ⟨⟨hl, hw⟩, fun _ => ⟨h1, fun _ => ⟨trivial, fun _ => fun W' hr => ⟨trivial, hr.below⟩⟩⟩⟩⟩

/-! Of no nodes. -/
def Sy.addrV (v : Value) : Option Addr := match v with
  | .slice a _ _ => a
  | _ => none
noncomputable def ctxG0 : Sy.Ctx := Sy.mkS [(fAwake, fun _ _ => awC), (fMay, fun a _ => mayC0 (Sy.addrV (Sy.argV a 0)) (Sy.capN (Sy.argV a 0))), (fRX, fun a _ => rxC0 (Sy.addrV (Sy.argV a 0)) (Sy.capN (Sy.argV a 0)) (Sy.argI a 1))] [] []
def telN_o : Sy.O := (Sy.O.steps [0, 0, 0, 0, 0, 0, 0, 0, 0, 0, 0, 0, 0, 0, 0, 0, 0, 0, 0, 0, 0, 0, 0, 0, 0, 0, 0, 0, 0, 0, 0, 0, 0, 0, 0, 0, 0, 0, 0, 0, 0, 0, 0, 0, 0, 0, 0, 0, 0, 0, 0, 0, 0, 0, 0, 0, 0, 0, 0, 0] (Sy.O.steps [0, 0, 0, 0, 0, 0, 0, 0, 0, 0, 0, 0, 0, 0, 0, 0, 0, 0, 0, 0, 0, 0, 0, 0, 0, 0, 0, 0, 0, 0, 0, 0, 0, 0, 0, 0, 0, 0] Sy.O.nil))
noncomputable def telN_R (c : Nat) (k : Int) (ns : Nat → Sy.Let) : Sy.Res (Value × List Blk) := Sy.Res.hyp True
 (Sy.Res.need True
 (Sy.Res.hyp True
 (Sy.Res.need True
 (Sy.Res.hyp True
 (Sy.Res.need True
 (Sy.Res.hyp True
 (Sy.Res.need True
 (Sy.Res.hyp True
 (Sy.Res.need True
 (Sy.Res.hyp True
 (Sy.Res.need True
 (Sy.Res.hyp True
 (Sy.Res.need True
 (Sy.Res.hyp True
 (Sy.Res.need True
 (Sy.Res.hyp True
 (Sy.Res.need True
 (Sy.Res.hyp True (Sy.Res.leaf (Value.bool true, []))))))))))))))))))))
theorem telN_run (c : Nat) (k : Int) : Sy.Ran (Sy.inT Try.prog ctxG0 60 fTells #[.slice none 0 c, .int .i64 k] [] Sy.noB) telN_o (telN_R c k) := ⟨fun ns => by kernel_rfl, fun ns => by kernel_rfl⟩
def telS_o : Sy.O := (Sy.O.steps [1, 0, 0, 0, 0, 0, 0, 0, 0, 0, 0, 0, 0, 0, 0, 0, 0, 0, 0, 0, 0, 0, 0, 0, 0, 0, 0, 0, 0, 0, 0, 0, 0, 0, 0, 0, 0, 0, 0, 0, 0, 0, 0, 0, 0, 0, 0, 0, 0, 0, 0, 0, 0, 0, 0, 0, 0, 0, 0, 0] (Sy.O.steps [0, 0, 0, 0, 0, 0, 0, 0, 0, 0, 0, 0, 0, 0, 0, 0, 0, 0, 0, 0, 0, 0, 0, 0, 0, 0, 0, 0, 0, 0, 0, 0, 0, 0, 0, 0] Sy.O.nil))
noncomputable def telS_R (b : Nat) (o : Nat) (sp : Option Nat) (c : Nat) (k : Int) (ns : Nat → Sy.Let) : Sy.Res (Value × List Blk) := Sy.Res.need True
 (Sy.Res.hyp True
 (Sy.Res.need True
 (Sy.Res.hyp True
 (Sy.Res.need True
 (Sy.Res.hyp True
 (Sy.Res.need True
 (Sy.Res.hyp True
 (Sy.Res.need True
 (Sy.Res.hyp True
 (Sy.Res.need True
 (Sy.Res.hyp True
 (Sy.Res.need True
 (Sy.Res.hyp True
 (Sy.Res.need True
 (Sy.Res.hyp True
 (Sy.Res.need True (Sy.Res.hyp True (Sy.Res.leaf (Value.bool true, [])))))))))))))))))))
theorem telS_run (b o : Nat) (sp : Option Nat) (c : Nat) (k : Int) : Sy.Ran (Sy.inT Try.prog ctxG0 60 fTells #[.slice (some ⟨b, o, sp⟩) 0 c, .int .i64 k] [] Sy.noB) telS_o (telS_R b o sp c k) := ⟨fun ns => by kernel_rfl, fun ns => by kernel_rfl⟩

theorem ctxG0_holds : ctxG0.holds Try.prog := Sy.mkS_holds (fun p hp a L => by
  rcases List.mem_cons.1 hp with rfl | hp
  · exact awC_met
  rcases List.mem_cons.1 hp with rfl | hp
  · exact mayC0_met _ _
  rcases List.mem_singleton.1 hp with rfl
  exact rxC0_met _ _ _) (fun _ h => (by cases h)) (fun _ h => (by cases h))

end Go.Proofs.Ytgaejhhipnpopaa
