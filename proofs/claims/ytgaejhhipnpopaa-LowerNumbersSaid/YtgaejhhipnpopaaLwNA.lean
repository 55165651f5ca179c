/-
  LowerNumbers: the call.
-/
import Derived.Test.YtgaejhhipnpopaaLwNum
namespace Go.Proofs.Ytgaejhhipnpopaa
open Go Go.RowKit
open Sy (Let Blk)

theorem rnum_any (r v : Int) : Sy.Meets Try.prog (rnum0 r v) := rnum0_met r v

theorem ctxN_holds (r v : Int) : (ctxN r v).holds Try.prog := Sy.mkS_holds (fun p hp a L => by
  rcases List.mem_cons.1 hp with rfl | hp
  · exact numC_met _ _
  rcases List.mem_cons.1 hp with rfl | hp
  · exact runC_met _ _ _ _ _ _
  rcases List.mem_cons.1 hp with rfl | hp
  · exact sameC_met _ _ _ _ _ _
  rcases List.mem_cons.1 hp with rfl | hp
  · exact rnum0_met _ _
  rcases List.mem_singleton.1 hp with rfl
  exact awC_met) (fun _ h => (by cases h)) (fun _ h => (by cases h))

theorem nums_any (r v : Int) (hv : goodU v) (W : World) : Calls Try.prog fNums #[.int .i64 r, .int .u64 v] W fun e W' => e = .returned (.bool true) ∧ Below W.heap.size W W' := by
  refine Sy.calls_of (ctxN_holds r v) mixed (nums_run r v) (Sy.rep_start W) fun ns => ?_
  have fin : ∀ W', Sy.Rep W (fun _ => True) [] W' → True ∧ Below W.heap.size W W' := fun W' hr => ⟨trivial, hr.below⟩
  simp only [nums_R, Sy.Res.holds, lt_t, lt_f, eq_t, eq_f]
  refine ⟨fun h => ⟨fun _ => ⟨trivial, fun _ => fin⟩, fun h' => absurd h h'⟩, fun h => ⟨fun h1 => ⟨fun h' => absurd h' h, fun _ => ⟨fun _ => ⟨trivial, fun _ => fin⟩, fun h' => absurd h1 h'⟩⟩, fun h1 => ⟨hv, fun _ => ⟨fun h' => absurd h' h, fun _ => ⟨fun h' => absurd h' h1, fun _ => ?_⟩⟩⟩⟩⟩
  have hr0 : 0 ≤ r := by omega
  have hr1 : r ≤ 30 := by omega
  obtain ⟨e, hl, hg⟩ := leftR_holds hr0 hr1 hv
  have hn : (numL r v).length ≤ 1000000000 := Nat.le_trans (numL_length r v) (by decide)
  have sz : (Array.mk (regC (leftR r v))).size = 34 := (regA_size _).trans hl
  have at' : (Sy.Cont.obj (Obj.cells (Array.mk (regC (leftR r v))) tR (0, 0))).at (0 + Int.toNat r * 1) = some (.int .u64 v) := by
    rw [Nat.zero_add, Nat.mul_one]
    have := reg_at (xs := leftR r v) (j := r.toNat) (by omega) tR (0, 0)
    rw [hg] at this
    exact this
  refine ⟨⟨trivial, hl, hn, e⟩, fun _ => ⟨⟨sz.symm, sz.symm, regA_one _⟩, hv, fun _ => ⟨hn, fun _ => ⟨fun _ => ⟨by omega, ⟨v, at'⟩, fun hx => ?_⟩, fun h' => ?_⟩⟩⟩⟩
  · have hx' : v = (ns 5).i := by
      have := at'.symm.trans hx
      simpa using this
    exact ⟨fun _ => ⟨trivial, fun _ => fin⟩, fun hne => absurd hx'.symm hne⟩
  · simp at h'

end Go.Proofs.Ytgaejhhipnpopaa
