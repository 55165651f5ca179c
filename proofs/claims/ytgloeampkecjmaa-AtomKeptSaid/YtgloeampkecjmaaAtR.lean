/-
  AtomKept: the rest of n by 16, by contract.
-/
import Derived.Test.YtgloeampkecjmaaAtW
namespace Go.Proofs.Ytgloeampkecjmaa
open Go Go.RowKit

abbrev fKept : FuncId := 3
def OkR (v : Value) (k : Int) : Prop := ∃ n : Int, v = .int .i64 n ∧ n.tmod 16 = k ∧ -15 ≤ k ∧ k ≤ 15
noncomputable def remS (v : Value) : Sem Next := Sy.opV (do eqGuard .rem 3 (.tmp 24) (.const (.int .i64 16)) v (.int .i64 16); binOp .rem 3 v (.int .i64 16))
noncomputable def remK (k : Int) (a : Sy.F) (_ : List Sy.Blk) : Sy.OpK := ⟨remS (a.get 24), OkR (a.get 24) k, ⟨⟨[], [], 0⟩, [(⟨fun _ => True, fun _ => []⟩, fun _ => some (.int .i64 k))]⟩⟩

theorem remK_meets (k : Int) (a : Sy.F) (L : List Sy.Blk) : (remK k a L).meets Try.prog := by
  rintro ⟨n, hv, hk, h1, h2⟩ W _
  refine ⟨_, List.mem_singleton_self _, [], W, ?_, rfl, trivial, rfl, rfl, rfl, Nat.le_refl _, fun _ _ _ => rfl, fun p hp => (by cases hp), List.nodup_nil⟩
  show (remS (a.get 24)).run Try.prog W = .ok (.value (.int .i64 k)) W
  rw [hv]
  refine Sy.opV_run ?_
  have hw : IntKind.i64.wrap k = k := by
    simp [IntKind.wrap, IntKind.signed, IntKind.bits]
    omega
  simp [eqGuard, binOp, Op.intDiv, hk, hw]

noncomputable def ctxR (k : Int) : Sy.Ctx := Sy.mkS [(fAwake, fun _ _ => awC)] [] [(fKept, 25, fun a L => remK k a L)]
theorem ctxR_holds (k : Int) : (ctxR k).holds Try.prog := Sy.mkS_holds (fun p hp a L => by
  rcases List.mem_singleton.1 hp with rfl
  exact awC_met) (fun _ h => (by cases h)) (fun p hp a L => by
  rcases List.mem_singleton.1 hp with rfl
  exact remK_meets k a L)

end Go.Proofs.Ytgloeampkecjmaa
