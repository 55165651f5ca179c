/-
  CheckLimits: in whatever memory, on every schedule, the call returns true. No conditions.
-/
import Derived.Test.YtbgmkefehfjicaaRows
import Derived.Test.YtbgmkefehfjicaaClZ
import Derived.Test.YtbgmkefehfjicaaPost
import Derived.Test.YtbgmkefehfjicaaSyH
import Derived.ProofKit
import Derived.OpenShut
import Derived.HandedShaped
namespace Go.Proofs.Ytbgmkefehfjicaa.checkLimits
open Go.ChangeShapes Go.WideShapes Go.ChangeAt Go.RowKit

theorem limits_any (W : World) (m : Int) (hm : W.cell? ⟨0, 0, none⟩ = some (.int .i64 m)) : Calls Try.prog 5 #[] W fun e w' => e = .returned (.bool true) ∧ Below W.heap.size W w' := by
  refine (li_met m trivial W ⟨fun p hp => ?_, fun p hp => (by cases hp), List.nodup_nil, fun p _ q hq => (by cases hq)⟩).mono ?_
  · rcases List.mem_singleton.1 hp with rfl
    exact (seg_of (w := W) (a := ⟨0, 0, none⟩) (xs := [.int .i64 m]) (by simp) (fun j u hu => by
      cases j with
      | zero =>
        simp only [List.getElem?_cons_zero, Option.some.injEq] at hu
        subst hu
        exact hm
      | succ j => simp at hu)).2
  · rintro e W' ⟨o, ho, ns, rfl, hpost⟩
    rcases List.mem_singleton.1 ho with rfl
    exact ⟨rfl, hpost.os, hpost.tape, hpost.output, hpost.size, fun k hk => hpost.old k hk fun p hp => (by cases hp)⟩

theorem own : ownKnob Try.prog.godebug = none := by kernel_rfl

set_option maxRecDepth 100000 in
theorem lifted (os : Os) (started : os.Started) (H : Type) (enc : TypeId × Value → H) :
    ReturnsInHanded {} Try.checked os 5 .any (Rows.checkLimitsSpec.pre6 enc Try.prog Try.f5 Rows.checkLimitsRow.domain false) (Rows.checkLimitsSpec.post enc Try.prog Try.f5 false true false false) := by
  refine returnsInHanded_of_change_shaped (C := Try.checked) own started (by kernel_rfl) Try.func5
    (ChangeSpec.witness6 (enc := enc) (C := Try.checked) false ⟨#[], #[], []⟩ 8 (by kernel_rfl) (by kernel_rfl) (by kernel_rfl) (by kernel_rfl)) ?_
  intro W base args ds gs before hval0 hW _ _ hsh _
  have hval : ∀ (j : Nat) t v, Try.f5.params[j]? = some t → args[j]? = some v → Value.okWide Try.prog W .any base t v := hval0
  have hW' := hW
  obtain ⟨p, q, hA0, hV, rfl, hfz, hnd⟩ := hW
  have hA : DataW.TrodAll enc Try.prog W 0 (fun _ => true) true Try.f5.params.toList args.toList ds p := hA0
  rw [Try.params5] at hA hval
  obtain ⟨rfl, rfl, rfl⟩ := trodAll_none hA
  obtain ⟨rfl, rfl⟩ := trodVars_none hV
  clear hA0 hval0
  simp only [List.append_nil] at hW'
  obtain ⟨m, hm⟩ := Try.laysM144.s1_3 W hsh
  refine (limits_any W m hm).mono fun e W' ⟨he, hg⟩ => ?_
  subst he
  exact ⟨_, rfl, post_of_below (pa := []) (pv := []) hW' (fun _ _ _ => (trodAll_cons_mk (shut_bool Try.underlying4 _) trodAll_mk0)) (fun sp _ => rfl) (fun _ _ => rfl) rfl
    hg (ok_one (by kernel_rfl) rfl (okWide_bool_mk Try.underlying4 _))⟩

theorem over : Rows.checkLimitsRow.holds Try.pinned (OpenSpec.ofChange Rows.checkLimitsSpec) :=
  OpenClaim.holds_of_wide 5 Try.f5 rfl rfl rfl rfl rfl rfl rfl ⟨rfl, rfl, rfl, rfl, rfl⟩ rfl rfl rfl rfl rfl (by kernel_rfl) Try.func5 (by kernel_rfl)
    (of_decide_eq_true (by kernel_rfl)) (by unfold Func.isWrapper; first | (rw [if_pos (by decide +kernel)]; kernel_rfl) | (rw [if_neg (by decide +kernel)]; exact ⟨rfl, rfl⟩))
    (fun os started H enc _ => lifted os started H enc)

/-- The statement. -/
theorem proved : Rows.CheckLimitsSaid := over
#print axioms proved
end Go.Proofs.Ytbgmkefehfjicaa.checkLimits
