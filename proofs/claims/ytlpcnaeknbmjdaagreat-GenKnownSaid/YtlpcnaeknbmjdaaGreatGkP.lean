/-
  GenKnown: in whatever memory, on every schedule, the call returns true. No conditions.
-/
import Derived.Test.YtlpcnaeknbmjdaaGreatRows
import Derived.Test.YtlpcnaeknbmjdaaGreatGkZ
import Derived.Test.YtlpcnaeknbmjdaaGreatPost
import Derived.ProofKit
import Derived.OpenShut
namespace Go.Proofs.YtlpcnaeknbmjdaaGreat.genKnown
open Go.ChangeShapes Go.WideShapes Go.ChangeAt Go.RowKit

theorem known_any (W : World) : Calls Tryz.prog 7 #[] W fun e w' => e = .returned (.bool true) ∧ Below W.heap.size W w' := by
  refine (kn_met trivial W ⟨fun p hp => (by cases hp), fun p hp => (by cases hp), List.nodup_nil, fun p hp => (by cases hp)⟩).mono ?_
  rintro e W' ⟨o, ho, ns, rfl, hpost⟩
  rcases List.mem_singleton.1 ho with rfl
  exact ⟨rfl, hpost.os, hpost.tape, hpost.output, hpost.size, fun k hk => hpost.old k hk fun p hp => (by cases hp)⟩

theorem own : ownKnob Tryz.prog.godebug = none := by kernel_rfl

set_option maxRecDepth 100000 in
theorem lifted (os : Os) (started : os.Started) (H : Type) (enc : TypeId × Value → H) :
    ReturnsInHanded {} Tryz.checked os 7 .any (Rows.genKnownSpec.pre6 enc Tryz.prog Tryz.f7 Rows.genKnownRow.domain false) (Rows.genKnownSpec.post enc Tryz.prog Tryz.f7 false true false false) := by
  refine returnsInHanded_of_change (C := Tryz.checked) own started (by kernel_rfl) Tryz.func7
    (ChangeSpec.witness6 (enc := enc) (C := Tryz.checked) false ⟨#[], #[], []⟩ 8 (by kernel_rfl) (by kernel_rfl) (by kernel_rfl) (by kernel_rfl)) ?_
  intro W base args ds gs before hval0 hW _ _
  have hval : ∀ (j : Nat) t v, Tryz.f7.params[j]? = some t → args[j]? = some v → Value.okWide Tryz.prog W .any base t v := hval0
  have hW' := hW
  obtain ⟨p, q, hA0, hV, rfl, hfz, hnd⟩ := hW
  have hA : DataW.TrodAll enc Tryz.prog W 0 (fun _ => true) true Tryz.f7.params.toList args.toList ds p := hA0
  rw [Tryz.params7] at hA hval
  obtain ⟨rfl, rfl, rfl⟩ := trodAll_none hA
  obtain ⟨rfl, rfl⟩ := trodVars_none hV
  clear hA0 hval0
  simp only [List.append_nil] at hW'
  refine (known_any W).mono fun e W' ⟨he, hg⟩ => ?_
  subst he
  exact ⟨_, rfl, post_of_below (pa := []) (pv := []) hW' (fun _ _ _ => (trodAll_cons_mk (shut_bool Tryz.underlying4 _) trodAll_mk0)) (fun sp _ => rfl) (fun _ _ => rfl) rfl
    hg (ok_one (by kernel_rfl) rfl (okWide_bool_mk Tryz.underlying4 _))⟩

theorem over : Rows.genKnownRow.holds Tryz.pinned (OpenSpec.ofChange Rows.genKnownSpec) :=
  OpenClaim.holds_of_wide 7 Tryz.f7 rfl rfl rfl rfl rfl rfl rfl ⟨rfl, rfl, rfl, rfl, rfl⟩ rfl rfl rfl rfl rfl (by kernel_rfl) Tryz.func7 (by kernel_rfl)
    (of_decide_eq_true (by kernel_rfl)) (by unfold Func.isWrapper; first | (rw [if_pos (by decide +kernel)]; kernel_rfl) | (rw [if_neg (by decide +kernel)]; exact ⟨rfl, rfl⟩))
    (fun os started H enc _ => lifted os started H enc)

/-- The statement. -/
theorem proved : Rows.GenKnownSaid := over
#print axioms proved
end Go.Proofs.YtlpcnaeknbmjdaaGreat.genKnown
