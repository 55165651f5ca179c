/-
  CodeKept: in whatever memory, on every schedule, the call returns true. No conditions.
-/
import Derived.Test.YtjcebkkmpgafkaaRows
import Derived.Test.YtjcebkkmpgafkaaKeptC
import Derived.Test.YtjcebkkmpgafkaaFrameS
import Derived.ProofKit
import Derived.OpenShut
namespace Go.Proofs.Ytjcebkkmpgafkaa.codeKept
open Go.ChangeShapes Go.WideShapes Go.ChangeAt Go.RowKit

theorem own : ownKnob Try.prog.godebug = none := by kernel_rfl

set_option maxRecDepth 100000 in
theorem lifted (os : Os) (started : os.Started) (H : Type) (enc : TypeId × Value → H) :
    ReturnsInHanded {} Try.checked os 13 .any (Rows.codeKeptSpec.pre6 enc Try.prog Try.f13 Rows.codeKeptRow.domain false) (Rows.codeKeptSpec.post enc Try.prog Try.f13 false true false false) := by
  refine returnsInHanded_of_change (C := Try.checked) own started (by kernel_rfl) Try.func13
    (ChangeSpec.witness6 (enc := enc) (C := Try.checked) false ⟨#[], #[.slice none 0 0], []⟩ 8 (by kernel_rfl) (by kernel_rfl) (by kernel_rfl) (by kernel_rfl)) ?_
  intro W base args ds gs before hval0 hW _ _
  have hval : ∀ (j : Nat) t v, Try.f13.params[j]? = some t → args[j]? = some v → Value.okWide Try.prog W .any base t v := hval0
  have hW' := hW
  obtain ⟨p, q, hA0, hV, rfl, hfz, hnd⟩ := hW
  have hA : DataW.TrodAll enc Try.prog W 0 (fun _ => true) true Try.f13.params.toList args.toList ds p := hA0
  rw [Try.params13] at hA hval
  obtain ⟨v, d, rfl, rfl, h0⟩ := trodAll_one hA
  obtain ⟨rfl, rfl⟩ := trodVars_none hV
  clear hA0 hval0
  simp only [List.append_nil] at hW'
  have hlt : ∀ x ∈ p, x.block < W.heap.size := fun x hx => hW'.lt x hx
  have key : Calls Try.prog 13 #[v] W fun e W' => e = .returned (.bool true) ∧ Below W.heap.size W W' := by
    rcases open_inss (hval 0 50 v rfl rfl) h0 with ⟨A, c, rfl⟩ | ⟨b, o, c, l, hpos, rfl, hfit, hs, -⟩
    · exact keptZ_any A c W
    · exact kept_any b o c l hfit W hs
  refine key.mono fun e W' ⟨he, hg⟩ => ?_
  subst he
  exact ⟨_, rfl, post_of_below (pa := p) (pv := []) hW' (fun _ _ _ => (trodAll_cons_mk (shut_bool Try.underlying4 _) trodAll_mk0)) (fun sp hsp => ⟨p, [], again_any (by kernel_rfl) (of_decide_eq_true (by kernel_rfl)) h0 hg hlt hsp, trodAll_mk0, (List.append_nil _).symm⟩) (fun _ _ => rfl) (List.append_nil _).symm
    hg (ok_one (by kernel_rfl) rfl (okWide_bool_mk Try.underlying4 _))⟩

theorem over : Rows.codeKeptRow.holds Try.pinned (OpenSpec.ofChange Rows.codeKeptSpec) :=
  OpenClaim.holds_of_wide 13 Try.f13 rfl rfl rfl rfl rfl rfl rfl ⟨rfl, rfl, rfl, rfl, rfl⟩ rfl rfl rfl rfl rfl (by kernel_rfl) Try.func13 (by kernel_rfl)
    (of_decide_eq_true (by kernel_rfl)) (by unfold Func.isWrapper; first | (rw [if_pos (by decide +kernel)]; kernel_rfl) | (rw [if_neg (by decide +kernel)]; exact ⟨rfl, rfl⟩))
    (fun os started H enc _ => lifted os started H enc)

/-- The statement. -/
theorem proved : Rows.CodeKeptSaid := over
#print axioms proved
end Go.Proofs.Ytjcebkkmpgafkaa.codeKept
