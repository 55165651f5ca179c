/-
  LowerTells: in whatever memory, on every schedule, the call returns true. No conditions.
-/
import Derived.Test.YtgaejhhipnpopaaRows
import Derived.Test.YtgaejhhipnpopaaLwG
import Derived.Test.YtgaejhhipnpopaaLwH
import Derived.ProofKit
import Derived.OpenShut
namespace Go.Proofs.Ytgaejhhipnpopaa.lowerTells
open Go.ChangeShapes Go.WideShapes Go.ChangeAt Go.RowKit

theorem tells_none (A : Option Addr) (c : Nat) (k : Int) (W : World) : Calls Try.prog fTells #[.slice A 0 c, .int .i64 k] W fun e W' => e = .returned (.bool true) ∧ Below W.heap.size W W' := by
  match A with
  | none =>
    refine Sy.calls_of ctxG0_holds mixed (telN_run c k) (Sy.rep_start W) fun ns => ?_
    simp only [telN_R, Sy.Res.holds]
    simp only [true_and, forall_const]
    exact fun W' hr => hr.below
  | some ⟨b, o, sp⟩ =>
    refine Sy.calls_of ctxG0_holds mixed (telS_run b o sp c k) (Sy.rep_start W) fun ns => ?_
    simp only [telS_R, Sy.Res.holds]
    simp only [true_and, forall_const]
    exact fun W' hr => hr.below

set_option maxRecDepth 100000 in
theorem lifted (os : Os) (started : os.Started) (H : Type) (enc : TypeId × Value → H) :
    ReturnsInHanded {} Try.checked os 5 .any (Rows.lowerTellsSpec.pre6 enc Try.prog Try.f5 Rows.lowerTellsRow.domain false) (Rows.lowerTellsSpec.post enc Try.prog Try.f5 false true false false) := by
  refine returnsInHanded_of_change_sized (C := Try.checked) own started (by kernel_rfl) Try.func5
    (ChangeSpec.witness6 (enc := enc) (C := Try.checked) false ⟨#[], #[.slice none 0 0, .int .i64 0], []⟩ 8 (by kernel_rfl) (by kernel_rfl) (by kernel_rfl) (by kernel_rfl)) ?_
  intro W base args ds gs before hval0 hW _ hsz0 _
  have hval : ∀ (j : Nat) t v, Try.f5.params[j]? = some t → args[j]? = some v → Value.okWide Try.prog W .any base t v := hval0
  have hW' := hW
  obtain ⟨p, q, hA0, hV, rfl, hfz, hnd⟩ := hW
  have hA : DataW.TrodAll enc Try.prog W 0 (fun _ => true) true Try.f5.params.toList args.toList ds p := hA0
  have hsz : (DataW.weightsEach Try.prog (Try.f5.params.toList ++ Rows.lowerTellsSpec.plain.varTypes Try.prog) (ds ++ gs)).all (· ≤ reachBytes) = true := hsz0
  rw [Try.params5] at hA hval hsz
  obtain ⟨v, v2, d, d2, p1, p2, rfl, rfl, rfl, h0, h1⟩ := trodAll_two hA
  obtain ⟨rfl, rfl⟩ := trodVars_none hV
  clear hA0 hval0
  obtain ⟨k, rfl, rfl, rfl, w1⟩ := open_int Try.underlying3 (hval 1 3 v2 rfl rfl) h1
  simp only [List.append_nil] at hW'
  have hlt : ∀ x ∈ p1, x.block < W.heap.size := fun x hx => hW'.lt x hx
  have key : Calls Try.prog 5 #[v, .int .i64 k] W fun e W' => e = .returned (.bool true) ∧ Below W.heap.size W W' := by
    rcases open_nodes (hval 0 35 v rfl rfl) h0 with ⟨A, c, rfl⟩ | ⟨b, o, c, l, hpos, rfl, hfit, hs, hn, D, E, rfl, hD⟩
    · exact tells_none A c k W
    · have hb := sized_slice hsz (j := 0) (t := 35) (e := 33) rfl rfl Try.underlying35
      rw [bytesN, hD] at hb
      simp only [reachBytes] at hb
      exact tells_any b o c l k ⟨⟨hpos, by omega⟩, hfit⟩ W hs
  refine key.mono fun e W' ⟨he, hg⟩ => ?_
  subst he
  exact ⟨_, rfl, post_of_below (pa := p1) (pv := []) hW' (fun _ _ _ => (trodAll_cons_mk (shut_bool Try.underlying4 _) trodAll_mk0)) (fun sp hsp => ⟨p1, [], again_any (by kernel_rfl) (of_decide_eq_true (by kernel_rfl)) h0 hg hlt hsp, trodAll_cons_mk (shut_int Try.underlying3 w1) trodAll_mk0, (List.append_nil _).symm⟩) (fun _ _ => rfl) (List.append_nil _).symm
    hg (ok_one (by kernel_rfl) rfl (okWide_bool_mk Try.underlying4 _))⟩

theorem over : Rows.lowerTellsRow.holds Try.pinned (OpenSpec.ofChange Rows.lowerTellsSpec) :=
  OpenClaim.holds_of_wide 5 Try.f5 rfl rfl rfl rfl rfl rfl rfl ⟨rfl, rfl, rfl, rfl, rfl⟩ rfl rfl rfl rfl rfl (by kernel_rfl) Try.func5 (by kernel_rfl)
    (of_decide_eq_true (by kernel_rfl)) (by unfold Func.isWrapper; first | (rw [if_pos (by decide +kernel)]; kernel_rfl) | (rw [if_neg (by decide +kernel)]; exact ⟨rfl, rfl⟩))
    (fun os started H enc _ => lifted os started H enc)

/-- The statement. -/
theorem proved : Rows.LowerTellsSaid := over
#print axioms proved
end Go.Proofs.Ytgaejhhipnpopaa.lowerTells
