/-
  LowerAddresses: in whatever memory, on every schedule, the call returns true. No conditions.
-/
import Derived.Test.YtgaejhhipnpopaaRows
import Derived.Test.YtgaejhhipnpopaaLwAs
import Derived.Test.YtgaejhhipnpopaaLwH
import Derived.ProofKit
import Derived.OpenShut
namespace Go.Proofs.Ytgaejhhipnpopaa.lowerAddresses
open Go.ChangeShapes Go.WideShapes Go.ChangeAt Go.RowKit

set_option maxRecDepth 100000 in
theorem lifted (os : Os) (started : os.Started) (H : Type) (enc : TypeId × Value → H) :
    ReturnsInHanded {} Try.checked os 6 .any (Rows.lowerAddressesSpec.pre6 enc Try.prog Try.f6 Rows.lowerAddressesRow.domain false) (Rows.lowerAddressesSpec.post enc Try.prog Try.f6 false true false false) := by
  refine returnsInHanded_of_change_sized (C := Try.checked) own started (by kernel_rfl) Try.func6
    (ChangeSpec.witness6 (enc := enc) (C := Try.checked) false ⟨#[], #[.int .i64 0, .int .i64 0, .slice none 0 0, .int .i64 0], []⟩ 8 (by kernel_rfl) (by kernel_rfl) (by kernel_rfl) (by kernel_rfl)) ?_
  intro W base args ds gs before hval0 hW _ hsz0 _
  have hval : ∀ (j : Nat) t v, Try.f6.params[j]? = some t → args[j]? = some v → Value.okWide Try.prog W .any base t v := hval0
  have hW' := hW
  obtain ⟨p, q, hA0, hV, rfl, hfz, hnd⟩ := hW
  have hA : DataW.TrodAll enc Try.prog W 0 (fun _ => true) true Try.f6.params.toList args.toList ds p := hA0
  have hsz : (DataW.weightsEach Try.prog (Try.f6.params.toList ++ Rows.lowerAddressesSpec.plain.varTypes Try.prog) (ds ++ gs)).all (· ≤ reachBytes) = true := hsz0
  rw [Try.params6] at hA hval hsz
  obtain ⟨v1, v2, v, v4, d1, d2, d, d4, q1, q2, p1, q4, rfl, rfl, rfl, h1, h2, h0, h4⟩ := trodAll_four hA
  obtain ⟨rfl, rfl⟩ := trodVars_none hV
  clear hA0 hval0
  obtain ⟨b, rfl, rfl, rfl, w1⟩ := open_int Try.underlying3 (hval 0 3 v1 rfl rfl) h1
  obtain ⟨s, rfl, rfl, rfl, w2⟩ := open_int Try.underlying3 (hval 1 3 v2 rfl rfl) h2
  obtain ⟨k, rfl, rfl, rfl, w4⟩ := open_int Try.underlying3 (hval 3 3 v4 rfl rfl) h4
  simp only [List.append_nil, List.nil_append] at hW'
  have hlt : ∀ x ∈ p1, x.block < W.heap.size := fun x hx => hW'.lt x hx
  have key : Calls Try.prog 6 #[.int .i64 b, .int .i64 s, v, .int .i64 k] W fun e W' => e = .returned (.bool true) ∧ Below W.heap.size W W' := by
    rcases open_nodes (hval 2 35 v rfl rfl) h0 with ⟨A, c, rfl⟩ | ⟨g, o, c, l, hpos, rfl, hfit, hs, hn, D, E, rfl, hD⟩
    · exact addrs_none A c b s k W
    · have hb := sized_slice hsz (j := 2) (t := 35) (e := 33) rfl rfl Try.underlying35
      rw [bytesN, hD] at hb
      simp only [reachBytes] at hb
      exact addrs_any g o c l b s k ⟨⟨hpos, by omega⟩, hfit⟩ W hs
  refine key.mono fun e W' ⟨he, hg⟩ => ?_
  subst he
  exact ⟨_, rfl, post_of_below (pa := p1) (pv := []) hW' (fun _ _ _ => (trodAll_cons_mk (shut_bool Try.underlying4 _) trodAll_mk0)) (fun sp hsp => ⟨[], _, shut_int Try.underlying3 w1, trodAll_cons_mk (shut_int Try.underlying3 w2) (trodAll_cons_mk (again_any (by kernel_rfl) (of_decide_eq_true (by kernel_rfl)) h0 hg hlt hsp) (trodAll_cons_mk (shut_int Try.underlying3 w4) trodAll_mk0)), by simp⟩) (fun _ _ => rfl) (List.append_nil _).symm
    hg (ok_one (by kernel_rfl) rfl (okWide_bool_mk Try.underlying4 _))⟩

theorem over : Rows.lowerAddressesRow.holds Try.pinned (OpenSpec.ofChange Rows.lowerAddressesSpec) :=
  OpenClaim.holds_of_wide 6 Try.f6 rfl rfl rfl rfl rfl rfl rfl ⟨rfl, rfl, rfl, rfl, rfl⟩ rfl rfl rfl rfl rfl (by kernel_rfl) Try.func6 (by kernel_rfl)
    (of_decide_eq_true (by kernel_rfl)) (by unfold Func.isWrapper; first | (rw [if_pos (by decide +kernel)]; kernel_rfl) | (rw [if_neg (by decide +kernel)]; exact ⟨rfl, rfl⟩))
    (fun os started H enc _ => lifted os started H enc)

/-- The statement. -/
theorem proved : Rows.LowerAddressesSaid := over
#print axioms proved
end Go.Proofs.Ytgaejhhipnpopaa.lowerAddresses
