/-
  GenThreads: in whatever memory, on every schedule, the call returns true. No conditions.
-/
import Derived.Test.YtlpcnaeknbmjdaaGreatPf
import Derived.Test.YtlpcnaeknbmjdaaGreatRows
import Derived.ProofKit
import Derived.OpenShut
import Derived.HandedShaped

namespace Go.Proofs.YtlpcnaeknbmjdaaGreat.genThreads
open Go.ChangeShapes Go.WideShapes Go.ChangeAt Go.RowKit Gn
theorem threads_any (W : World) (cells th : Int) (tv : Value) (T : List ThreadD) (hT : ThreadsR (heapB W) tv T) (hg : goodT3 T) : Calls Tryz.prog 4 #[progV cells tv, .int .i64 th] W fun e w' => e = .returned (.bool true) ∧ Below W.heap.size W w' := by
 refine (gtC_met (heapB W) tv T cells th ⟨hT, hg⟩ W ⟨fun p hp => (by cases hp), fun p hp => (by cases hp), List.nodup_nil, fun p _ q hq => (by cases hq), fun p hp => heapB_sat p hp, fun p _ q hq => (by cases hq)⟩).mono ?_
 rintro e W' ⟨o, ho, ns, rfl, hpost⟩
 rcases List.mem_singleton.1 ho with rfl
 exact ⟨rfl, hpost.os, hpost.tape, hpost.output, hpost.size, fun k hk => hpost.old k hk fun p hp => (by cases hp)⟩
theorem agg_two {cs : Array Value} (h : cs.size = 2) : ∃ c0 c1, Value.agg cs = .agg #[c0, c1] := by
 obtain ⟨l⟩ := cs
 match l, h with
 | [c0, c1], _ => exact ⟨c0, c1, rfl⟩
set_option maxRecDepth 100000 in
theorem lifted (os : Os) (started : os.Started) (H : Type) (enc : TypeId × Value → H) :
  ReturnsInHanded {} Tryz.checked os 4 .any (Rows.genThreadsSpec.pre6 enc Tryz.prog Tryz.f4 Rows.genThreadsRow.domain false) (Rows.genThreadsSpec.post enc Tryz.prog Tryz.f4 false true false false) := by
 refine returnsInHanded_of_change_shaped (C := Tryz.checked) own started (by kernel_rfl) Tryz.func4
  (ChangeSpec.witness6 (enc := enc) (C := Tryz.checked) false ⟨#[], #[.agg #[.int .i64 0, .slice none 0 0], .int .i64 0], []⟩ 8 (by kernel_rfl) (by kernel_rfl) (by kernel_rfl) (by kernel_rfl)) ?_
 intro W base args ds gs before hval0 hW _ hsz0 hsh _
 have hval : ∀ (j : Nat) t v, Tryz.f4.params[j]? = some t → args[j]? = some v → Value.okWide Tryz.prog W .any base t v := hval0
 have hW' := hW
 obtain ⟨p, q, hA0, hV, rfl, hfz, hnd⟩ := hW
 have hA : DataW.TrodAll enc Tryz.prog W 0 (fun _ => true) true Tryz.f4.params.toList args.toList ds p := hA0
 have hsz : (DataW.weightsEach Tryz.prog (Tryz.f4.params.toList ++ Rows.genThreadsSpec.plain.varTypes Tryz.prog) (ds ++ gs)).all (· ≤ reachBytes) = true := hsz0
 rw [Tryz.params4] at hA hval hsz
 obtain ⟨v, v2, d, d2, p1, p2, rfl, rfl, rfl, h0, h1⟩ := trodAll_two hA
 obtain ⟨rfl, rfl⟩ := trodVars_none hV
 clear hA0 hval0
 obtain ⟨th, rfl, rfl, rfl, w1⟩ := open_int Tryz.underlying3 (hval 1 3 v2 rfl rfl) h1
 have hsm : Small Tryz.prog 24 d := small_each (j := 0) rfl rfl fun x hx => by
  have := List.all_eq_true.1 hsz x hx
  simpa using this
 obtain ⟨cs, rfl, hcs⟩ := okWide_struct Tryz.underlying24 (hval 0 24 v rfl rfl)
 have h2 : cs.size = 2 := hcs.trans (by kernel_rfl)
 have hv2 := agg_two h2
 obtain ⟨cells, tv, T, hv, hT, hg⟩ := Gn.open_prog hv2 h0 hsm
 rw [hv] at h0 hW' ⊢
 simp only [List.append_nil, List.nil_append] at hW'
 have hlt : ∀ x ∈ p1, x.block < W.heap.size := fun x hx => hW'.lt x hx
 refine (threads_any W cells th tv T hT hg).mono fun e W' ⟨he, hg⟩ => ?_
 subst he
 exact ⟨_, rfl, post_of_below (pa := p1) (pv := []) hW' (fun _ _ _ => (trodAll_cons_mk (shut_bool Tryz.underlying4 _) trodAll_mk0)) (fun sp hsp => ⟨p1, _, again_any (by kernel_rfl) (of_decide_eq_true (by kernel_rfl)) h0 hg hlt hsp, trodAll_cons_mk (shut_int Tryz.underlying3 w1) trodAll_mk0, by simp⟩) (fun _ _ => rfl) (List.append_nil _).symm
  hg (ok_one (by kernel_rfl) rfl (okWide_bool_mk Tryz.underlying4 _))⟩
theorem over : Rows.genThreadsRow.holds Tryz.pinned (OpenSpec.ofChange Rows.genThreadsSpec) :=
 OpenClaim.holds_of_wide 4 Tryz.f4 rfl rfl rfl rfl rfl rfl rfl ⟨rfl, rfl, rfl, rfl, rfl⟩ rfl rfl rfl rfl rfl (by kernel_rfl) Tryz.func4 (by kernel_rfl)
  (of_decide_eq_true (by kernel_rfl)) (by unfold Func.isWrapper; first | (rw [if_pos (by decide +kernel)]; kernel_rfl) | (rw [if_neg (by decide +kernel)]; exact ⟨rfl, rfl⟩))
  (fun os started H enc _ => lifted os started H enc)
theorem proved : Rows.GenThreadsSaid := over
#print axioms proved
end Go.Proofs.YtlpcnaeknbmjdaaGreat.genThreads
