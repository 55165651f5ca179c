/-
  CheckWhole: in whatever memory, on every schedule, the call returns true. No conditions.
-/
import Derived.Test.YtbgmkefehfjicaaRows
import Derived.Test.YtbgmkefehfjicaaMh
import Derived.Test.YtbgmkefehfjicaaPost
import Derived.Test.YtbgmkefehfjicaaSyH
import Derived.ProofKit
import Derived.OpenShut
import Derived.HandedShaped

namespace Go.Proofs.Ytbgmkefehfjicaa.checkWhole
open Go.ChangeShapes Go.WideShapes Go.ChangeAt Go.RowKit

theorem whole_any (W : World) (m cells : Int) (tv : Value) (T : List ThreadD) (hm : W.cell? ⟨0, 0, none⟩ = some (.int .i64 m)) (hT : ThreadsR (heapB W) tv T) : Calls Try.prog 4 #[progV cells tv] W fun e w' => e = .returned (.bool true) ∧ Below W.heap.size W w' := by
  refine (cwC_met (heapB W) tv T cells m hT W ⟨fun p hp => ?_, fun p hp => (by cases hp), List.nodup_nil, fun p _ q hq => (by cases hq), fun p hp => heapB_sat p hp, fun p _ q hq => (by cases hq)⟩).mono ?_
  · rcases List.mem_singleton.1 hp with rfl
    exact (seg_of (w := W) (a := ⟨0, 0, none⟩) (xs := [.int .i64 m]) (by simp) (fun j u hu => by
      cases j with
      | zero =>
        simp only [List.getElem?_cons_zero, Option.some.injEq] at hu
        subst hu
        exact hm
      | succ j => simp at hu)).2
  · rintro e W' ⟨o, ho, ns, rfl, hpost⟩
    rcases List.mem_singleton.1 ho with rfl
    exact ⟨rfl, hpost.os, hpost.tape, hpost.output, hpost.size, fun k hk => hpost.old k hk fun p hp => (by cases hp)⟩

theorem agg_two {cs : Array Value} (h : cs.size = 2) : ∃ c0 c1, Value.agg cs = .agg #[c0, c1] := by
  obtain ⟨l⟩ := cs
  match l, h with
  | [c0, c1], _ => exact ⟨c0, c1, rfl⟩

set_option maxRecDepth 100000 in
theorem lifted (os : Os) (started : os.Started) (H : Type) (enc : TypeId × Value → H) :
    ReturnsInHanded {} Try.checked os 4 .any (Rows.checkWholeSpec.pre6 enc Try.prog Try.f4 Rows.checkWholeRow.domain false) (Rows.checkWholeSpec.post enc Try.prog Try.f4 false true false false) := by
  refine returnsInHanded_of_change_shaped (C := Try.checked) own started (by kernel_rfl) Try.func4
    (ChangeSpec.witness6 (enc := enc) (C := Try.checked) false ⟨#[], #[.agg #[.int .i64 0, .slice none 0 0]], []⟩ 8 (by kernel_rfl) (by kernel_rfl) (by kernel_rfl) (by kernel_rfl)) ?_
  intro W base args ds gs before hval0 hW _ hsz0 hsh _
  have hval : ∀ (j : Nat) t v, Try.f4.params[j]? = some t → args[j]? = some v → Value.okWide Try.prog W .any base t v := hval0
  have hW' := hW
  obtain ⟨p, q, hA0, hV, rfl, hfz, hnd⟩ := hW
  have hA : DataW.TrodAll enc Try.prog W 0 (fun _ => true) true Try.f4.params.toList args.toList ds p := hA0
  have hsz : (DataW.weightsEach Try.prog (Try.f4.params.toList ++ Rows.checkWholeSpec.plain.varTypes Try.prog) (ds ++ gs)).all (· ≤ reachBytes) = true := hsz0
  rw [Try.params4] at hA hval hsz
  obtain ⟨v, d, rfl, rfl, h0⟩ := trodAll_one hA
  obtain ⟨rfl, rfl⟩ := trodVars_none hV
  clear hA0 hval0
  have hsm : Small Try.prog 27 d := small_each (j := 0) rfl rfl fun x hx => by
    have := List.all_eq_true.1 hsz x hx
    simpa using this
  obtain ⟨cs, rfl, hcs⟩ := okWide_struct Try.underlying27 (hval 0 27 v rfl rfl)
  have h2 : cs.size = 2 := hcs.trans (by kernel_rfl)
  have hv2 := agg_two h2
  obtain ⟨cells, tv, T, hv, hT⟩ := open_prog hv2 h0 hsm
  rw [hv] at h0 hW' ⊢
  simp only [List.append_nil, List.nil_append] at hW'
  have hlt : ∀ x ∈ p, x.block < W.heap.size := fun x hx => hW'.lt x hx
  obtain ⟨m, hm⟩ := Try.laysM144.s1_3 W hsh
  refine (whole_any W m cells tv T hm hT).mono fun e W' ⟨he, hg⟩ => ?_
  subst he
  exact ⟨_, rfl, post_of_below (pa := p) (pv := []) hW' (fun _ _ _ => (trodAll_cons_mk (shut_bool Try.underlying4 _) trodAll_mk0)) (fun sp hsp => ⟨p, _, again_any (by kernel_rfl) (of_decide_eq_true (by kernel_rfl)) h0 hg hlt hsp, trodAll_mk0, by simp⟩) (fun _ _ => rfl) (List.append_nil _).symm
    hg (ok_one (by kernel_rfl) rfl (okWide_bool_mk Try.underlying4 _))⟩

theorem over : Rows.checkWholeRow.holds Try.pinned (OpenSpec.ofChange Rows.checkWholeSpec) :=
  OpenClaim.holds_of_wide 4 Try.f4 rfl rfl rfl rfl rfl rfl rfl ⟨rfl, rfl, rfl, rfl, rfl⟩ rfl rfl rfl rfl rfl (by kernel_rfl) Try.func4 (by kernel_rfl)
    (of_decide_eq_true (by kernel_rfl)) (by unfold Func.isWrapper; first | (rw [if_pos (by decide +kernel)]; kernel_rfl) | (rw [if_neg (by decide +kernel)]; exact ⟨rfl, rfl⟩))
    (fun os started H enc _ => lifted os started H enc)

/-- The statement. -/
theorem proved : Rows.CheckWholeSaid := over
#print axioms proved
end Go.Proofs.Ytbgmkefehfjicaa.checkWhole
