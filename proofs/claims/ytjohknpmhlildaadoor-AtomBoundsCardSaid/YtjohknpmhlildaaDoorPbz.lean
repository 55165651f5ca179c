/-
  AtomBounds: in whatever memory, on every schedule, the call returns true. No conditions.
-/
import Derived.Test.YtjohknpmhlildaaDoorPbe
import Derived.Test.YtjohknpmhlildaaDoorRows
import Derived.Test.YtjohknpmhlildaaDoorCards
import Derived.Test.YtjohknpmhlildaaDoorTie
import Derived.ProofKit
import Derived.OpenShut
import Derived.SevenTiedAt

set_option linter.unusedVariables false
set_option linter.unusedSimpArgs false
namespace Go.Proofs.YtjohknpmhlildaaDoor.atomBounds
open Go Go.ChangeShapes Go.WideShapes Go.ChangeAt Go.RowKit
open Go.Proofs.YtjohknpmhlildaaDoor.At (laidL abC_met opsV_mono picksV_mono farB_app law_any tab_of open_begins open_picks weights_at wrap_laid )
theorem door_met (os : Os) (args : Array Value) : laidMetH Tryd.prog laidL ((World.doorLaid Tryd.prog 400 os).forCall (fun _ _ => 0) ⟨#[], args, []⟩).memory :=
 laidMetH_of_parts3 (fuel := 8) (laidMet_of_run' 8 (by kernel_rfl) (by kernel_rfl)) (by kernel_rfl) (by kernel_rfl)
set_option maxRecDepth 100000 in
theorem lifted (os : Os) (started : os.Started) (H : Type) (enc : TypeId × Value → H) :
  ReturnsInHanded {} Tryd.checked os 6 .any (fun w args => (Rows.atomBoundsSpec.pre enc Tryd.prog Tryd.f6 Rows.atomBoundsRow.domain false w args ∧ laidMetH Tryd.prog laidL w) ∧ sizedMet enc Tryd.prog Tryd.f6 (OpenSpec.ofChange Rows.atomBoundsSpec) false w args)
   (Rows.atomBoundsSpec.post enc Tryd.prog Tryd.f6 false true false false) := by
 refine wrap_laid (C := Tryd.checked) (X := fun w _ => laidMetH Tryd.prog laidL w) (fun _ _ _ hh h => h.of_heap hh) own started (by kernel_rfl) Tryd.func6
  (ChangeSpec.witness_shaped (enc := enc) (C := Tryd.checked) (os := os) (X := fun w _ => laidMetH Tryd.prog laidL w) false (World.doorLaid Tryd.prog 400 os) #[.int .i64 0, .slice none 0 0, .slice none 0 0] 8 rfl (World.shaped_of_RefB (by kernel_rfl) (by kernel_rfl)) (by kernel_rfl) (by kernel_rfl) (by kernel_rfl) (door_met os _)) ?_
 intro W base args ds gs before hval0 hW hsz0 hL hsh
 have hval : ∀ (j : Nat) t v, Tryd.f6.params[j]? = some t → args[j]? = some v → Value.okWide Tryd.prog W .any base t v := hval0
 have hW' := hW
 obtain ⟨p, q, hA0, hV, rfl, hfz, hnd⟩ := hW
 have hA : DataW.TrodAll enc Tryd.prog W 0 (fun _ => true) true Tryd.f6.params.toList args.toList ds p := hA0
 have hsz : (DataW.weightsEach Tryd.prog (Tryd.f6.params.toList ++ Rows.atomBoundsSpec.plain.varTypes Tryd.prog) (ds ++ gs)).all (· ≤ reachBytes) = true := hsz0
 rw [Tryd.params6] at hA hval hsz
 obtain ⟨v0, v2, v3, d0, d2, d3, p0, pb, pp, rfl, rfl, rfl, h0, h2, h3⟩ := trodAll_three hA
 obtain ⟨rfl, rfl⟩ := trodVars_none hV
 clear hA0 hval0
 obtain ⟨t, rfl, rfl, rfl, w0⟩ := open_int Tryd.underlying3 (hval 0 3 v0 rfl rfl) h0
 simp only [List.append_nil, List.nil_append] at hW'
 obtain ⟨B1, ops, hO, hF1⟩ := open_begins (hval 1 22 v2 rfl rfl) h2
 obtain ⟨B2, P, hP, hF2, hpl⟩ := open_picks (hval 2 35 v3 rfl rfl) h3 (weights_at (j := 2) rfl rfl fun x hx => by have := List.all_eq_true.1 hsz x hx; simpa using this)
 have hlt : ∀ x ∈ pb ++ pp, x.block < W.heap.size := fun x hx => hW'.lt x hx
 refine (law_any (abC_met t v2 v3 ops P (B1 ++ B2)) ⟨opsV_mono hO fun _ h => List.mem_append_left _ h, picksV_mono hP fun _ h => List.mem_append_right _ h, hpl⟩ W (farB_app hF1 hF2) (tab_of hL hsh)).mono fun e W' ⟨he, hg⟩ => ?_
 subst he
 exact ⟨_, rfl, post_of_below (pa := pb ++ pp) (pv := []) hW' (fun _ _ _ => (trodAll_cons_mk (shut_bool Tryd.underlying4 _) trodAll_mk0)) (fun sp hsp => by
   have := trodAll_cons_mk (shut_int Tryd.underlying3 w0) (trodAll_cons_mk (again_any (by kernel_rfl) (of_decide_eq_true (by kernel_rfl)) h2 hg (fun x hx => hlt x (List.mem_append_left _ hx)) (fun x hx => hsp x (List.mem_append_left _ hx))) (trodAll_cons_mk (again_any (by kernel_rfl) (of_decide_eq_true (by kernel_rfl)) h3 hg (fun x hx => hlt x (List.mem_append_right _ hx)) (fun x hx => hsp x (List.mem_append_right _ hx))) trodAll_mk0))
   simp only [List.append_nil, List.nil_append] at this
   exact this) (fun _ _ => rfl) (List.append_nil _).symm
  hg (ok_one (by kernel_rfl) rfl (okWide_bool_mk Tryd.underlying4 _))⟩
theorem over : Rows.atomBoundsRow.holds Tryd.pinned (OpenSpec.ofChange Rows.atomBoundsSpec) :=
 OpenClaim.holds_of_wide 6 Tryd.f6 rfl rfl rfl rfl rfl rfl rfl ⟨rfl, rfl, rfl, rfl, rfl⟩ rfl rfl rfl rfl rfl (by kernel_rfl) Tryd.func6 (by kernel_rfl)
  (of_decide_eq_true (by kernel_rfl)) (by unfold Func.isWrapper; first | (rw [if_pos (by decide +kernel)]; kernel_rfl) | (rw [if_neg (by decide +kernel)]; exact ⟨rfl, rfl⟩))
  (fun os started H enc _ => lifted os started H enc)
theorem proved : Rows.AtomBoundsCardSaid :=
 Claim7.holds_tied_plain_at .later [] [.data] true (true, "abc16a1ec7bf849be58c8fc6a7d55c08b0e941ef9f962cdc0af3c44a05f29d7d") false
  over (fun _ h => by cases h) (by kernel_rfl) (fun _ h => by cases h) atomBounds_row_tie rfl ⟨rfl, rfl⟩ (by kernel_rfl) rfl
  (fun f fn hf hfn => by
   obtain rfl : f = 6 := Option.some.inj ((show Tryd.prog.funcNamed "sextant/sextantlaw3.AtomBounds" = some 6 by kernel_rfl).symm.trans hf) |>.symm
   obtain rfl : fn = Tryd.f6 := (Option.some.inj (Tryd.func6.symm.trans hfn)).symm
   exact ⟨by kernel_rfl, fun j t ht => by
    rw [Tryd.params6] at ht
    have hm : t ∈ [3, 22, 35] := by simpa using Array.mem_of_getElem? ht
    have hall : ([3, 22, 35].all fun u => !Tryd.prog.wantsStandIn u) = true := by kernel_rfl
    exact (show Tryd.prog.wantsStandIn t = false by simpa using List.all_eq_true.1 hall t hm)⟩)
  (by kernel_rfl)
#print axioms proved
end Go.Proofs.YtjohknpmhlildaaDoor.atomBounds
